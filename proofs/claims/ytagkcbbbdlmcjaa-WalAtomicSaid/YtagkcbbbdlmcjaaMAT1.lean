/- Parts of a proof, one behind the other: readings of functions, what they do, and what follows. -/
import Derived.Test.YtagkcbbbdlmcjaaMAT0
set_option linter.unusedVariables false
set_option linter.unusedSimpArgs false
section
/- The typed readings of the functions, and that the program meets each: written by gen.py (a program of this session). -/
namespace Go.Proofs.Ytagkcbbbdlmcjaa
open Go.Lift
abbrev r3 : Bool → Value := fun (x : Bool) => .bool x
abbrev r4 : Bool → Value := fun (x : Bool) => .bool x
abbrev r5 : Bool → Value := fun (x : Bool) => .bool x
abbrev r6 : Bool → Value := fun (x : Bool) => .bool x
abbrev r7 : Bool → Value := fun (x : Bool) => .bool x
abbrev r8 : Bool → Value := fun (x : Bool) => .bool x
abbrev r9 : Bool → Value := fun (x : Bool) => .bool x
abbrev r10 : Bool → Value := fun (x : Bool) => .bool x
abbrev r11 : Bool → Value := fun (x : Bool) => .bool x
abbrev r12 : Bool → Value := fun (x : Bool) => .bool x
abbrev r13 : Bool → Value := fun (x : Bool) => .bool x
abbrev r14 : Bool → Value := fun (x : Bool) => .bool x
abbrev r15 : Option Addr × Int → Value := fun (x : Option Addr × Int) => .tuple #[.pointer x.1, .int .i64 x.2]
abbrev r16 : Option Addr × Sl × Int → Value := fun (x : Option Addr × Sl × Int) => .tuple #[.pointer x.1, Sl.v x.2.1, .int .i64 x.2.2]
abbrev r17 : Int → Value := fun (x : Int) => .int .i64 x
abbrev r18 : List UInt8 → Value := fun (x : List UInt8) => str x
abbrev r19 : Int → Value := fun (x : Int) => .int .i64 x
abbrev r20 : Int → Value := fun (x : Int) => .int .i64 x
abbrev r21 : Int → Value := fun (x : Int) => .int .i64 x
abbrev r22 : Int → Value := fun (x : Int) => .int .i64 x
abbrev r23 : Int → Value := fun (x : Int) => .int .i64 x
abbrev r24 : List Value → Value := fun (x : List Value) => aggv x
abbrev r25 : Bool → Value := fun (x : Bool) => .bool x
abbrev r26 : Bool → Value := fun (x : Bool) => .bool x
abbrev r27 : Bool → Value := fun (x : Bool) => .bool x
abbrev r28 : Sl × Int → Value := fun (x : Sl × Int) => .tuple #[Sl.v x.1, .int .i64 x.2]
abbrev r29 : List UInt8 → Value := fun (x : List UInt8) => str x
abbrev r30 : Bool → Value := fun (x : Bool) => .bool x
abbrev r31 : Bool → Value := fun (x : Bool) => .bool x
abbrev r32 : Sl → Value := fun (x : Sl) => Sl.v x
abbrev r33 : Int → Value := fun (x : Int) => .int .i64 x
abbrev r34 : Int → Value := fun (x : Int) => .int .i64 x
abbrev r35 : Unit → Value := fun (_ : Unit) => .tuple #[]
abbrev r36 : Option Addr → Value := fun (x : Option Addr) => .pointer x
abbrev r37 : Unit → Value := fun (_ : Unit) => .tuple #[]
abbrev r38 : Bool → Value := fun (x : Bool) => .bool x
abbrev r39 : Int → Value := fun (x : Int) => .int .i64 x
abbrev r40 : List Value × Bool → Value := fun (x : List Value × Bool) => .tuple #[aggv x.1, .bool x.2]
abbrev r41 : List UInt8 → Value := fun (x : List UInt8) => str x
abbrev r42 : List Value × Int → Value := fun (x : List Value × Int) => .tuple #[aggv x.1, .int .i64 x.2]
abbrev r43 : Bool → Value := fun (x : Bool) => .bool x
abbrev r44 : Sl → Value := fun (x : Sl) => Sl.v x
abbrev r45 : Bool → Value := fun (x : Bool) => .bool x
abbrev r46 : Bool → Value := fun (x : Bool) => .bool x
abbrev r47 : Int × Int → Value := fun (x : Int × Int) => .tuple #[.int .u64 x.1, .int .i64 x.2]
abbrev r48 : Int → Value := fun (x : Int) => .int .i64 x
abbrev r49 : Sl → Value := fun (x : Sl) => Sl.v x
abbrev r50 : Sl × Int → Value := fun (x : Sl × Int) => .tuple #[Sl.v x.1, .int .i64 x.2]
abbrev r51 : List UInt8 → Value := fun (x : List UInt8) => str x
abbrev r52 : List UInt8 → Value := fun (x : List UInt8) => str x
abbrev r53 : Sl → Value := fun (x : Sl) => Sl.v x
abbrev r54 : Sl → Value := fun (x : Sl) => Sl.v x
abbrev r55 : List Value × Sl × Int → Value := fun (x : List Value × Sl × Int) => .tuple #[aggv x.1, Sl.v x.2.1, .int .i64 x.2.2]
abbrev r56 : List Value × Int → Value := fun (x : List Value × Int) => .tuple #[aggv x.1, .int .i64 x.2]
abbrev r57 : List Value × Int → Value := fun (x : List Value × Int) => .tuple #[aggv x.1, .int .i64 x.2]
abbrev r58 : List Value → Value := fun (x : List Value) => aggv x
abbrev r59 : Int → Value := fun (x : Int) => .int .i64 x
abbrev r60 : Sl → Value := fun (x : Sl) => Sl.v x
abbrev r61 : Int → Value := fun (x : Int) => .int .i64 x
abbrev r62 : Sl → Value := fun (x : Sl) => Sl.v x
abbrev r63 : Sl → Value := fun (x : Sl) => Sl.v x
abbrev r64 : Sl → Value := fun (x : Sl) => Sl.v x
abbrev r65 : List Value × Int → Value := fun (x : List Value × Int) => .tuple #[aggv x.1, .int .i64 x.2]
abbrev r66 : Int → Value := fun (x : Int) => .int .i64 x
abbrev r67 : List UInt8 → Value := fun (x : List UInt8) => str x
abbrev r68 : List Value × Int → Value := fun (x : List Value × Int) => .tuple #[aggv x.1, .int .i64 x.2]
abbrev r69 : Int → Value := fun (x : Int) => .int .u64 x
abbrev r70 : Sl → Value := fun (x : Sl) => Sl.v x
abbrev r71 : Sl → Value := fun (x : Sl) => Sl.v x
abbrev r72 : Option Addr → Value := fun (x : Option Addr) => .pointer x
abbrev r73 : Int → Value := fun (x : Int) => .int .u64 x
abbrev r74 : Int → Value := fun (x : Int) => .int .i64 x
abbrev r75 : Int → Value := fun (x : Int) => .int .i64 x
abbrev r76 : Int → Value := fun (x : Int) => .int .u32 x
abbrev r77 : Int → Value := fun (x : Int) => .int .u32 x
abbrev r78 : Sl → Value := fun (x : Sl) => Sl.v x
abbrev r79 : Int × Int → Value := fun (x : Int × Int) => .tuple #[.int .u64 x.1, .int .i64 x.2]
abbrev r80 : List Value × Int → Value := fun (x : List Value × Int) => .tuple #[aggv x.1, .int .i64 x.2]
abbrev r81 : Sl × Int → Value := fun (x : Sl × Int) => .tuple #[Sl.v x.1, .int .i64 x.2]
abbrev r82 : Sl → Value := fun (x : Sl) => Sl.v x
abbrev r83 : Sl → Value := fun (x : Sl) => Sl.v x
abbrev r84 : Sl → Value := fun (x : Sl) => Sl.v x
abbrev r85 : Int → Value := fun (x : Int) => .int .u64 x
abbrev r86 : Int → Value := fun (x : Int) => .int .u64 x
abbrev r87 : List Value × Int → Value := fun (x : List Value × Int) => .tuple #[aggv x.1, .int .u64 x.2]
/-- dowser/dowserlaw04.WalAtomic -/
def s11 (K : Bool → World → Prop) (p0 : Sl) (p1 : Sl) (p2 : List Value) (w : World) : Prop :=
 newB 27 p2 w fun b1 w2 =>
 cR Try.prog 13 r13 #[] w2 fun x3 w4 =>
 jn (J := Bool → World → Prop) (fun J6 =>
  ifB (!x3) (
   J6 true w4) (
   newB 29 ([Value.int .i64 0, Sl.v p0, Value.int .i64 0, Value.int .u64 0, Value.int .i64 0] ++ [Value.int .i64 0, Sl.v p1, Value.int .i64 0, Value.int .u64 0, Value.int .i64 0]) w4 fun b7 w8 =>
   cR Try.prog 14 r14 #[.int .i64 3, Sl.v ⟨some ⟨b7, 0, none⟩, 2, 2⟩] w8 fun x9 w10 =>
   J6 (!x9) w10)) fun s11 w12 =>
 ifB s11 (
  cR Try.prog 13 r13 #[] w12 fun x18 w19 =>
  K x18 w19) (
  cR Try.prog 15 r15 #[.int .i64 40] w12 fun x20 w21 =>
  cR Try.prog 16 r16 #[.pointer x20.1, .int .i64 0, .int .i64 40] w21 fun x22 w23 =>
  ifB (!decide (x22.2.2 = 0)) (
   K false w23) (
   cR Try.prog 20 r20 #[.pointer x22.1, Sl.v p0] w23 fun x25 w26 =>
   ifB (!decide (x25 = 0)) (
    cR Try.prog 17 r17 #[.pointer x22.1] w26 fun x28 w29 =>
    K (decide (x28 < 20480)) w29) (
    drw w26 fun w30 =>
    ldI .i64 (Addr.add ⟨b1, 0, none⟩ 0) w26 fun x32 =>
    cR Try.prog 19 r19 #[.pointer x20.1] w30 fun x33 w34 =>
    rq (Ext w26 w34) <|
    st1 (Addr.add ⟨b1, 0, none⟩ 0) (.int .i64 (IntKind.i64.wrap (x33 + (IntKind.i64.wrap (Int.tmod (IntKind.u64.wrap x32) 45))))) w34 fun w36 =>
    ldA 3 ⟨b1, 0, none⟩ w36 fun x37 =>
    newA 3 27 x37 w36 fun b38 w39 =>
    cR Try.prog 37 r37 #[.pointer x20.1, Sl.v ⟨some ⟨b38, 0, none⟩, 1, 1⟩] w39 fun x40 w41 =>
    cR Try.prog 20 r20 #[.pointer x22.1, Sl.v p1] w41 fun x42 w43 =>
    ifB (decide (x42 = 40)) (
     K true w43) (
     ldA 3 ⟨b1, 0, none⟩ w43 fun x45 =>
     cR Try.prog 35 r35 #[.pointer x20.1, aggv x45] w43 fun x46 w47 =>
     cR Try.prog 27 r27 #[.pointer x20.1] w47 fun x48 w49 =>
     cR Try.prog 16 r16 #[.pointer x20.1, .int .i64 0, .int .i64 40] w49 fun x50 w51 =>
     cR Try.prog 44 r44 #[Sl.v p0] w51 fun x52 w53 =>
     cR Try.prog 44 r44 #[Sl.v p1] w53 fun x54 w55 =>
     app Try.prog 45 x52 x54 w55 fun x56 w57 =>
     jn (J := Bool → World → Prop) (fun J59 =>
      ifB (decide (x50.2.2 = 0)) (
       cR Try.prog 45 r45 #[Sl.v x50.2.1, Sl.v x56] w57 fun x60 w61 =>
       jn (J := Bool → World → Prop) (fun J63 =>
        ifB x60 (
         J63 true w61) (
         jn (J := Bool → World → Prop) (fun J65 =>
          ifB (!decide (x42 = 0)) (
           cR Try.prog 44 r44 #[Sl.v p0] w61 fun x66 w67 =>
           cR Try.prog 45 r45 #[Sl.v x50.2.1, Sl.v x66] w67 fun x68 w69 =>
           J65 x68 w69) (
           J65 false w61)) fun s70 w71 =>
         J63 s70 w71)) fun s77 w78 =>
       J59 s77 w78) (
       J59 false w57)) fun s83 w84 =>
     K s83 w84))))
/-- dowser/dowserlaw04.lives -/
def s13 (K : Bool → World → Prop)  (w : World) : Prop :=
 cR Try.prog 15 r15 #[.int .i64 4] w fun x1 w2 =>
 cR Try.prog 16 r16 #[.pointer x1.1, .int .i64 1, .int .i64 3] w2 fun x3 w4 =>
 jn (J := Bool → World → Prop) (fun J6 =>
  ifB (x3.1.isNone) (
   J6 true w4) (
   J6 (!decide ((x3.2.1.len : Int) = 0)) w4)) fun s7 w8 =>
 jn (J := Bool → World → Prop) (fun J14 =>
  ifB s7 (
   J14 true w8) (
   J14 (!decide (x3.2.2 = 0)) w8)) fun s15 w16 =>
 jn (J := Bool → World → Prop) (fun J21 =>
  ifB s15 (
   J21 true w16) (
   newB 5 [.int .u8 97, .int .u8 98] w16 fun b22 w23 =>
   mkd ⟨some ⟨b22, 0, none⟩, 2, 2⟩ w23 fun w24 =>
   newB 39 [Sl.v ⟨some ⟨b22, 0, none⟩, 2, 2⟩, Sl.v nilSl] w24 fun b25 w26 =>
   cR Try.prog 20 r20 #[.pointer x3.1, Sl.v ⟨some ⟨b25, 0, none⟩, 2, 2⟩] w26 fun x27 w28 =>
   J21 (!decide (x27 = 0)) w28)) fun s29 w30 =>
 ifB s29 (
  K false w30) (
  cR Try.prog 16 r16 #[.pointer x1.1, .int .i64 1, .int .i64 3] w30 fun x35 w36 =>
  jn (J := Bool → World → Prop) (fun J38 =>
   ifB (decide (x35.2.2 = 0)) (
    J38 (decide ((x35.2.1.len : Int) = 2)) w36) (
    J38 false w36)) fun s39 w40 =>
  jn (J := Bool → World → Prop) (fun J45 =>
   ifB s39 (
    ix x35.2.1 1 0 fun a46 =>
    ldL a46 w40 fun x48 =>
    b2s x48 w40 fun x49 =>
    J45 (decide (x49 = [97, 98])) w40) (
    J45 false w40)) fun s50 w51 =>
  jn (J := Bool → World → Prop) (fun J56 =>
   ifB s50 (
    ix x35.2.1 1 1 fun a57 =>
    ldL a57 w51 fun x59 =>
    J56 (decide ((x59.len : Int) = 0)) w51) (
    J56 false w51)) fun s60 w61 =>
  jn (J := Bool → World → Prop) (fun J65 =>
   ifB s60 (
    cR Try.prog 17 r17 #[.pointer x3.1] w61 fun x66 w67 =>
    J65 (decide (x66 = 500)) w67) (
    J65 false w61)) fun s68 w69 =>
  jn (J := Bool → World → Prop) (fun J73 =>
   ifB s68 (
    cR Try.prog 22 r22 #[.pointer x3.1] w69 fun x74 w75 =>
    J73 (decide (x74 = 2)) w75) (
    J73 false w69)) fun s76 w77 =>
  K s76 w77)
/-- dowser/dowserlaw04.fits -/
def s14 (K : Bool → World → Prop) (p0 : Int) (p1 : Sl) (w : World) : Prop :=
 jn (J := Bool → World → Prop) (fun J2 =>
  ifB (decide (p0 < 3)) (
   J2 true w) (
   J2 (decide (7 < p0)) w)) fun s3 w4 =>
 jn (J := Bool → World → Prop) (fun J8 =>
  ifB s3 (
   J8 true w4) (
   J8 (decide (30 < (p1.len : Int))) w4)) fun s9 w10 =>
 ifB s9 (
  K false w10) (
  LoopS (σ := Int) (fun next16 s14 w15 =>
   ifB (decide (s14 < (p1.len : Int))) (
    ix p1 5 s14 fun a21 =>
    ldA 5 a21 w15 fun x23 =>
    newA 5 29 x23 w15 fun b24 w25 =>
    ldL (Addr.add ⟨b24, 0, none⟩ 1) w25 fun x26 =>
    ifB (decide (6 < (x26.len : Int))) (
     K false w25) (
     ldL (Addr.add ⟨b24, 0, none⟩ 1) w25 fun x28 =>
     LoopS (σ := Int) (fun next31 s29 w30 =>
      ifB (decide (s29 < (x28.len : Int))) (
       ix x28 1 s29 fun a39 =>
       ldL a39 w30 fun x41 =>
       ifB (decide (3000 < (x41.len : Int))) (
        K false w30) (
        next31 (IntKind.i64.wrap (s29 + 1)) w30)) (
       next16 (IntKind.i64.wrap (s14 + 1)) w30)) 0 w25)) (
    K true w15)) 0 w10)
/-- dowser/disk.New -/
def s15 (K : Option Addr × Int → World → Prop) (p0 : Int) (w : World) : Prop :=
 jn (J := Bool → World → Prop) (fun J2 =>
  ifB (decide (p0 < 1)) (
   J2 true w) (
   J2 (decide (4096 < p0)) w)) fun s3 w4 =>
 ifB s3 (
  K (none, 1) w4) (
  mkS 112 1024 1024 (Value.int .u8 0) p0 p0 w4 fun x10 w9 =>
  newB 93 [Sl.v x10, Value.slice none 0 0, Value.slice none 0 0, Value.int .i64 0, Value.bool false] w9 fun b11 w12 =>
  K (some ⟨b11, 0, none⟩, 0) w12)
/-- dowser/wal.Open -/
def s16 (K : Option Addr × Sl × Int → World → Prop) (p0 : Option Addr) (p1 : Int) (p2 : Int) (w : World) : Prop :=
 jn (J := Bool → World → Prop) (fun J2 =>
  ifB (p0.isNone) (
   J2 true w) (
   J2 (decide (p1 < 0)) w)) fun s3 w4 =>
 jn (J := Bool → World → Prop) (fun J10 =>
  ifB s3 (
   J10 true w4) (
   J10 (decide (p2 < 3)) w4)) fun s11 w12 =>
 jn (J := Bool → World → Prop) (fun J18 =>
  ifB s11 (
   J18 true w12) (
   cR Try.prog 39 r39 #[.pointer p0] w12 fun x19 w20 =>
   J18 (decide (x19 < p2)) w20)) fun s21 w22 =>
 jn (J := Bool → World → Prop) (fun J28 =>
  ifB s21 (
   J28 true w22) (
   cR Try.prog 39 r39 #[.pointer p0] w22 fun x29 w30 =>
   J28 (decide ((IntKind.i64.wrap (x29 - p2)) < p1)) w30)) fun s31 w32 =>
 ifB s31 (
  K (none, nilSl, 1) w32) (
  newB 95 [.pointer p0, .int .i64 p1, .int .i64 (IntKind.i64.wrap ((IntKind.i64.wrap (p2 - 2)) * 512)), Value.int .u64 0, Value.slice none 0 0, Value.int .i64 0, Value.bool false] w32 fun b38 w39 =>
  LoopS (σ := Int × Int) (fun next42 s40 w41 =>
   ifB (decide (s40.2 < 2)) (
    jn (J := Int → World → Prop) (fun J49 =>
     cR Try.prog 28 r28 #[.pointer p0, .int .i64 (IntKind.i64.wrap (p1 + s40.2))] w41 fun x50 w51 =>
     ifB (!decide (x50.2 = 0)) (
      K (none, nilSl, x50.2) w51) (
      ldI .i64 (Addr.add ⟨b38, 0, none⟩ 2) w51 fun x53 =>
      cR Try.prog 47 r47 #[Sl.v x50.1, .int .i64 x53] w51 fun x54 w55 =>
      ldI .u64 (Addr.add ⟨b38, 0, none⟩ 3) w55 fun x56 =>
      ifB (decide (x56 < x54.1)) (
       st1 (Addr.add ⟨b38, 0, none⟩ 3) (.int .u64 x54.1) w55 fun w58 =>
       J49 x54.2 w58) (
       J49 s40.1 w55))) fun s59 w60 =>
    next42 (s59, (IntKind.i64.wrap (s40.2 + 1))) w60) (
    ldI .u64 (Addr.add ⟨b38, 0, none⟩ 3) w41 fun x68 =>
    ifB (decide (x68 = 0)) (
     cR Try.prog 48 r48 #[.pointer (some ⟨b38, 0, none⟩), .int .u64 1, .int .i64 0] w41 fun x70 w71 =>
     ifB (!decide (x70 = 0)) (
      K (none, nilSl, x70) w71) (
      K (some ⟨b38, 0, none⟩, nilSl, 0) w71)) (
     LoopS (σ := Sl × Int) (fun next75 s73 w74 =>
      ifB (decide (s73.2 < s40.1)) (
       cR Try.prog 28 r28 #[.pointer p0, .int .i64 (IntKind.i64.wrap ((IntKind.i64.wrap (p1 + 2)) + (IntKind.i64.wrap (Int.tdiv s73.2 512))))] w74 fun x83 w84 =>
       ifB (!decide (x83.2 = 0)) (
        K (none, nilSl, x83.2) w84) (
        app Try.prog 39 s73.1 x83.1 w84 fun x86 w87 =>
        next75 (x86, (IntKind.i64.wrap (s73.2 + 512))) w87)) (
       rq ((0 : Int) ≤ 0 ∧ (0 : Int) ≤ s40.1 ∧ (s40.1 : Int) ≤ (s73.1.cap : Int)) <|
       cR Try.prog 49 r49 #[Sl.v (s73.1.cut 1 0 s40.1 s73.1.cap)] w74 fun x88 w89 =>
       st1 (Addr.add ⟨b38, 0, none⟩ 4) (Sl.v x88) w89 fun w90 =>
       ldL (Addr.add ⟨b38, 0, none⟩ 4) w90 fun x91 =>
       cR Try.prog 50 r50 #[Sl.v x91] w90 fun x92 w93 =>
       ifB (!decide (x92.2 = 0)) (
        K (none, nilSl, x92.2) w93) (
        st1 (Addr.add ⟨b38, 0, none⟩ 5) (.int .i64 (x92.1.len : Int)) w93 fun w95 =>
        K (some ⟨b38, 0, none⟩, x92.1, 0) w95))) (nilSl, 0) w41))) (0, 0) w39)
/-- (*dowser/wal.Log).Room -/
def s17 (K : Int → World → Prop) (p0 : Option Addr) (w : World) : Prop :=
 ifB (p0.isNone) (
  K 0 w) (
  drw w fun w2 =>
  nn p0 fun a4 =>
  ldI .i64 (Addr.add a4 2) w fun x6 =>
  nn p0 fun a7 =>
  ldL (Addr.add a7 4) w fun x9 =>
  K (IntKind.i64.wrap (x6 - (x9.len : Int))) w2)
/-- dowser/dowserref04.Frame -/
def s18 (K : List UInt8 → World → Prop) (p0 : List UInt8) (w : World) : Prop :=
 cR Try.prog 51 r51 #[.int .u64 (IntKind.u64.wrap (p0.length : Int))] w fun x1 w2 =>
 cR Try.prog 52 r52 #[str p0] w2 fun x3 w4 =>
 rq ((0 : Int) ≤ (p0.length : Int) ∧ ((p0.length : Int) : Int) ≤ (x3.length : Int) ∧ ((x3.length : Int) : Int) ≤ (x3.length : Int)) <|
 rq (x1.length + ((x3.take (Int.toNat (x3.length : Int))).drop (Int.toNat (p0.length : Int))).length ≤ 9223372036854775807) <|
 rq ((x1 ++ ((x3.take (Int.toNat (x3.length : Int))).drop (Int.toNat (p0.length : Int)))).length + p0.length ≤ 9223372036854775807) <|
 K ((x1 ++ ((x3.take (Int.toNat (x3.length : Int))).drop (Int.toNat (p0.length : Int)))) ++ p0) w4
/-- (*dowser/disk.Disk).Changes -/
def s19 (K : Int → World → Prop) (p0 : Option Addr) (w : World) : Prop :=
 ifB (p0.isNone) (
  K 0 w) (
  nn p0 fun a2 =>
  ldI .i64 (Addr.add a2 3) w fun x4 =>
  K x4 w)
/-- (*dowser/wal.Log).Add -/
def s20 (K : Int → World → Prop) (p0 : Option Addr) (p1 : Sl) (w : World) : Prop :=
 cR Try.prog 46 r46 #[.pointer p0] w fun x1 w2 =>
 ifB x1 (
  K 3 w2) (
  ifB (decide ((p1.len : Int) = 0)) (
   K 0 w2) (
   nn p0 fun a5 =>
   ldL (Addr.add a5 4) w2 fun x7 =>
   cR Try.prog 53 r53 #[Sl.v x7] w2 fun x8 w9 =>
   LoopS (σ := Sl × Int) (fun next12 s10 w11 =>
    ifB (decide (s10.2 < (p1.len : Int))) (
     ix p1 1 s10.2 fun a20 =>
     ldL a20 w11 fun x22 =>
     nn p0 fun a23 =>
     ldI .i64 (Addr.add a23 2) w11 fun x25 =>
     ifB (decide ((IntKind.i64.wrap (x25 - (s10.1.len : Int))) < (x22.len : Int))) (
      K 40 w11) (
      cR Try.prog 54 r54 #[Sl.v x22] w11 fun x27 w28 =>
      app Try.prog 39 s10.1 x27 w28 fun x29 w30 =>
      next12 (x29, (IntKind.i64.wrap (s10.2 + 1))) w30)) (
     nn p0 fun a31 =>
     ldI .i64 (Addr.add a31 2) w11 fun x33 =>
     jn (J := Bool → World → Prop) (fun J35 =>
      ifB (decide (x33 < (s10.1.len : Int))) (
       J35 true w11) (
       nn p0 fun a36 =>
       ldI .u64 (Addr.add a36 3) w11 fun x38 =>
       J35 (decide (x38 = 4611686018427387904)) w11)) fun s39 w40 =>
     ifB s39 (
      K 40 w40) (
      nn p0 fun a46 =>
      ldL (Addr.add a46 4) w40 fun x48 =>
      LoopS (σ := Int) (fun next51 s49 w50 =>
       ifB (decide ((IntKind.i64.wrap (s49 * 512)) < (s10.1.len : Int))) (
        mkS 5 1 1 (Value.int .u8 0) 512 512 w50 fun x59 w58 =>
        rq ((0 : Int) ≤ (IntKind.i64.wrap (s49 * 512)) ∧ ((IntKind.i64.wrap (s49 * 512)) : Int) ≤ (s10.1.len : Int)) <|
        cpy Try.prog #[39, 39] 3 #[Sl.v x59, Sl.v (s10.1.cut 1 (IntKind.i64.wrap (s49 * 512)) (s10.1.len : Int) s10.1.cap)] w58 fun x60 w61 =>
        drw w61 fun w62 =>
        nn p0 fun a64 =>
        ldP (Addr.add a64 0) w61 fun x66 =>
        nn p0 fun a67 =>
        ldI .i64 (Addr.add a67 1) w61 fun x69 =>
        cR Try.prog 33 r33 #[.pointer x66, .int .i64 (IntKind.i64.wrap ((IntKind.i64.wrap (x69 + 2)) + s49)), Sl.v x59] w62 fun x70 w71 =>
        ifB (!decide (x70 = 0)) (
         nn p0 fun a73 =>
         st1 (Addr.add a73 6) (.bool true) w71 fun w75 =>
         K x70 w75) (
         next51 (IntKind.i64.wrap (s49 + 1)) w71)) (
        nn p0 fun a76 =>
        ldP (Addr.add a76 0) w50 fun x78 =>
        cR Try.prog 34 r34 #[.pointer x78] w50 fun x79 w80 =>
        ifB (!decide (x79 = 0)) (
         nn p0 fun a82 =>
         st1 (Addr.add a82 6) (.bool true) w80 fun w84 =>
         K x79 w84) (
         nn p0 fun a85 =>
         ldI .u64 (Addr.add a85 3) w80 fun x87 =>
         cR Try.prog 48 r48 #[.pointer p0, .int .u64 (IntKind.u64.wrap (x87 + 1)), .int .i64 (s10.1.len : Int)] w80 fun x88 w89 =>
         ifB (!decide (x88 = 0)) (
          K x88 w89) (
          nn p0 fun a91 =>
          st1 (Addr.add a91 4) (Sl.v s10.1) w89 fun w93 =>
          nn p0 fun a94 =>
          ldI .i64 (Addr.add a94 5) w93 fun x96 =>
          nn p0 fun a97 =>
          st1 (Addr.add a97 5) (.int .i64 (IntKind.i64.wrap (x96 + (p1.len : Int)))) w93 fun w99 =>
          K 0 w99)))) (IntKind.i64.wrap (Int.tdiv (x48.len : Int) 512)) w40))) (x8, 0) w9))
/-- (*dowser/wal.Log).Reset -/
def s21 (K : Int → World → Prop) (p0 : Option Addr) (w : World) : Prop :=
 cR Try.prog 46 r46 #[.pointer p0] w fun x1 w2 =>
 ifB x1 (
  K 3 w2) (
  nn p0 fun a4 =>
  ldI .u64 (Addr.add a4 3) w2 fun x6 =>
  ifB (decide (x6 = 4611686018427387904)) (
   K 40 w2) (
   nn p0 fun a8 =>
   ldI .u64 (Addr.add a8 3) w2 fun x10 =>
   cR Try.prog 48 r48 #[.pointer p0, .int .u64 (IntKind.u64.wrap (x10 + 1)), .int .i64 0] w2 fun x11 w12 =>
   ifB (!decide (x11 = 0)) (
    K x11 w12) (
    nn p0 fun a14 =>
    st1 (Addr.add a14 4) (Sl.v nilSl) w12 fun w16 =>
    nn p0 fun a17 =>
    st1 (Addr.add a17 5) (.int .i64 0) w16 fun w19 =>
    K 0 w19)))
/-- (*dowser/wal.Log).Len -/
def s22 (K : Int → World → Prop) (p0 : Option Addr) (w : World) : Prop :=
 ifB (p0.isNone) (
  K 0 w) (
  nn p0 fun a2 =>
  ldI .i64 (Addr.add a2 5) w fun x4 =>
  K x4 w)
/-- (*dowser/disk.Disk).Pending -/
def s23 (K : Int → World → Prop) (p0 : Option Addr) (w : World) : Prop :=
 ifB (p0.isNone) (
  K 0 w) (
  nn p0 fun a2 =>
  ldL (Addr.add a2 1) w fun x4 =>
  K (x4.len : Int) w)
/-- dowser/dowserref03.New -/
def s24 (K : List Value → World → Prop) (p0 : Int) (w : World) : Prop :=
 newB 49 [Value.slice none 0 0, Value.slice none 0 0, Value.slice none 0 0, Value.int .i64 0, Value.bool false] w fun b1 w2 =>
 mkS 5 1 1 (Value.int .u8 0) 512 512 w2 fun x5 w4 =>
 b2s x5 w4 fun x6 =>
 LoopS (σ := Sl × Int) (fun next9 s7 w8 =>
  ifB (decide (s7.2 < p0)) (
   newB 9 [str x6] w8 fun b16 w17 =>
   app Try.prog 45 s7.1 ⟨some ⟨b16, 0, none⟩, 1, 1⟩ w17 fun x18 w19 =>
   next9 (x18, (IntKind.i64.wrap (s7.2 + 1))) w19) (
   stA 5 ⟨b1, 0, none⟩ [Sl.v s7.1, Value.slice none 0 0, Value.slice none 0 0, Value.int .i64 0, Value.bool false] w8 fun w20 =>
   ldA 5 ⟨b1, 0, none⟩ w20 fun x21 =>
   K x21 w20)) (nilSl, 0) w4
/-- (*dowser/disk.Disk).Up -/
def s27 (K : Bool → World → Prop) (p0 : Option Addr) (w : World) : Prop :=
 jn (J := Bool → World → Prop) (fun J2 =>
  ifB (p0.isNone) (
   J2 true w) (
   nn p0 fun a3 =>
   ldB (Addr.add a3 4) w fun x5 =>
   J2 (!x5) w)) fun s6 w7 =>
 ifB s6 (
  K false w7) (
  nn p0 fun a11 =>
  st1 (Addr.add a11 4) (.bool false) w7 fun w13 =>
  K true w13)
/-- (*dowser/disk.Disk).Read -/
def s28 (K : Sl × Int → World → Prop) (p0 : Option Addr) (p1 : Int) (w : World) : Prop :=
 cR Try.prog 59 r59 #[.pointer p0, .int .i64 p1] w fun x1 w2 =>
 ifB (!decide (x1 = 0)) (
  K (nilSl, x1) w2) (
  nn p0 fun a4 =>
  ldL (Addr.add a4 0) w2 fun x6 =>
  ix x6 1024 p1 fun a7 =>
  cR Try.prog 53 r53 #[Sl.v (Sl.cut ⟨some (Addr.add a7 0), 512, 512⟩ 1 0 512 512)] w2 fun x9 w10 =>
  K (x9, 0) w10)
/-- dowser/dowserref03.Now -/
def s29 (K : List UInt8 → World → Prop) (p0 : List Value) (p1 : Int) (w : World) : Prop :=
 newB 49 p0 w fun b1 w2 =>
 ldL (Addr.add ⟨b1, 0, none⟩ 0) w2 fun x3 =>
 ix x3 1 p1 fun a4 =>
 ldS a4 w2 fun x6 =>
 LoopS (σ := List UInt8 × Int) (fun next9 s7 w8 =>
  ldL (Addr.add ⟨b1, 0, none⟩ 1) w8 fun x14 =>
  ifB (decide (s7.2 < (x14.len : Int))) (
   jn (J := List UInt8 → World → Prop) (fun J16 =>
    ldL (Addr.add ⟨b1, 0, none⟩ 1) w8 fun x17 =>
    ix x17 2 s7.2 fun a18 =>
    ldI .i64 (Addr.add a18 0) w8 fun x20 =>
    ifB (decide (x20 = p1)) (
     ldL (Addr.add ⟨b1, 0, none⟩ 1) w8 fun x22 =>
     ix x22 2 s7.2 fun a23 =>
     ldS (Addr.add a23 1) w8 fun x25 =>
     J16 x25 w8) (
     J16 s7.1 w8)) fun s26 w27 =>
   next9 (s26, (IntKind.i64.wrap (s7.2 + 1))) w27) (
   K s7.1 w8)) (x6, 0) w2
/-- dowser/dowserlaw03.fill -/
def s32 (K : Sl → World → Prop) (p0 : Int) (p1 : List UInt8) (w : World) : Prop :=
 mkS 5 1 1 (Value.int .u8 0) 512 512 w fun x3 w2 =>
 LoopS (σ := Int) (fun next6 s4 w5 =>
  ifB (decide (s4 < (x3.len : Int))) (
   ix x3 1 s4 fun a13 =>
   st1 a13 (.int .u8 p0) w5 fun w15 =>
   next6 (IntKind.i64.wrap (s4 + 1)) w15) (
   cpy Try.prog #[39, 9] 3 #[Sl.v x3, str p1] w5 fun x16 w17 =>
   K x3 w17)) 0 w2
/-- (*dowser/disk.Disk).Write -/
def s33 (K : Int → World → Prop) (p0 : Option Addr) (p1 : Int) (p2 : Sl) (w : World) : Prop :=
 cR Try.prog 59 r59 #[.pointer p0, .int .i64 p1] w fun x1 w2 =>
 ifB (!decide (x1 = 0)) (
  K x1 w2) (
  ifB (!decide ((p2.len : Int) = 512)) (
   K 1 w2) (
   newA 513 116 ([.int .i64 p1] ++ List.replicate 512 (Value.int .u8 0)) w2 fun b5 w6 =>
   cpy Try.prog #[39, 39] 3 #[Sl.v (Sl.cut ⟨some (Addr.add ⟨b5, 0, none⟩ 1), 512, 512⟩ 1 0 512 512), Sl.v p2] w6 fun x7 w8 =>
   drw w8 fun w9 =>
   nn p0 fun a11 =>
   ldL (Addr.add a11 0) w8 fun x13 =>
   ldA 512 (Addr.add ⟨b5, 0, none⟩ 1) w8 fun x14 =>
   ix x13 1024 p1 fun a15 =>
   stA 512 (Addr.add a15 0) x14 w9 fun w17 =>
   drw w17 fun w18 =>
   nn p0 fun a20 =>
   ldL (Addr.add a20 1) w17 fun x22 =>
   ldA 513 ⟨b5, 0, none⟩ w17 fun x23 =>
   nd (δ := Unit) (α := Sl) w18 (fun d26 v_ => True) (fun d26 K27 w28 =>
    cR Try.prog 60 r60 #[Sl.v x22] w28 fun x30 w31 =>
    K27 x30 w31) fun F29 =>
   nd (δ := Unit) (α := Sl) w18 (fun d32 v_ => True) (fun d32 K33 w34 =>
    newA 513 116 x23 w34 fun b36 w37 =>
    K33 ⟨some ⟨b36, 0, none⟩, 1, 1⟩ w37) fun F35 =>
   ∀ (x24 : Sl) (x25 : Sl) (w38 : World), Ext w18 w38 → F29 () x24 w38 → F35 () x25 w38 →
   app Try.prog 91 x24 x25 w38 fun x40 w41 =>
   nn p0 fun a42 =>
   st1 (Addr.add a42 1) (Sl.v x40) w41 fun w44 =>
   cR Try.prog 61 r61 #[.pointer p0] w44 fun x45 w46 =>
   K x45 w46))
/-- (*dowser/disk.Disk).Flush -/
def s34 (K : Int → World → Prop) (p0 : Option Addr) (w : World) : Prop :=
 cR Try.prog 38 r38 #[.pointer p0] w fun x1 w2 =>
 ifB x1 (
  K 6 w2) (
  cR Try.prog 61 r61 #[.pointer p0] w2 fun x4 w5 =>
  ifB (!decide (x4 = 0)) (
   K x4 w5) (
   nn p0 fun a7 =>
   ldL (Addr.add a7 1) w5 fun x9 =>
   LoopS (σ := Int) (fun next12 s10 w11 =>
    ifB (decide (s10 < (x9.len : Int))) (
     ix x9 513 s10 fun a18 =>
     ldA 513 a18 w11 fun x20 =>
     newA 513 116 x20 w11 fun b21 w22 =>
     drw w22 fun w23 =>
     nn p0 fun a25 =>
     ldL (Addr.add a25 0) w22 fun x27 =>
     ldI .i64 (Addr.add ⟨b21, 0, none⟩ 0) w22 fun x28 =>
     ldA 512 (Addr.add ⟨b21, 0, none⟩ 1) w22 fun x29 =>
     ix x27 1024 x28 fun a30 =>
     stA 512 (Addr.add a30 512) x29 w23 fun w32 =>
     next12 (IntKind.i64.wrap (s10 + 1)) w32) (
     nn p0 fun a33 =>
     st1 (Addr.add a33 1) (Sl.v nilSl) w11 fun w35 =>
     K 0 w35)) 0 w5))
/-- (*dowser/disk.Disk).Crash -/
def s35 (K : Unit → World → Prop) (p0 : Option Addr) (p1 : List Value) (w : World) : Prop :=
 newB 27 p1 w fun b1 w2 =>
 cR Try.prog 38 r38 #[.pointer p0] w2 fun x3 w4 =>
 ifB x3 (
  K () w4) (
  nn p0 fun a6 =>
  ldL (Addr.add a6 1) w4 fun x8 =>
  nn p0 fun a9 =>
  ldL (Addr.add a9 1) w4 fun x11 =>
  LoopS (σ := Int) (fun next14 s12 w13 =>
   ifB (decide (s12 < (x11.len : Int))) (
    jn (J := Unit → World → Prop) (fun J22 =>
     ix x11 513 s12 fun a23 =>
     ldA 513 a23 w13 fun x25 =>
     newA 513 116 x25 w13 fun b26 w27 =>
     drw w27 fun w28 =>
     nn p0 fun a30 =>
     ldL (Addr.add a30 0) w27 fun x32 =>
     ldI .i64 (Addr.add ⟨b26, 0, none⟩ 0) w27 fun x33 =>
     ix x32 1024 x33 fun a34 =>
     jn (J := Bool → World → Prop) (fun J37 =>
      ifB (decide (s12 < 64)) (
       ldI .u64 (Addr.add ⟨b1, 0, none⟩ 1) w28 fun x38 =>
       rq (0 ≤ s12) <|
       J37 (decide ((andI .u64 (shrI .u64 x38 s12) 1) = 1)) w28) (
       J37 false w28)) fun s39 w40 =>
     ifB s39 (
      ldA 512 (Addr.add ⟨b26, 0, none⟩ 1) w40 fun x52 =>
      stA 512 (Addr.add a34 512) x52 w40 fun w53 =>
      J22 () w53) (
      ifB (decide (s12 = (IntKind.i64.wrap ((x8.len : Int) - 1)))) (
       drw w40 fun w55 =>
       ldI .i64 (Addr.add ⟨b1, 0, none⟩ 2) w40 fun x57 =>
       rq ((0 : Int) ≤ 0 ∧ (0 : Int) ≤ (mx 0 (mn x57 512)) ∧ ((mx 0 (mn x57 512)) : Int) ≤ 512) <|
       cpy Try.prog #[39, 39] 3 #[Sl.v (Sl.cut ⟨some (Addr.add a34 512), 512, 512⟩ 1 0 (mx 0 (mn x57 512)) 512), Sl.v (Sl.cut ⟨some (Addr.add ⟨b26, 0, none⟩ 1), 512, 512⟩ 1 0 512 512)] w55 fun x58 w59 =>
       J22 () w59) (
       J22 () w40))) fun s62 w63 =>
    next14 (IntKind.i64.wrap (s12 + 1)) w63) (
    nn p0 fun a72 =>
    ldL (Addr.add a72 0) w13 fun x74 =>
    LoopS (σ := Int) (fun next77 s75 w76 =>
     ifB (decide (s75 < (x74.len : Int))) (
      drw w76 fun w82 =>
      nn p0 fun a84 =>
      ldL (Addr.add a84 0) w76 fun x86 =>
      nn p0 fun a87 =>
      ldL (Addr.add a87 0) w76 fun x89 =>
      ix x89 1024 s75 fun a90 =>
      ldA 512 (Addr.add a90 512) w76 fun x92 =>
      ix x86 1024 s75 fun a93 =>
      stA 512 (Addr.add a93 0) x92 w82 fun w95 =>
      next77 (IntKind.i64.wrap (s75 + 1)) w95) (
      nn p0 fun a96 =>
      st1 (Addr.add a96 1) (Sl.v nilSl) w76 fun w98 =>
      nn p0 fun a99 =>
      st1 (Addr.add a99 4) (.bool true) w98 fun w101 =>
      K () w101)) 0 w13)) 0 w4)
/-- (*dowser/disk.Disk).Clone -/
def s36 (K : Option Addr → World → Prop) (p0 : Option Addr) (w : World) : Prop :=
 ifB (p0.isNone) (
  K none w) (
  nn p0 fun a2 =>
  ldA 5 a2 w fun x4 =>
  newA 5 93 x4 w fun b5 w6 =>
  drw w6 fun w7 =>
  nn p0 fun a9 =>
  ldL (Addr.add a9 0) w6 fun x11 =>
  nn p0 fun a12 =>
  ldL (Addr.add a12 1) w6 fun x14 =>
  cR Try.prog 62 r62 #[Sl.v x11] w7 fun x15 w16 =>
  rq (Ext w6 w16) <|
  cR Try.prog 63 r63 #[Sl.v x14] w16 fun x18 w19 =>
  st1 (Addr.add ⟨b5, 0, none⟩ 0) (Sl.v x15) w19 fun w20 =>
  st1 (Addr.add ⟨b5, 0, none⟩ 1) (Sl.v x18) w20 fun w21 =>
  st1 (Addr.add ⟨b5, 0, none⟩ 2) (Sl.v nilSl) w21 fun w22 =>
  K (some ⟨b5, 0, none⟩) w22)
/-- (*dowser/disk.Disk).Plan -/
def s37 (K : Unit → World → Prop) (p0 : Option Addr) (p1 : Sl) (w : World) : Prop :=
 ifB (!p0.isNone) (
  cR Try.prog 64 r64 #[Sl.v p1] w fun x2 w3 =>
  nn p0 fun a4 =>
  st1 (Addr.add a4 2) (Sl.v x2) w3 fun w6 =>
  K () w6) (
  K () w)
/-- (*dowser/disk.Disk).Down -/
def s38 (K : Bool → World → Prop) (p0 : Option Addr) (w : World) : Prop :=
 jn (J := Bool → World → Prop) (fun J2 =>
  ifB (p0.isNone) (
   J2 true w) (
   nn p0 fun a3 =>
   ldB (Addr.add a3 4) w fun x5 =>
   J2 x5 w)) fun s6 w7 =>
 K s6 w7
/-- (*dowser/disk.Disk).Blocks -/
def s39 (K : Int → World → Prop) (p0 : Option Addr) (w : World) : Prop :=
 ifB (p0.isNone) (
  K 0 w) (
  nn p0 fun a2 =>
  ldL (Addr.add a2 0) w fun x4 =>
  K (x4.len : Int) w)
/-- dowser/dowserref03.Put -/
def s42 (K : List Value × Int → World → Prop) (p0 : List Value) (p1 : Int) (p2 : List UInt8) (w : World) : Prop :=
 newB 49 p0 w fun b1 w2 =>
 newB 49 [Value.slice none 0 0, Value.slice none 0 0, Value.slice none 0 0, Value.int .i64 0, Value.bool false] w2 fun b3 w4 =>
 ldA 5 ⟨b1, 0, none⟩ w4 fun x5 =>
 cR Try.prog 66 r66 #[aggv x5, .int .i64 p1] w4 fun x6 w7 =>
 ifB (!decide (x6 = 0)) (
  ldA 5 ⟨b1, 0, none⟩ w7 fun x9 =>
  stA 5 ⟨b3, 0, none⟩ x9 w7 fun w10 =>
  ldA 5 ⟨b3, 0, none⟩ w10 fun x11 =>
  K (x11, x6) w10) (
  ifB (!decide ((p2.length : Int) = 512)) (
   ldA 5 ⟨b1, 0, none⟩ w7 fun x13 =>
   stA 5 ⟨b3, 0, none⟩ x13 w7 fun w14 =>
   ldA 5 ⟨b3, 0, none⟩ w14 fun x15 =>
   K (x15, 1) w14) (
   newB 114 [] w7 fun b16 w17 =>
   ldL (Addr.add ⟨b1, 0, none⟩ 1) w17 fun x18 =>
   app Try.prog 46 ⟨some ⟨b16, 0, none⟩, 0, 0⟩ x18 w17 fun x19 w20 =>
   newA 2 114 [.int .i64 p1, str p2] w20 fun b21 w22 =>
   app Try.prog 46 x19 ⟨some ⟨b21, 0, none⟩, 1, 1⟩ w22 fun x23 w24 =>
   st1 (Addr.add ⟨b1, 0, none⟩ 1) (Sl.v x23) w24 fun w25 =>
   ldA 5 ⟨b1, 0, none⟩ w25 fun x26 =>
   cR Try.prog 68 r68 #[aggv x26] w25 fun x27 w28 =>
   stA 5 ⟨b3, 0, none⟩ x27.1 w28 fun w29 =>
   ldA 5 ⟨b3, 0, none⟩ w29 fun x30 =>
   K (x30, x27.2) w29))
/-- dowser/dowserlaw04.texts -/
def s44 (K : Sl → World → Prop) (p0 : Sl) (w : World) : Prop :=
 LoopS (σ := Sl × Int) (fun next3 s1 w2 =>
  ifB (decide (s1.2 < (p0.len : Int))) (
   ix p0 1 s1.2 fun a9 =>
   ldL a9 w2 fun x11 =>
   b2s x11 w2 fun x12 =>
   newB 9 [str x12] w2 fun b13 w14 =>
   app Try.prog 45 s1.1 ⟨some ⟨b13, 0, none⟩, 1, 1⟩ w14 fun x15 w16 =>
   next3 (x15, (IntKind.i64.wrap (s1.2 + 1))) w16) (
   K s1.1 w2)) (nilSl, 0) w
/-- dowser/dowserlaw04.same -/
def s45 (K : Bool → World → Prop) (p0 : Sl) (p1 : Sl) (w : World) : Prop :=
 ifB (!decide ((p0.len : Int) = (p1.len : Int))) (
  K false w) (
  LoopS (σ := Int) (fun next4 s2 w3 =>
   ifB (decide (s2 < (p1.len : Int))) (
    ix p1 1 s2 fun a10 =>
    ldS a10 w3 fun x12 =>
    ix p0 1 s2 fun a13 =>
    ldL a13 w3 fun x15 =>
    b2s x15 w3 fun x16 =>
    ifB (!decide (x16 = x12)) (
     K false w3) (
     next4 (IntKind.i64.wrap (s2 + 1)) w3)) (
    K true w3)) 0 w)
/-- (*dowser/wal.Log).Broken -/
def s46 (K : Bool → World → Prop) (p0 : Option Addr) (w : World) : Prop :=
 jn (J := Bool → World → Prop) (fun J2 =>
  ifB (p0.isNone) (
   J2 true w) (
   nn p0 fun a3 =>
   ldB (Addr.add a3 6) w fun x5 =>
   J2 x5 w)) fun s6 w7 =>
 K s6 w7
/-- dowser/wal.right -/
def s47 (K : Int × Int → World → Prop) (p0 : Sl) (p1 : Int) (w : World) : Prop :=
 drw w fun w1 =>
 rq ((0 : Int) ≤ 8 ∧ (8 : Int) ≤ 16 ∧ (16 : Int) ≤ (p0.cap : Int)) <|
 rq ((0 : Int) ≤ 16 ∧ (16 : Int) ≤ 24 ∧ (24 : Int) ≤ (p0.cap : Int)) <|
 cR Try.prog 69 r69 #[Sl.v (p0.cut 1 8 16 p0.cap)] w1 fun x3 w4 =>
 cR Try.prog 69 r69 #[Sl.v (p0.cut 1 16 24 p0.cap)] w4 fun x5 w6 =>
 drw w6 fun w7 =>
 rq ((0 : Int) ≤ 0 ∧ (0 : Int) ≤ 24 ∧ (24 : Int) ≤ (p0.cap : Int)) <|
 b2s (p0.cut 1 0 24 p0.cap) w6 fun x9 =>
 cR Try.prog 70 r70 #[.int .u64 x3, .int .u64 x5] w7 fun x10 w11 =>
 rq (Ext w6 w11) <|
 b2s x10 w11 fun x13 =>
 jn (J := Bool → World → Prop) (fun J15 =>
  ifB (!decide (x9 = x13)) (
   J15 true w11) (
   rq ((0 : Int) ≤ 24 ∧ (24 : Int) ≤ 48 ∧ (48 : Int) ≤ (p0.cap : Int)) <|
   b2s (p0.cut 1 24 48 p0.cap) w6 fun x17 =>
   cR Try.prog 70 r70 #[.int .u64 x5, .int .u64 x3] w11 fun x18 w19 =>
   rq (Ext w6 w19) <|
   b2s x18 w19 fun x21 =>
   J15 (!decide (x17 = x21)) w19)) fun s23 w24 =>
 jn (J := Bool → World → Prop) (fun J30 =>
  ifB s23 (
   J30 true w24) (
   J30 (decide (x3 < 1)) w24)) fun s32 w33 =>
 jn (J := Bool → World → Prop) (fun J39 =>
  ifB s32 (
   J39 true w33) (
   J39 (decide (4611686018427387904 < x3)) w33)) fun s41 w42 =>
 jn (J := Bool → World → Prop) (fun J48 =>
  ifB s41 (
   J48 true w42) (
   J48 (decide ((IntKind.u64.wrap p1) < x5)) w42)) fun s50 w51 =>
 ifB s50 (
  K (0, 0) w51) (
  K (x3, (IntKind.i64.wrap x5)) w51)
/-- (*dowser/wal.Log).head -/
def s48 (K : Int → World → Prop) (p0 : Option Addr) (p1 : Int) (p2 : Int) (w : World) : Prop :=
 mkS 5 1 1 (Value.int .u8 0) 512 512 w fun x3 w2 =>
 cR Try.prog 70 r70 #[.int .u64 p1, .int .u64 (IntKind.u64.wrap p2)] w2 fun x4 w5 =>
 cR Try.prog 70 r70 #[.int .u64 (IntKind.u64.wrap p2), .int .u64 p1] w5 fun x6 w7 =>
 newB 39 [Sl.v x4, Sl.v x6] w7 fun b8 w9 =>
 cR Try.prog 71 r71 #[Sl.v ⟨some ⟨b8, 0, none⟩, 2, 2⟩] w9 fun x10 w11 =>
 cpy Try.prog #[39, 39] 3 #[Sl.v x3, Sl.v x10] w11 fun x12 w13 =>
 drw w13 fun w14 =>
 nn p0 fun a16 =>
 ldP (Addr.add a16 0) w13 fun x18 =>
 nn p0 fun a19 =>
 ldI .i64 (Addr.add a19 1) w13 fun x21 =>
 cR Try.prog 33 r33 #[.pointer x18, .int .i64 (IntKind.i64.wrap (x21 + (IntKind.i64.wrap (Int.tmod p1 2)))), Sl.v x3] w14 fun x22 w23 =>
 jn (J := Int → World → Prop) (fun J24 =>
  ifB (decide (x22 = 0)) (
   nn p0 fun a26 =>
   ldP (Addr.add a26 0) w23 fun x28 =>
   cR Try.prog 34 r34 #[.pointer x28] w23 fun x29 w30 =>
   J24 x29 w30) (
   J24 x22 w23)) fun s31 w32 =>
 ifB (!decide (s31 = 0)) (
  nn p0 fun a37 =>
  st1 (Addr.add a37 6) (.bool true) w32 fun w39 =>
  K s31 w39) (
  nn p0 fun a40 =>
  st1 (Addr.add a40 3) (.int .u64 p1) w32 fun w42 =>
  K 0 w42)
/-- slices.Clip[[]byte,byte] -/
def s49 (K : Sl → World → Prop) (p0 : Sl) (w : World) : Prop :=
 rq ((0 : Int) ≤ 0 ∧ (0 : Int) ≤ (p0.len : Int) ∧ ((p0.len : Int) : Int) ≤ (p0.len : Int) ∧ ((p0.len : Int) : Int) ≤ (p0.cap : Int)) <|
 K (p0.cut 1 0 (p0.len : Int) (p0.len : Int)) w
/-- dowser/wal.parse -/
def s50 (K : Sl × Int → World → Prop) (p0 : Sl) (w : World) : Prop :=
 LoopS (σ := Sl × Sl) (fun next3 s1 w2 =>
  ifB (decide (0 < (s1.1.len : Int))) (
   cR Try.prog 72 r72 #[Sl.v s1.1] w2 fun x7 w8 =>
   cR Try.prog 73 r73 #[.pointer x7] w8 fun x9 w10 =>
   cR Try.prog 74 r74 #[.pointer x7] w10 fun x11 w12 =>
   cR Try.prog 75 r75 #[.pointer x7] w12 fun x13 w14 =>
   jn (J := Bool → World → Prop) (fun J16 =>
    ifB (!decide (x13 = 0)) (
     J16 true w14) (
     cR Try.prog 74 r74 #[.pointer x7] w14 fun x17 w18 =>
     J16 (decide (x17 < 4)) w18)) fun s19 w20 =>
   jn (J := Bool → World → Prop) (fun J28 =>
    ifB s19 (
     J28 true w20) (
     cR Try.prog 74 r74 #[.pointer x7] w20 fun x29 w30 =>
     J28 (decide ((IntKind.u64.wrap (IntKind.i64.wrap (x29 - 4))) < x9)) w30)) fun s31 w32 =>
   ifB s31 (
    K (nilSl, 7) w32) (
    rq ((0 : Int) ≤ (IntKind.i64.wrap ((IntKind.i64.wrap ((s1.1.len : Int) - x11)) + 4)) ∧ ((IntKind.i64.wrap ((IntKind.i64.wrap ((s1.1.len : Int) - x11)) + 4)) : Int) ≤ (IntKind.i64.wrap ((IntKind.i64.wrap ((IntKind.i64.wrap ((s1.1.len : Int) - x11)) + 4)) + (IntKind.i64.wrap x9))) ∧ ((IntKind.i64.wrap ((IntKind.i64.wrap ((IntKind.i64.wrap ((s1.1.len : Int) - x11)) + 4)) + (IntKind.i64.wrap x9))) : Int) ≤ (s1.1.cap : Int)) <|
    drw w32 fun w39 =>
    rq ((0 : Int) ≤ 0 ∧ (0 : Int) ≤ (IntKind.i64.wrap ((IntKind.i64.wrap ((IntKind.i64.wrap ((s1.1.len : Int) - x11)) + 4)) + (IntKind.i64.wrap x9))) ∧ ((IntKind.i64.wrap ((IntKind.i64.wrap ((IntKind.i64.wrap ((s1.1.len : Int) - x11)) + 4)) + (IntKind.i64.wrap x9))) : Int) ≤ (s1.1.cap : Int)) <|
    b2s (s1.1.cut 1 0 (IntKind.i64.wrap ((IntKind.i64.wrap ((IntKind.i64.wrap ((s1.1.len : Int) - x11)) + 4)) + (IntKind.i64.wrap x9))) s1.1.cap) w32 fun x41 =>
    cR Try.prog 54 r54 #[Sl.v (s1.1.cut 1 (IntKind.i64.wrap ((IntKind.i64.wrap ((s1.1.len : Int) - x11)) + 4)) (IntKind.i64.wrap ((IntKind.i64.wrap ((IntKind.i64.wrap ((s1.1.len : Int) - x11)) + 4)) + (IntKind.i64.wrap x9))) s1.1.cap)] w39 fun x42 w43 =>
    rq (Ext w32 w43) <|
    b2s x42 w43 fun x45 =>
    ifB (!decide (x45 = x41)) (
     K (nilSl, 20) w43) (
     cR Try.prog 53 r53 #[Sl.v (s1.1.cut 1 (IntKind.i64.wrap ((IntKind.i64.wrap ((s1.1.len : Int) - x11)) + 4)) (IntKind.i64.wrap ((IntKind.i64.wrap ((IntKind.i64.wrap ((s1.1.len : Int) - x11)) + 4)) + (IntKind.i64.wrap x9))) s1.1.cap)] w43 fun x48 w49 =>
     newB 39 [Sl.v x48] w49 fun b50 w51 =>
     app Try.prog 22 s1.2 ⟨some ⟨b50, 0, none⟩, 1, 1⟩ w51 fun x52 w53 =>
     rq ((0 : Int) ≤ (IntKind.i64.wrap ((IntKind.i64.wrap ((IntKind.i64.wrap ((s1.1.len : Int) - x11)) + 4)) + (IntKind.i64.wrap x9))) ∧ ((IntKind.i64.wrap ((IntKind.i64.wrap ((IntKind.i64.wrap ((s1.1.len : Int) - x11)) + 4)) + (IntKind.i64.wrap x9))) : Int) ≤ (s1.1.len : Int)) <|
     next3 ((s1.1.cut 1 (IntKind.i64.wrap ((IntKind.i64.wrap ((IntKind.i64.wrap ((s1.1.len : Int) - x11)) + 4)) + (IntKind.i64.wrap x9))) (s1.1.len : Int) s1.1.cap), x52) w53))) (
   K (s1.2, 0) w2)) (p0, nilSl) w
/-- dowser/dowserref01.Num -/
def s51 (K : List UInt8 → World → Prop) (p0 : Int) (w : World) : Prop :=
 ifB (decide (p0 < 128)) (
  newB 5 [.int .u8 (IntKind.u8.wrap p0)] w fun b2 w3 =>
  b2s ⟨some ⟨b2, 0, none⟩, 1, 1⟩ w3 fun x4 =>
  K x4 w3) (
  drw w fun w5 =>
  nd (δ := Unit) (α := Sl) w5 (fun d10 v_ => True) (fun d10 K11 w12 =>
   newB 5 [.int .u8 (IntKind.u8.wrap ((IntKind.u8.wrap (Int.tmod p0 128)) + 128))] w12 fun b14 w15 =>
   K11 ⟨some ⟨b14, 0, none⟩, 1, 1⟩ w15) fun F13 =>
  nd (δ := Sl) (α := List UInt8) w5 (fun d16 v_ => F13 () d16 v_) (fun d16 K17 w18 =>
   b2s d16 w18 fun x20 =>
   K17 x20 w18) fun F19 =>
  nd (δ := Unit) (α := List UInt8) w5 (fun d21 v_ => True) (fun d21 K22 w23 =>
   cR Try.prog 51 r51 #[.int .u64 (IntKind.u64.wrap (Int.tdiv p0 128))] w23 fun x25 w26 =>
   K22 x25 w26) fun F24 =>
  rq (∀ (x7 : Sl) (x8 : List UInt8) (x9 : List UInt8) (v_ : World), Ext w5 v_ → F13 () x7 v_ → F19 x7 x8 v_ → F24 () x9 v_ → x8.length + x9.length ≤ 9223372036854775807) <|
  ∀ (x7 : Sl) (x8 : List UInt8) (x9 : List UInt8) (w28 : World), Ext w5 w28 → F13 () x7 w28 → F19 x7 x8 w28 → F24 () x9 w28 →
  K (x8 ++ x9) w28)
/-- dowser/dowserref02.Seal -/
def s52 (K : List UInt8 → World → Prop) (p0 : List UInt8) (w : World) : Prop :=
 cR Try.prog 76 r76 #[str p0] w fun x1 w2 =>
 newB 5 [.int .u8 (IntKind.u8.wrap x1), .int .u8 (IntKind.u8.wrap (IntKind.u32.wrap (Int.tdiv x1 256))), .int .u8 (IntKind.u8.wrap (IntKind.u32.wrap (Int.tdiv x1 65536))), .int .u8 (IntKind.u8.wrap (IntKind.u32.wrap (Int.tdiv x1 16777216)))] w2 fun b3 w4 =>
 b2s ⟨some ⟨b3, 0, none⟩, 4, 4⟩ w4 fun x5 =>
 rq (p0.length + x5.length ≤ 9223372036854775807) <|
 K (p0 ++ x5) w4
/-- slices.Clone[[]byte,byte] -/
def s53 (K : Sl → World → Prop) (p0 : Sl) (w : World) : Prop :=
 ifB (p0.a.isNone) (
  K nilSl w) (
  newB 5 [] w fun b2 w3 =>
  app Try.prog 39 ⟨some ⟨b2, 0, none⟩, 0, 0⟩ p0 w3 fun x4 w5 =>
  K x4 w5)
/-- dowser/wal.frame -/
def s54 (K : Sl → World → Prop) (p0 : Sl) (w : World) : Prop :=
 newB 39 [Sl.v p0] w fun b1 w2 =>
 cR Try.prog 77 r77 #[Sl.v ⟨some ⟨b1, 0, none⟩, 1, 1⟩] w2 fun x3 w4 =>
 cR Try.prog 78 r78 #[.int .u64 (IntKind.u64.wrap (p0.len : Int))] w4 fun x5 w6 =>
 LoopS (σ := Int × Sl × Int) (fun next9 s7 w8 =>
  ifB (decide (s7.2.2 < 4)) (
   newB 5 [.int .u8 (IntKind.u8.wrap s7.1)] w8 fun b15 w16 =>
   app Try.prog 39 s7.2.1 ⟨some ⟨b15, 0, none⟩, 1, 1⟩ w16 fun x17 w18 =>
   next9 ((shrI .u32 s7.1 8), x17, (IntKind.i64.wrap (s7.2.2 + 1))) w18) (
   app Try.prog 39 s7.2.1 p0 w8 fun x19 w20 =>
   K x19 w20)) (x3, x5, 0) w6
/-- dowser/dowserref03.Crash -/
def s58 (K : List Value → World → Prop) (p0 : List Value) (p1 : List Value) (w : World) : Prop :=
 newB 49 p0 w fun b1 w2 =>
 newB 27 p1 w2 fun b3 w4 =>
 newB 49 [Value.slice none 0 0, Value.slice none 0 0, Value.slice none 0 0, Value.int .i64 0, Value.bool false] w4 fun b5 w6 =>
 ldB (Addr.add ⟨b1, 0, none⟩ 4) w6 fun x7 =>
 ifB x7 (
  ldA 5 ⟨b1, 0, none⟩ w6 fun x9 =>
  stA 5 ⟨b5, 0, none⟩ x9 w6 fun w10 =>
  ldA 5 ⟨b5, 0, none⟩ w10 fun x11 =>
  K x11 w10) (
  ldI .u64 (Addr.add ⟨b3, 0, none⟩ 1) w6 fun x12 =>
  LoopS (σ := Int × Int) (fun next15 s13 w14 =>
   ldL (Addr.add ⟨b1, 0, none⟩ 1) w14 fun x21 =>
   ifB (decide (s13.2 < (x21.len : Int))) (
    ldL (Addr.add ⟨b1, 0, none⟩ 1) w14 fun x23 =>
    ix x23 2 s13.2 fun a24 =>
    ldA 2 a24 w14 fun x26 =>
    newA 2 114 x26 w14 fun b27 w28 =>
    jn (J := Int → World → Prop) (fun J29 =>
     ifB (decide ((Int.tmod s13.1 2) = 1)) (
      J29 512 w28) (
      ldL (Addr.add ⟨b1, 0, none⟩ 1) w28 fun x31 =>
      ifB (decide (s13.2 = (IntKind.i64.wrap ((x31.len : Int) - 1)))) (
       ldI .i64 (Addr.add ⟨b3, 0, none⟩ 2) w28 fun x33 =>
       J29 (mx 0 (mn x33 512)) w28) (
       J29 0 w28))) fun s34 w35 =>
    drw w35 fun w43 =>
    ldL (Addr.add ⟨b1, 0, none⟩ 0) w35 fun x45 =>
    ldI .i64 (Addr.add ⟨b27, 0, none⟩ 0) w35 fun x46 =>
    ldS (Addr.add ⟨b27, 0, none⟩ 1) w35 fun x47 =>
    rq ((0 : Int) ≤ 0 ∧ (0 : Int) ≤ s34 ∧ (s34 : Int) ≤ (x47.length : Int)) <|
    ldL (Addr.add ⟨b1, 0, none⟩ 0) w35 fun x48 =>
    ldI .i64 (Addr.add ⟨b27, 0, none⟩ 0) w35 fun x49 =>
    ix x48 1 x49 fun a50 =>
    ldS a50 w35 fun x52 =>
    rq ((0 : Int) ≤ s34 ∧ (s34 : Int) ≤ (x52.length : Int) ∧ ((x52.length : Int) : Int) ≤ (x52.length : Int)) <|
    rq (((x47.take (Int.toNat s34)).drop (Int.toNat 0)).length + ((x52.take (Int.toNat (x52.length : Int))).drop (Int.toNat s34)).length ≤ 9223372036854775807) <|
    cR Try.prog 82 r82 #[Sl.v x45, .int .i64 x46, str (((x47.take (Int.toNat s34)).drop (Int.toNat 0)) ++ ((x52.take (Int.toNat (x52.length : Int))).drop (Int.toNat s34)))] w43 fun x53 w54 =>
    st1 (Addr.add ⟨b1, 0, none⟩ 0) (Sl.v x53) w54 fun w55 =>
    next15 ((IntKind.u64.wrap (Int.tdiv s13.1 2)), (IntKind.i64.wrap (s13.2 + 1))) w55) (
    ldL (Addr.add ⟨b1, 0, none⟩ 0) w14 fun x58 =>
    ldL (Addr.add ⟨b1, 0, none⟩ 2) w14 fun x59 =>
    ldI .i64 (Addr.add ⟨b1, 0, none⟩ 3) w14 fun x60 =>
    stA 5 ⟨b5, 0, none⟩ [Sl.v x58, Value.slice none 0 0, Sl.v x59, .int .i64 x60, .bool true] w14 fun w61 =>
    ldA 5 ⟨b5, 0, none⟩ w61 fun x62 =>
    K x62 w61)) (x12, 0) w6)
/-- (*dowser/disk.Disk).has -/
def s59 (K : Int → World → Prop) (p0 : Option Addr) (p1 : Int) (w : World) : Prop :=
 cR Try.prog 38 r38 #[.pointer p0] w fun x1 w2 =>
 ifB x1 (
  K 6 w2) (
  jn (J := Bool → World → Prop) (fun J5 =>
   ifB (decide (p1 < 0)) (
    J5 true w2) (
    nn p0 fun a6 =>
    ldL (Addr.add a6 0) w2 fun x8 =>
    J5 (decide ((x8.len : Int) ≤ p1)) w2)) fun s9 w10 =>
  ifB s9 (
   K 2 w10) (
   K 0 w10))
/-- slices.Clip[[]dowser/disk.write,dowser/disk.write] -/
def s60 (K : Sl → World → Prop) (p0 : Sl) (w : World) : Prop :=
 rq ((0 : Int) ≤ 0 ∧ (0 : Int) ≤ (p0.len : Int) ∧ ((p0.len : Int) : Int) ≤ (p0.len : Int) ∧ ((p0.len : Int) : Int) ≤ (p0.cap : Int)) <|
 K (p0.cut 513 0 (p0.len : Int) (p0.len : Int)) w
/-- (*dowser/disk.Disk).strike -/
def s61 (K : Int → World → Prop) (p0 : Option Addr) (w : World) : Prop :=
 nn p0 fun a1 =>
 ldI .i64 (Addr.add a1 3) w fun x3 =>
 nn p0 fun a4 =>
 ldI .i64 (Addr.add a4 3) w fun x6 =>
 nn p0 fun a7 =>
 st1 (Addr.add a7 3) (.int .i64 (IntKind.i64.wrap (x6 + 1))) w fun w9 =>
 nn p0 fun a10 =>
 ldL (Addr.add a10 2) w9 fun x12 =>
 LoopS (σ := Int) (fun next15 s13 w14 =>
  ifB (decide (s13 < (x12.len : Int))) (
   ix x12 3 s13 fun a22 =>
   ldA 3 a22 w14 fun x24 =>
   newA 3 27 x24 w14 fun b25 w26 =>
   ldI .i64 (Addr.add ⟨b25, 0, none⟩ 0) w26 fun x27 =>
   ifB (decide (x27 = x3)) (
    ldA 3 ⟨b25, 0, none⟩ w26 fun x29 =>
    cR Try.prog 35 r35 #[.pointer p0, aggv x29] w26 fun x30 w31 =>
    K 6 w31) (
    next15 (IntKind.i64.wrap (s13 + 1)) w26)) (
   K 0 w14)) 0 w9
/-- slices.Clone[[]dowser/disk.block,dowser/disk.block] -/
def s62 (K : Sl → World → Prop) (p0 : Sl) (w : World) : Prop :=
 ifB (p0.a.isNone) (
  K nilSl w) (
  newB 112 [] w fun b2 w3 =>
  app Try.prog 90 ⟨some ⟨b2, 0, none⟩, 0, 0⟩ p0 w3 fun x4 w5 =>
  K x4 w5)
/-- slices.Clone[[]dowser/disk.write,dowser/disk.write] -/
def s63 (K : Sl → World → Prop) (p0 : Sl) (w : World) : Prop :=
 ifB (p0.a.isNone) (
  K nilSl w) (
  newB 116 [] w fun b2 w3 =>
  app Try.prog 91 ⟨some ⟨b2, 0, none⟩, 0, 0⟩ p0 w3 fun x4 w5 =>
  K x4 w5)
/-- slices.Clone[[]dowser/api.Fall,dowser/api.Fall] -/
def s64 (K : Sl → World → Prop) (p0 : Sl) (w : World) : Prop :=
 ifB (p0.a.isNone) (
  K nilSl w) (
  newB 27 [] w fun b2 w3 =>
  app Try.prog 47 ⟨some ⟨b2, 0, none⟩, 0, 0⟩ p0 w3 fun x4 w5 =>
  K x4 w5)
/-- dowser/dowserref03.Flush -/
def s65 (K : List Value × Int → World → Prop) (p0 : List Value) (w : World) : Prop :=
 newB 49 p0 w fun b1 w2 =>
 newB 49 [Value.slice none 0 0, Value.slice none 0 0, Value.slice none 0 0, Value.int .i64 0, Value.bool false] w2 fun b3 w4 =>
 ldB (Addr.add ⟨b1, 0, none⟩ 4) w4 fun x5 =>
 ifB x5 (
  ldA 5 ⟨b1, 0, none⟩ w4 fun x7 =>
  stA 5 ⟨b3, 0, none⟩ x7 w4 fun w8 =>
  ldA 5 ⟨b3, 0, none⟩ w8 fun x9 =>
  K (x9, 6) w8) (
  ldA 5 ⟨b1, 0, none⟩ w4 fun x10 =>
  cR Try.prog 68 r68 #[aggv x10] w4 fun x11 w12 =>
  newA 5 49 x11.1 w12 fun b13 w14 =>
  ifB (!decide (x11.2 = 0)) (
   ldA 5 ⟨b13, 0, none⟩ w14 fun x16 =>
   stA 5 ⟨b3, 0, none⟩ x16 w14 fun w17 =>
   ldA 5 ⟨b3, 0, none⟩ w17 fun x18 =>
   K (x18, x11.2) w17) (
   LoopS (σ := Int) (fun next21 s19 w20 =>
    ldL (Addr.add ⟨b13, 0, none⟩ 1) w20 fun x25 =>
    ifB (decide (s19 < (x25.len : Int))) (
     drw w20 fun w27 =>
     ldL (Addr.add ⟨b13, 0, none⟩ 0) w20 fun x29 =>
     ldL (Addr.add ⟨b13, 0, none⟩ 1) w20 fun x30 =>
     ix x30 2 s19 fun a31 =>
     ldI .i64 (Addr.add a31 0) w20 fun x33 =>
     ldL (Addr.add ⟨b13, 0, none⟩ 1) w20 fun x34 =>
     ix x34 2 s19 fun a35 =>
     ldS (Addr.add a35 1) w20 fun x37 =>
     cR Try.prog 82 r82 #[Sl.v x29, .int .i64 x33, str x37] w27 fun x38 w39 =>
     st1 (Addr.add ⟨b13, 0, none⟩ 0) (Sl.v x38) w39 fun w40 =>
     next21 (IntKind.i64.wrap (s19 + 1)) w40) (
     st1 (Addr.add ⟨b13, 0, none⟩ 1) (Sl.v nilSl) w20 fun w41 =>
     ldA 5 ⟨b13, 0, none⟩ w41 fun x42 =>
     stA 5 ⟨b3, 0, none⟩ x42 w41 fun w43 =>
     ldA 5 ⟨b3, 0, none⟩ w43 fun x44 =>
     K (x44, 0) w43)) 0 w14))
/-- dowser/dowserref03.Why -/
def s66 (K : Int → World → Prop) (p0 : List Value) (p1 : Int) (w : World) : Prop :=
 newB 49 p0 w fun b1 w2 =>
 ldB (Addr.add ⟨b1, 0, none⟩ 4) w2 fun x3 =>
 ifB x3 (
  K 6 w2) (
  jn (J := Bool → World → Prop) (fun J6 =>
   ifB (decide (p1 < 0)) (
    J6 true w2) (
    ldL (Addr.add ⟨b1, 0, none⟩ 0) w2 fun x7 =>
    J6 (decide ((x7.len : Int) ≤ p1)) w2)) fun s8 w9 =>
  ifB s8 (
   K 2 w9) (
   K 0 w9))
/-- dowser/dowserref03.strike -/
def s68 (K : List Value × Int → World → Prop) (p0 : List Value) (w : World) : Prop :=
 newB 49 p0 w fun b1 w2 =>
 newB 49 [Value.slice none 0 0, Value.slice none 0 0, Value.slice none 0 0, Value.int .i64 0, Value.bool false] w2 fun b3 w4 =>
 ldI .i64 (Addr.add ⟨b1, 0, none⟩ 3) w4 fun x5 =>
 ldI .i64 (Addr.add ⟨b1, 0, none⟩ 3) w4 fun x6 =>
 st1 (Addr.add ⟨b1, 0, none⟩ 3) (.int .i64 (IntKind.i64.wrap (x6 + 1))) w4 fun w7 =>
 LoopS (σ := Int) (fun next10 s8 w9 =>
  ldL (Addr.add ⟨b1, 0, none⟩ 2) w9 fun x15 =>
  ifB (decide (s8 < (x15.len : Int))) (
   ldL (Addr.add ⟨b1, 0, none⟩ 2) w9 fun x17 =>
   ix x17 3 s8 fun a18 =>
   ldI .i64 (Addr.add a18 0) w9 fun x20 =>
   ifB (decide (x20 = x5)) (
    drw w9 fun w22 =>
    ldA 5 ⟨b1, 0, none⟩ w9 fun x24 =>
    ldL (Addr.add ⟨b1, 0, none⟩ 2) w9 fun x25 =>
    ix x25 3 s8 fun a26 =>
    ldA 3 a26 w9 fun x28 =>
    cR Try.prog 58 r58 #[aggv x24, aggv x28] w22 fun x29 w30 =>
    stA 5 ⟨b3, 0, none⟩ x29 w30 fun w31 =>
    ldA 5 ⟨b3, 0, none⟩ w31 fun x32 =>
    K (x32, 6) w31) (
    next10 (IntKind.i64.wrap (s8 + 1)) w9)) (
   ldA 5 ⟨b1, 0, none⟩ w9 fun x33 =>
   stA 5 ⟨b3, 0, none⟩ x33 w9 fun w34 =>
   ldA 5 ⟨b3, 0, none⟩ w34 fun x35 =>
   K (x35, 0) w34)) 0 w7
/-- dowser/wal.low -/
def s69 (K : Int → World → Prop) (p0 : Sl) (w : World) : Prop :=
 LoopS (σ := Int × Int) (fun next3 s1 w2 =>
  ifB (decide (s1.2 < (p0.len : Int))) (
   ix p0 1 s1.2 fun a9 =>
   ldI .u8 a9 w2 fun x11 =>
   next3 ((orI .u64 (shlI .u64 s1.1 8) (IntKind.u64.wrap x11)), (IntKind.i64.wrap (s1.2 + 1))) w2) (
   K s1.1 w2)) (0, 0) w
/-- dowser/wal.half -/
def s70 (K : Sl → World → Prop) (p0 : Int) (p1 : Int) (w : World) : Prop :=
 newB 5 [.int .u8 100, .int .u8 111, .int .u8 119, .int .u8 115, .int .u8 101, .int .u8 114, .int .u8 32, .int .u8 108] w fun b1 w2 =>
 mkd ⟨some ⟨b1, 0, none⟩, 8, 8⟩ w2 fun w3 =>
 cR Try.prog 83 r83 #[.int .u64 p0] w3 fun x4 w5 =>
 cR Try.prog 83 r83 #[.int .u64 p1] w5 fun x6 w7 =>
 newB 39 [Sl.v ⟨some ⟨b1, 0, none⟩, 8, 8⟩, Sl.v x4, Sl.v x6] w7 fun b8 w9 =>
 cR Try.prog 71 r71 #[Sl.v ⟨some ⟨b8, 0, none⟩, 3, 3⟩] w9 fun x10 w11 =>
 K x10 w11
/-- slices.Concat[[]byte,byte] -/
def s71 (K : Sl → World → Prop) (p0 : Sl) (w : World) : Prop :=
 LoopS (σ := Int × Int) (fun next3 s1 w2 =>
  ifB (decide (s1.2 < (p0.len : Int))) (
   jn (J := Int → World → Prop) (fun J10 =>
    ix p0 1 s1.2 fun a11 =>
    ldL a11 w2 fun x13 =>
    ifB (decide ((IntKind.i64.wrap (s1.1 + (x13.len : Int))) < 0)) (
     False) (
     J10 (IntKind.i64.wrap (s1.1 + (x13.len : Int))) w2)) fun s15 w16 =>
   next3 (s15, (IntKind.i64.wrap (s1.2 + 1))) w16) (
   cR Try.prog 84 r84 #[Sl.v nilSl, .int .i64 s1.1] w2 fun x24 w25 =>
   LoopS (σ := Sl × Int) (fun next28 s26 w27 =>
    ifB (decide (s26.2 < (p0.len : Int))) (
     ix p0 1 s26.2 fun a34 =>
     ldL a34 w27 fun x36 =>
     app Try.prog 39 s26.1 x36 w27 fun x37 w38 =>
     next28 (x37, (IntKind.i64.wrap (s26.2 + 1))) w38) (
     K s26.1 w27)) (x24, 0) w25)) (0, 0) w
/-- dowser/wire.Read -/
def s72 (K : Option Addr → World → Prop) (p0 : Sl) (w : World) : Prop :=
 mkS 5 1 1 (Value.int .u8 0) (p0.len : Int) (p0.len : Int) w fun x3 w2 =>
 cpy Try.prog #[39, 39] 3 #[Sl.v x3, Sl.v p0] w2 fun x4 w5 =>
 newB 140 [Sl.v x3, Value.int .i64 0] w5 fun b6 w7 =>
 K (some ⟨b6, 0, none⟩) w7
/-- (*dowser/wire.Reader).Num -/
def s73 (K : Int → World → Prop) (p0 : Option Addr) (w : World) : Prop :=
 cR Try.prog 75 r75 #[.pointer p0] w fun x1 w2 =>
 ifB (!decide (x1 = 0)) (
  K 0 w2) (
  LoopS (σ := Int × Int × Int) (fun next6 s4 w5 =>
   ifB (decide (s4.2.2 < 10)) (
    nn p0 fun a12 =>
    ldL (Addr.add a12 0) w5 fun x14 =>
    ifB (decide (s4.2.2 = (x14.len : Int))) (
     cR Try.prog 85 r85 #[.pointer p0, .int .i64 10] w5 fun x16 w17 =>
     K x16 w17) (
     nn p0 fun a18 =>
     ldL (Addr.add a18 0) w5 fun x20 =>
     ix x20 1 s4.2.2 fun a21 =>
     ldI .u8 a21 w5 fun x23 =>
     jn (J := Bool → World → Prop) (fun J25 =>
      ifB (decide (s4.2.2 = 9)) (
       J25 (decide (1 < x23)) w5) (
       J25 false w5)) fun s26 w27 =>
     ifB s26 (
      cR Try.prog 85 r85 #[.pointer p0, .int .i64 7] w27 fun x36 w37 =>
      K x36 w37) (
      rq (0 ≤ s4.2.1) <|
      ifB (decide (128 ≤ x23)) (
       next6 ((orI .u64 s4.1 (shlI .u64 (IntKind.u64.wrap (Int.tmod x23 128)) s4.2.1)), (IntKind.i64.wrap (s4.2.1 + 7)), (IntKind.i64.wrap (s4.2.2 + 1))) w27) (
       jn (J := Bool → World → Prop) (fun J40 =>
        ifB (decide (x23 = 0)) (
         J40 (decide (0 < s4.2.2)) w27) (
         J40 false w27)) fun s41 w42 =>
       ifB s41 (
        cR Try.prog 85 r85 #[.pointer p0, .int .i64 7] w42 fun x48 w49 =>
        K x48 w49) (
        nn p0 fun a50 =>
        ldL (Addr.add a50 0) w42 fun x52 =>
        rq ((0 : Int) ≤ (IntKind.i64.wrap (s4.2.2 + 1)) ∧ ((IntKind.i64.wrap (s4.2.2 + 1)) : Int) ≤ (x52.len : Int)) <|
        nn p0 fun a53 =>
        st1 (Addr.add a53 0) (Sl.v (x52.cut 1 (IntKind.i64.wrap (s4.2.2 + 1)) (x52.len : Int) x52.cap)) w42 fun w55 =>
        K (orI .u64 s4.1 (shlI .u64 (IntKind.u64.wrap (Int.tmod x23 128)) s4.2.1)) w55))))) (
    cR Try.prog 85 r85 #[.pointer p0, .int .i64 7] w5 fun x60 w61 =>
    K x60 w61)) (0, 0, 0) w2)
/-- (*dowser/wire.Reader).Left -/
def s74 (K : Int → World → Prop) (p0 : Option Addr) (w : World) : Prop :=
 ifB (p0.isNone) (
  K 0 w) (
  nn p0 fun a2 =>
  ldL (Addr.add a2 0) w fun x4 =>
  K (x4.len : Int) w)
/-- (*dowser/wire.Reader).Err -/
def s75 (K : Int → World → Prop) (p0 : Option Addr) (w : World) : Prop :=
 ifB (p0.isNone) (
  K 1 w) (
  nn p0 fun a2 =>
  ldI .i64 (Addr.add a2 1) w fun x4 =>
  K x4 w)
/-- dowser/dowserref02.Sum -/
def s76 (K : Int → World → Prop) (p0 : List UInt8) (w : World) : Prop :=
 LoopS (σ := Int × Int) (fun next3 s1 w2 =>
  ifB (decide (s1.2 < (IntKind.i64.wrap (8 * (p0.length : Int))))) (
   jn (J := Int → World → Prop) (fun J8 =>
    ixS p0 (IntKind.i64.wrap (Int.tdiv s1.2 8)) fun c9 =>
    rq (0 ≤ (IntKind.u64.wrap (Int.tmod s1.2 8))) <|
    ifB (!decide ((Int.tmod s1.1 2) = (Int.tmod (IntKind.u32.wrap (shrI .u8 (c9.toNat : Int) (IntKind.u64.wrap (Int.tmod s1.2 8)))) 2))) (
     J8 (xorI .u32 (IntKind.u32.wrap (Int.tdiv s1.1 2)) 3988292384) w2) (
     J8 (IntKind.u32.wrap (Int.tdiv s1.1 2)) w2)) fun s11 w12 =>
   next3 (s11, (IntKind.i64.wrap (s1.2 + 1))) w12) (
   K (IntKind.u32.wrap (4294967295 - s1.1)) w2)) (4294967295, 0) w
/-- dowser/crc.Sum -/
def s77 (K : Int → World → Prop) (p0 : Sl) (w : World) : Prop :=
 LoopS (σ := Int × Int) (fun next3 s1 w2 =>
  ifB (decide (s1.2 < (p0.len : Int))) (
   ix p0 1 s1.2 fun a9 =>
   ldL a9 w2 fun x11 =>
   LoopS (σ := Int × Int) (fun next14 s12 w13 =>
    ifB (decide (s12.2 < (x11.len : Int))) (
     ix x11 1 s12.2 fun a23 =>
     ldI .u8 a23 w13 fun x25 =>
     LoopS (σ := Int × Int) (fun next28 s26 w27 =>
      ifB (decide (s26.2 < 8)) (
       jn (J := Int → World → Prop) (fun J38 =>
        ifB (decide ((andI .u32 s26.1 1) = 1)) (
         J38 (xorI .u32 (shrI .u32 s26.1 1) 3988292384) w27) (
         J38 (shrI .u32 s26.1 1) w27)) fun s40 w41 =>
       next28 (s40, (IntKind.i64.wrap (s26.2 + 1))) w41) (
       next14 (s26.1, (IntKind.i64.wrap (s12.2 + 1))) w27)) ((xorI .u32 s12.1 (IntKind.u32.wrap x25)), 0) w13) (
     next3 (s12.1, (IntKind.i64.wrap (s1.2 + 1))) w13)) (s1.1, 0) w2) (
   K (cmpl .u32 s1.1) w2)) (4294967295, 0) w
/-- dowser/wire.Num -/
def s78 (K : Sl → World → Prop) (p0 : Int) (w : World) : Prop :=
 LoopS (σ := Int × Sl) (fun next3 s1 w2 =>
  ifB (decide (128 ≤ s1.1)) (
   newB 5 [.int .u8 (IntKind.u8.wrap ((IntKind.u8.wrap (Int.tmod s1.1 128)) + 128))] w2 fun b7 w8 =>
   app Try.prog 39 s1.2 ⟨some ⟨b7, 0, none⟩, 1, 1⟩ w8 fun x9 w10 =>
   next3 ((IntKind.u64.wrap (Int.tdiv s1.1 128)), x9) w10) (
   newB 5 [.int .u8 (IntKind.u8.wrap s1.1)] w2 fun b11 w12 =>
   app Try.prog 39 s1.2 ⟨some ⟨b11, 0, none⟩, 1, 1⟩ w12 fun x13 w14 =>
   K x13 w14)) (p0, nilSl) w
/-- dowser/dowserref03.with -/
def s82 (K : Sl → World → Prop) (p0 : Sl) (p1 : Int) (p2 : List UInt8) (w : World) : Prop :=
 newB 9 [] w fun b1 w2 =>
 app Try.prog 45 ⟨some ⟨b1, 0, none⟩, 0, 0⟩ p0 w2 fun x3 w4 =>
 ix x3 1 p1 fun a5 =>
 st1 a5 (str p2) w4 fun w7 =>
 K x3 w7
/-- dowser/wal.high -/
def s83 (K : Sl → World → Prop) (p0 : Int) (w : World) : Prop :=
 mkS 5 1 1 (Value.int .u8 0) 8 8 w fun x3 w2 =>
 LoopS (σ := Int × Int) (fun next6 s4 w5 =>
  ifB (decide (s4.2 < 8)) (
   ix x3 1 (IntKind.i64.wrap (7 - s4.2)) fun a11 =>
   st1 a11 (.int .u8 (IntKind.u8.wrap s4.1)) w5 fun w13 =>
   next6 ((shrI .u64 s4.1 8), (IntKind.i64.wrap (s4.2 + 1))) w13) (
   K x3 w5)) (p0, 0) w2
/-- slices.Grow[[]byte,byte] -/
def s84 (K : Sl → World → Prop) (p0 : Sl) (p1 : Int) (w : World) : Prop :=
 jn (J := Unit → World → Prop) (fun J1 =>
  ifB (decide (p1 < 0)) (
   False) (
   J1 () w)) fun s3 w4 =>
 jn (J := Sl → World → Prop) (fun J7 =>
  ifB (decide (0 < (IntKind.i64.wrap (p1 - (IntKind.i64.wrap ((p0.cap : Int) - (p0.len : Int))))))) (
   rq ((0 : Int) ≤ 0 ∧ (0 : Int) ≤ (p0.cap : Int) ∧ ((p0.cap : Int) : Int) ≤ (p0.cap : Int)) <|
   appV Try.prog #[39, 3] 39 #[Sl.v (p0.cut 1 0 (p0.cap : Int) p0.cap), .int .i64 (IntKind.i64.wrap (p1 - (IntKind.i64.wrap ((p0.cap : Int) - (p0.len : Int)))))] w4 fun x9 w10 =>
   rq ((0 : Int) ≤ 0 ∧ (0 : Int) ≤ (p0.len : Int) ∧ ((p0.len : Int) : Int) ≤ (x9.cap : Int)) <|
   J7 (x9.cut 1 0 (p0.len : Int) x9.cap) w10) (
   J7 p0 w4)) fun s11 w12 =>
 K s11 w12
/-- (*dowser/wire.Reader).fail -/
def s85 (K : Int → World → Prop) (p0 : Option Addr) (p1 : Int) (w : World) : Prop :=
 nn p0 fun a1 =>
 st1 (Addr.add a1 1) (.int .i64 p1) w fun w3 =>
 K 0 w3
end Go.Proofs.Ytagkcbbbdlmcjaa
end
section
/- The typed readings of the functions, and that the program meets each: written by gen.py (a program of this session). -/
namespace Go.Proofs.Ytagkcbbbdlmcjaa
open Go.Lift
set_option maxRecDepth 100000 in
set_option maxHeartbeats 4000000 in
theorem s52_calls (K : List UInt8 → World → Prop) (p0 : List UInt8) (w : World) (h : s52 K p0 w) :
  Calls Try.prog 52 #[str p0] w (Ret r52 K) := by
 unfold s52 at h
 refine calls_of_CW (n := 21) Try.func52 rfl rfl rfl ?_
 refine CW.seq ?_
 refine CW.region ?_
 refine RL.opS trivial rfl (OpW.assign (v := str []) rfl ?_)
 refine RL.nil ?_
 refine CW.seq ?_
 refine CW.region ?_
 refine RL.opS trivial rfl (OpW.move (v := str p0) rfl ?_)
 refine RL.opS trivial rfl (OpW.callR (al := [str p0]) Try.func76 fb_76 fn_76 rfl h (fun x1 w2 h => ?_))
 refine RL.opS trivial rfl (OpW.assign (v := .int .u32 x1) rfl ?_)
 refine RL.nil ?_
 refine CW.seq ?_
 refine CW.region ?_
 refine RL.opS trivial rfl (OpW.move (v := str p0) rfl ?_)
 refine RL.opS trivial rfl (OpW.move (v := .int .u32 x1) rfl ?_)
 refine RL.opS trivial rfl (OpW.convInt (a := x1) int_129 int_5 rfl ?_)
 refine RL.opS trivial rfl (OpW.move (v := .int .u32 x1) rfl ?_)
 refine RL.opS trivial rfl (OpW.quo (a := x1) (b := 256) (v := .int .u32 (IntKind.u32.wrap (Int.tdiv x1 256))) rfl rfl (by decide) rfl ?_)
 refine RL.opS trivial rfl (OpW.convInt (a := (IntKind.u32.wrap (Int.tdiv x1 256))) int_129 int_5 rfl ?_)
 refine RL.opS trivial rfl (OpW.move (v := .int .u32 x1) rfl ?_)
 refine RL.opS trivial rfl (OpW.quo (a := x1) (b := 65536) (v := .int .u32 (IntKind.u32.wrap (Int.tdiv x1 65536))) rfl rfl (by decide) rfl ?_)
 refine RL.opS trivial rfl (OpW.convInt (a := (IntKind.u32.wrap (Int.tdiv x1 65536))) int_129 int_5 rfl ?_)
 refine RL.opS trivial rfl (OpW.move (v := .int .u32 x1) rfl ?_)
 refine RL.opS trivial rfl (OpW.quo (a := x1) (b := 16777216) (v := .int .u32 (IntKind.u32.wrap (Int.tdiv x1 16777216))) rfl rfl (by decide) rfl ?_)
 refine RL.opS trivial rfl (OpW.convInt (a := (IntKind.u32.wrap (Int.tdiv x1 16777216))) int_129 int_5 rfl ?_)
 obtain ⟨b3, hb3_⟩ : ∃ b_, b_ = w2.heap.size := ⟨_, rfl⟩
 obtain ⟨w4, hw4_⟩ : ∃ w_, w_ = w2.alloc (.cells (List.toArray [.int .u8 (IntKind.u8.wrap x1), .int .u8 (IntKind.u8.wrap (IntKind.u32.wrap (Int.tdiv x1 256))), .int .u8 (IntKind.u8.wrap (IntKind.u32.wrap (Int.tdiv x1 65536))), .int .u8 (IntKind.u8.wrap (IntKind.u32.wrap (Int.tdiv x1 16777216)))]) 5) := ⟨_, rfl⟩
 have h := h b3 w4 hb3_ hw4_
 refine RL.opS trivial rfl (OpW.buildSliceE (vs := [(0, .int .u8 (IntKind.u8.wrap x1)), (1, .int .u8 (IntKind.u8.wrap (IntKind.u32.wrap (Int.tdiv x1 256)))), (2, .int .u8 (IntKind.u8.wrap (IntKind.u32.wrap (Int.tdiv x1 65536)))), (3, .int .u8 (IntKind.u8.wrap (IntKind.u32.wrap (Int.tdiv x1 16777216))))]) (cs := [.int .u8 (IntKind.u8.wrap x1), .int .u8 (IntKind.u8.wrap (IntKind.u32.wrap (Int.tdiv x1 256))), .int .u8 (IntKind.u8.wrap (IntKind.u32.wrap (Int.tdiv x1 65536))), .int .u8 (IntKind.u8.wrap (IntKind.u32.wrap (Int.tdiv x1 16777216)))]) (by rfl) (by kernel_rfl) hb3_ hw4_ ?_)
 obtain ⟨x5, h1, h2, h⟩ := h
 refine RL.opS trivial rfl (OpW.b2s bsl_39 str_9 rfl h1 h2 ?_)
 obtain ⟨hq_, h⟩ := h
 refine RL.opS trivial rfl (OpW.strAdd rfl rfl hq_ ?_)
 refine RL.opS trivial rfl (OpW.assign (v := str (p0 ++ x5)) rfl ?_)
 refine RL.nil ?_
 refine CW.ret ?_
 exact ret_intro (res1 rfl rfl) ⟨(p0 ++ x5), rfl, h⟩
end Go.Proofs.Ytagkcbbbdlmcjaa
end
section
/- The typed readings of the functions, and that the program meets each: written by gen.py (a program of this session). -/
namespace Go.Proofs.Ytagkcbbbdlmcjaa
open Go.Lift
set_option maxRecDepth 100000 in
set_option maxHeartbeats 4000000 in
theorem s76_calls (K : Int → World → Prop) (p0 : List UInt8) (w : World) (h : s76 K p0 w) :
  Calls Try.prog 76 #[str p0] w (Ret r76 K) := by
 unfold s76 at h
 refine calls_of_CW (n := 35) Try.func76 rfl rfl rfl ?_
 refine CW.seq ?_
 refine CW.region ?_
 refine RL.opS trivial rfl (OpW.assign (v := .int .u32 0) rfl ?_)
 refine RL.nil ?_
 refine CW.seq ?_
 refine CW.region ?_
 refine RL.opS trivial rfl (OpW.assign (v := .int .u32 4294967295) rfl ?_)
 refine RL.nil ?_
 refine CW.seq ?_
 refine CW.seq ?_
 refine CW.region ?_
 refine RL.opS trivial rfl (OpW.assign (v := .int .i64 0) rfl ?_)
 refine RL.nil ?_
 refine CW.block ?_
 obtain ⟨I18, mu19, hI, hs⟩ := h
 refine CW.loop (σ := Int × Int) (fun s1 ρ => ρ 3 = .int .u32 s1.1 ∧ ρ 4 = .int .i64 s1.2 ∧ ρ 0 = str p0) I18 mu19 (4294967295, 0) ⟨rfl, rfl, rfl⟩ hI ?_
 rintro s1 ρ w2 ⟨e4, e5, e6⟩ hI
 have h := hs s1 w2 hI
 clear hs hI
 refine CW.seq ?_
 refine CW.seq ?_
 refine CW.region ?_
 refine RL.opS trivial rfl (OpW.move (v := .int .i64 s1.2) e5 ?_)
 refine RL.opS trivial rfl (OpW.move (v := str p0) e6 ?_)
 refine RL.opS trivial rfl (OpW.lenStr us_9 rfl ?_)
 refine RL.opS trivial rfl (OpW.bin (k := .i64) (a := 8) (b := (p0.length : Int)) (v := .int .i64 (IntKind.i64.wrap (8 * (p0.length : Int)))) rfl rfl rfl ?_)
 refine RL.opS trivial rfl (OpW.bin (k := .i64) (a := s1.2) (b := (IntKind.i64.wrap (8 * (p0.length : Int)))) (v := .bool (decide (s1.2 < (IntKind.i64.wrap (8 * (p0.length : Int)))))) rfl rfl rfl ?_)
 refine RL.nil ?_
 obtain ⟨ha, hc⟩ := h
 refine CW.cond (b := (decide (s1.2 < (IntKind.i64.wrap (8 * (p0.length : Int)))))) rfl (fun hb7 => ?_) (fun hb7 => ?_)
 ·have h := ha hb7; clear ha hc
  refine CW.skip ?_
  refine jn_elim h ?_; clear h; intro k16 hk17 h
  refine CW.seqJ (A := Int) (fun s11 ρ => ρ 3 = .int .u32 s11 ∧ ρ 0 = str p0 ∧ ρ 4 = .int .i64 s1.2) k16 ?_ ?_
  ·rintro s11 ρ w12 ⟨e13, e14, e15⟩ h
   subst hk17
   refine CW.region ?_
   refine RL.opS trivial rfl (OpW.move (v := .int .i64 s1.2) e15 ?_)
   refine RL.opS trivial rfl (OpW.bin (k := .i64) (a := s1.2) (b := 1) (v := .int .i64 (IntKind.i64.wrap (s1.2 + 1))) rfl rfl rfl ?_)
   refine RL.opS trivial rfl (OpW.assign (v := .int .i64 (IntKind.i64.wrap (s1.2 + 1))) rfl ?_)
   refine RL.nil ?_
   exact ⟨(s11, (IntKind.i64.wrap (s1.2 + 1))), ⟨e13, rfl, e14⟩, h⟩
  ·clear hk17
   refine CW.block ?_
   refine CW.seq ?_
   refine CW.region ?_
   refine RL.opS trivial rfl (OpW.move (v := .int .u32 s1.1) e4 ?_)
   refine RL.opS trivial rfl (OpW.quo (a := s1.1) (b := 2) (v := .int .u32 (Int.tmod s1.1 2)) rfl rfl (by decide) rfl ?_)
   refine RL.opS trivial rfl (OpW.assign (v := .int .u32 (Int.tmod s1.1 2)) rfl ?_)
   refine RL.nil ?_
   refine CW.seq ?_
   refine CW.region ?_
   refine RL.opS trivial rfl (OpW.move (v := str p0) e6 ?_)
   refine RL.opS trivial rfl (OpW.move (v := .int .i64 s1.2) e5 ?_)
   refine RL.opS trivial rfl (OpW.quo (a := s1.2) (b := 8) (v := .int .i64 (IntKind.i64.wrap (Int.tdiv s1.2 8))) rfl rfl (by decide) rfl ?_)
   obtain ⟨c9, h1, h2, h⟩ := h
   refine RL.opS trivial rfl (OpW.indexStr us_9 rfl rfl h1 h2 ?_)
   refine RL.opS trivial rfl (OpW.move (v := .int .i64 s1.2) e5 ?_)
   refine RL.opS trivial rfl (OpW.quo (a := s1.2) (b := 8) (v := .int .i64 (Int.tmod s1.2 8)) rfl rfl (by decide) rfl ?_)
   refine RL.opS trivial rfl (OpW.convInt (a := (Int.tmod s1.2 8)) int_3 int_66 rfl ?_)
   obtain ⟨hq_, h⟩ := h
   refine RL.opS trivial rfl (OpW.shift (a := (c9.toNat : Int)) (b := (IntKind.u64.wrap (Int.tmod s1.2 8))) (v := .int .u8 (shrI .u8 (c9.toNat : Int) (IntKind.u64.wrap (Int.tmod s1.2 8)))) rfl rfl hq_ rfl ?_)
   refine RL.opS trivial rfl (OpW.convInt (a := (shrI .u8 (c9.toNat : Int) (IntKind.u64.wrap (Int.tmod s1.2 8)))) int_5 int_129 rfl ?_)
   refine RL.opS trivial rfl (OpW.quo (a := (IntKind.u32.wrap (shrI .u8 (c9.toNat : Int) (IntKind.u64.wrap (Int.tmod s1.2 8))))) (b := 2) (v := .int .u32 (Int.tmod (IntKind.u32.wrap (shrI .u8 (c9.toNat : Int) (IntKind.u64.wrap (Int.tmod s1.2 8)))) 2)) rfl rfl (by decide) rfl ?_)
   refine RL.opS trivial rfl (OpW.assign (v := .int .u32 (Int.tmod (IntKind.u32.wrap (shrI .u8 (c9.toNat : Int) (IntKind.u64.wrap (Int.tmod s1.2 8)))) 2)) rfl ?_)
   refine RL.nil ?_
   refine CW.seq ?_
   refine CW.region ?_
   refine RL.opS trivial rfl (OpW.move (v := .int .u32 s1.1) e4 ?_)
   refine RL.opS trivial rfl (OpW.quo (a := s1.1) (b := 2) (v := .int .u32 (IntKind.u32.wrap (Int.tdiv s1.1 2))) rfl rfl (by decide) rfl ?_)
   refine RL.opS trivial rfl (OpW.assign (v := .int .u32 (IntKind.u32.wrap (Int.tdiv s1.1 2))) rfl ?_)
   refine RL.nil ?_
   refine CW.seq ?_
   refine CW.region ?_
   refine RL.opS trivial rfl (OpW.move (v := .int .u32 (Int.tmod s1.1 2)) rfl ?_)
   refine RL.opS trivial rfl (OpW.move (v := .int .u32 (Int.tmod (IntKind.u32.wrap (shrI .u8 (c9.toNat : Int) (IntKind.u64.wrap (Int.tmod s1.2 8)))) 2)) rfl ?_)
   refine RL.opS trivial rfl (OpW.bin (k := .u32) (a := (Int.tmod s1.1 2)) (b := (Int.tmod (IntKind.u32.wrap (shrI .u8 (c9.toNat : Int) (IntKind.u64.wrap (Int.tmod s1.2 8)))) 2)) (v := .bool (!decide ((Int.tmod s1.1 2) = (Int.tmod (IntKind.u32.wrap (shrI .u8 (c9.toNat : Int) (IntKind.u64.wrap (Int.tmod s1.2 8)))) 2)))) rfl rfl rfl ?_)
   refine RL.nil ?_
   obtain ⟨ha, hc⟩ := h
   refine CW.cond (b := (!decide ((Int.tmod s1.1 2) = (Int.tmod (IntKind.u32.wrap (shrI .u8 (c9.toNat : Int) (IntKind.u64.wrap (Int.tmod s1.2 8)))) 2)))) rfl (fun hb10 => ?_) (fun hb10 => ?_)
   ·have h := ha hb10; clear ha hc
    refine CW.region ?_
    refine RL.opS trivial rfl (OpW.move (v := .int .u32 (IntKind.u32.wrap (Int.tdiv s1.1 2))) rfl ?_)
    refine RL.opS trivial rfl (OpW.bin (k := .u32) (a := (IntKind.u32.wrap (Int.tdiv s1.1 2))) (b := 3988292384) (v := .int .u32 (xorI .u32 (IntKind.u32.wrap (Int.tdiv s1.1 2)) 3988292384)) rfl rfl rfl ?_)
    refine RL.opS trivial rfl (OpW.assign (v := .int .u32 (xorI .u32 (IntKind.u32.wrap (Int.tdiv s1.1 2)) 3988292384)) rfl ?_)
    refine RL.nil ?_
    exact ⟨(xorI .u32 (IntKind.u32.wrap (Int.tdiv s1.1 2)) 3988292384), ⟨rfl, e6, e5⟩, h⟩
   ·have h := hc hb10; clear ha hc
    refine CW.skip ?_
    exact ⟨(IntKind.u32.wrap (Int.tdiv s1.1 2)), ⟨rfl, e6, e5⟩, h⟩
 ·have h := hc hb7; clear ha hc
  refine CW.exit ?_
  refine CW.seq ?_
  refine CW.region ?_
  refine RL.opS trivial rfl (OpW.move (v := .int .u32 s1.1) e4 ?_)
  refine RL.opS trivial rfl (OpW.bin (k := .u32) (a := 4294967295) (b := s1.1) (v := .int .u32 (IntKind.u32.wrap (4294967295 - s1.1))) rfl rfl rfl ?_)
  refine RL.opS trivial rfl (OpW.assign (v := .int .u32 (IntKind.u32.wrap (4294967295 - s1.1))) rfl ?_)
  refine RL.nil ?_
  refine CW.ret ?_
  exact ret_intro (res1 rfl rfl) ⟨(IntKind.u32.wrap (4294967295 - s1.1)), rfl, h⟩
end Go.Proofs.Ytagkcbbbdlmcjaa
end
section
/- The typed readings of the functions, and that the program meets each: written by gen.py (a program of this session). -/
namespace Go.Proofs.Ytagkcbbbdlmcjaa
open Go.Lift
set_option maxRecDepth 100000 in
set_option maxHeartbeats 4000000 in
theorem s77_calls (K : Int → World → Prop) (p0 : Sl) (w : World) (h : s77 K p0 w) :
  Calls Try.prog 77 #[Sl.v p0] w (Ret r77 K) := by
 unfold s77 at h
 refine calls_of_CW (n := 40) Try.func77 rfl rfl rfl ?_
 refine CW.seq ?_
 refine CW.region ?_
 refine RL.opS trivial rfl (OpW.assign (v := .int .u32 0) rfl ?_)
 refine RL.nil ?_
 refine CW.seq ?_
 refine CW.region ?_
 refine RL.opS trivial rfl (OpW.assign (v := .int .u32 4294967295) rfl ?_)
 refine RL.nil ?_
 refine CW.seq ?_
 refine CW.seq ?_
 refine CW.region ?_
 refine RL.opS trivial rfl (OpW.move (v := Sl.v p0) rfl ?_)
 refine RL.opS trivial rfl (OpW.len (s := p0) slice_22 rfl ?_)
 refine RL.opS trivial rfl (OpW.move (v := .int .i64 0) rfl ?_)
 refine RL.nil ?_
 refine CW.block ?_
 obtain ⟨I56, mu57, hI, hs⟩ := h
 refine CW.loop (σ := Int × Int) (fun s1 ρ => ρ 3 = .int .u32 s1.1 ∧ ρ 11 = .int .i64 s1.2 ∧ ρ 9 = Sl.v p0 ∧ ρ 10 = .int .i64 (p0.len : Int)) I56 mu57 (4294967295, 0) ⟨rfl, rfl, rfl, rfl⟩ hI ?_
 rintro s1 ρ w2 ⟨e4, e5, e6, e7⟩ hI
 have h := hs s1 w2 hI
 clear hs hI
 refine CW.seq ?_
 refine CW.region ?_
 refine RL.opS trivial rfl (OpW.bin (k := .i64) (a := s1.2) (b := (p0.len : Int)) (v := .bool (decide (s1.2 < (p0.len : Int)))) e5 e7 rfl ?_)
 refine RL.nil ?_
 refine CW.seq ?_
 obtain ⟨ha, hc⟩ := h
 refine CW.cond (b := (decide (s1.2 < (p0.len : Int)))) rfl (fun hb8 => ?_) (fun hb8 => ?_)
 ·have h := ha hb8; clear ha hc
  refine CW.skip ?_
  refine CW.seq ?_
  refine CW.block ?_
  refine CW.seq ?_
  refine CW.region ?_
  obtain ⟨a9_, a9, h1, h2, h3, h4, h⟩ := h
  refine RL.opS trivial rfl (OpW.indexE (a' := a9) slice_22 e6 e5 h1 h2 h3 h4 ?_)
  obtain ⟨x11, h1, h⟩ := h
  refine RL.opS trivial rfl (OpW.load1 (v := Sl.v x11) one_39 rfl h1 ?_)
  refine RL.opS trivial rfl (OpW.assign (v := Sl.v x11) rfl ?_)
  refine RL.nil ?_
  refine CW.seq ?_
  refine CW.region ?_
  refine RL.opS trivial rfl (OpW.move (v := Sl.v x11) rfl ?_)
  refine RL.opS trivial rfl (OpW.len (s := x11) slice_39 rfl ?_)
  refine RL.opS trivial rfl (OpW.move (v := .int .i64 0) rfl ?_)
  refine RL.nil ?_
  refine CW.block ?_
  obtain ⟨I54, mu55, hI, hs⟩ := h
  refine CW.loop (σ := Int × Int) (fun s12 ρ => ρ 3 = .int .u32 s12.1 ∧ ρ 17 = .int .i64 s12.2 ∧ ρ 9 = Sl.v p0 ∧ ρ 10 = .int .i64 (p0.len : Int) ∧ ρ 11 = .int .i64 s1.2 ∧ ρ 15 = Sl.v x11 ∧ ρ 16 = .int .i64 (x11.len : Int)) I54 mu55 (s1.1, 0) ⟨e4, rfl, e6, e7, e5, rfl, rfl⟩ hI ?_
  rintro s12 ρ w13 ⟨e15, e16, e17, e18, e19, e20, e21⟩ hI
  have h := hs s12 w13 hI
  clear hs hI
  refine CW.seq ?_
  refine CW.region ?_
  refine RL.opS trivial rfl (OpW.bin (k := .i64) (a := s12.2) (b := (x11.len : Int)) (v := .bool (decide (s12.2 < (x11.len : Int)))) e16 e21 rfl ?_)
  refine RL.nil ?_
  refine CW.seq ?_
  obtain ⟨ha, hc⟩ := h
  refine CW.cond (b := (decide (s12.2 < (x11.len : Int)))) rfl (fun hb22 => ?_) (fun hb22 => ?_)
  ·have h := ha hb22; clear ha hc
   refine CW.skip ?_
   refine CW.seq ?_
   refine CW.block ?_
   refine CW.seq ?_
   refine CW.region ?_
   obtain ⟨a23_, a23, h1, h2, h3, h4, h⟩ := h
   refine RL.opS trivial rfl (OpW.indexE (a' := a23) slice_39 e20 e16 h1 h2 h3 h4 ?_)
   obtain ⟨x25, h1, h⟩ := h
   refine RL.opS trivial rfl (OpW.load1 (v := .int .u8 x25) one_5 rfl h1 ?_)
   refine RL.opS trivial rfl (OpW.assign (v := .int .u8 x25) rfl ?_)
   refine RL.nil ?_
   refine CW.seq ?_
   refine CW.region ?_
   refine RL.opS trivial rfl (OpW.move (v := .int .u32 s12.1) e15 ?_)
   refine RL.opS trivial rfl (OpW.move (v := .int .u8 x25) rfl ?_)
   refine RL.opS trivial rfl (OpW.convInt (a := x25) int_5 int_129 rfl ?_)
   refine RL.opS trivial rfl (OpW.bin (k := .u32) (a := s12.1) (b := (IntKind.u32.wrap x25)) (v := .int .u32 (xorI .u32 s12.1 (IntKind.u32.wrap x25))) rfl rfl rfl ?_)
   refine RL.opS trivial rfl (OpW.assign (v := .int .u32 (xorI .u32 s12.1 (IntKind.u32.wrap x25))) rfl ?_)
   refine RL.nil ?_
   refine CW.seq ?_
   refine CW.region ?_
   refine RL.opS trivial rfl (OpW.move (v := .int .i64 0) rfl ?_)
   refine RL.nil ?_
   refine CW.block ?_
   obtain ⟨I52, mu53, hI, hs⟩ := h
   refine CW.loop (σ := Int × Int) (fun s26 ρ => ρ 3 = .int .u32 s26.1 ∧ ρ 25 = .int .i64 s26.2 ∧ ρ 9 = Sl.v p0 ∧ ρ 10 = .int .i64 (p0.len : Int) ∧ ρ 11 = .int .i64 s1.2 ∧ ρ 15 = Sl.v x11 ∧ ρ 16 = .int .i64 (x11.len : Int) ∧ ρ 17 = .int .i64 s12.2) I52 mu53 ((xorI .u32 s12.1 (IntKind.u32.wrap x25)), 0) ⟨rfl, rfl, e17, e18, e19, e20, e21, e16⟩ hI ?_
   rintro s26 ρ w27 ⟨e29, e30, e31, e32, e33, e34, e35, e36⟩ hI
   have h := hs s26 w27 hI
   clear hs hI
   refine CW.seq ?_
   refine CW.region ?_
   refine RL.opS trivial rfl (OpW.bin (k := .i64) (a := s26.2) (b := 8) (v := .bool (decide (s26.2 < 8))) e30 rfl rfl ?_)
   refine RL.nil ?_
   refine CW.seq ?_
   obtain ⟨ha, hc⟩ := h
   refine CW.cond (b := (decide (s26.2 < 8))) rfl (fun hb37 => ?_) (fun hb37 => ?_)
   ·have h := ha hb37; clear ha hc
    refine CW.skip ?_
    refine jn_elim h ?_; clear h; intro k50 hk51 h
    refine CW.seqJ (A := Int) (fun s40 ρ => ρ 3 = .int .u32 s40 ∧ ρ 9 = Sl.v p0 ∧ ρ 10 = .int .i64 (p0.len : Int) ∧ ρ 11 = .int .i64 s1.2 ∧ ρ 15 = Sl.v x11 ∧ ρ 16 = .int .i64 (x11.len : Int) ∧ ρ 17 = .int .i64 s12.2 ∧ ρ 25 = .int .i64 s26.2) k50 ?_ ?_
    ·rintro s40 ρ w41 ⟨e42, e43, e44, e45, e46, e47, e48, e49⟩ h
     subst hk51
     refine CW.region ?_
     refine RL.opS trivial rfl (OpW.bin (k := .i64) (a := s26.2) (b := 1) (v := .int .i64 (IntKind.i64.wrap (s26.2 + 1))) e49 rfl rfl ?_)
     refine RL.opS trivial rfl (OpW.move (v := .int .i64 (IntKind.i64.wrap (s26.2 + 1))) rfl ?_)
     refine RL.nil ?_
     exact ⟨(s40, (IntKind.i64.wrap (s26.2 + 1))), ⟨e42, rfl, e43, e44, e45, e46, e47, e48⟩, h⟩
    ·clear hk51
     refine CW.block ?_
     refine CW.seq ?_
     refine CW.region ?_
     refine RL.opS trivial rfl (OpW.move (v := .int .u32 s26.1) e29 ?_)
     refine RL.opS trivial rfl (OpW.bin (k := .u32) (a := s26.1) (b := 1) (v := .int .u32 (andI .u32 s26.1 1)) rfl rfl rfl ?_)
     refine RL.opS trivial rfl (OpW.assign (v := .int .u32 (andI .u32 s26.1 1)) rfl ?_)
     refine RL.nil ?_
     refine CW.seq ?_
     refine CW.region ?_
     refine RL.opS trivial rfl (OpW.move (v := .int .u32 s26.1) e29 ?_)
     refine RL.opS trivial rfl (OpW.shift (a := s26.1) (b := 1) (v := .int .u32 (shrI .u32 s26.1 1)) rfl rfl (by decide) rfl ?_)
     refine RL.opS trivial rfl (OpW.assign (v := .int .u32 (shrI .u32 s26.1 1)) rfl ?_)
     refine RL.nil ?_
     refine CW.seq ?_
     refine CW.region ?_
     refine RL.opS trivial rfl (OpW.move (v := .int .u32 (andI .u32 s26.1 1)) rfl ?_)
     refine RL.opS trivial rfl (OpW.bin (k := .u32) (a := (andI .u32 s26.1 1)) (b := 1) (v := .bool (decide ((andI .u32 s26.1 1) = 1))) rfl rfl rfl ?_)
     refine RL.nil ?_
     obtain ⟨ha, hc⟩ := h
     refine CW.cond (b := (decide ((andI .u32 s26.1 1) = 1))) rfl (fun hb39 => ?_) (fun hb39 => ?_)
     ·have h := ha hb39; clear ha hc
      refine CW.region ?_
      refine RL.opS trivial rfl (OpW.move (v := .int .u32 (shrI .u32 s26.1 1)) rfl ?_)
      refine RL.opS trivial rfl (OpW.bin (k := .u32) (a := (shrI .u32 s26.1 1)) (b := 3988292384) (v := .int .u32 (xorI .u32 (shrI .u32 s26.1 1) 3988292384)) rfl rfl rfl ?_)
      refine RL.opS trivial rfl (OpW.assign (v := .int .u32 (xorI .u32 (shrI .u32 s26.1 1) 3988292384)) rfl ?_)
      refine RL.nil ?_
      exact ⟨(xorI .u32 (shrI .u32 s26.1 1) 3988292384), ⟨rfl, e31, e32, e33, e34, e35, e36, e30⟩, h⟩
     ·have h := hc hb39; clear ha hc
      refine CW.skip ?_
      exact ⟨(shrI .u32 s26.1 1), ⟨rfl, e31, e32, e33, e34, e35, e36, e30⟩, h⟩
   ·have h := hc hb37; clear ha hc
    refine CW.exit ?_
    refine CW.region ?_
    refine RL.opS trivial rfl (OpW.bin (k := .i64) (a := s12.2) (b := 1) (v := .int .i64 (IntKind.i64.wrap (s12.2 + 1))) e36 rfl rfl ?_)
    refine RL.opS trivial rfl (OpW.move (v := .int .i64 (IntKind.i64.wrap (s12.2 + 1))) rfl ?_)
    refine RL.nil ?_
    exact ⟨(s26.1, (IntKind.i64.wrap (s12.2 + 1))), ⟨e29, rfl, e31, e32, e33, e34, e35⟩, h⟩
  ·have h := hc hb22; clear ha hc
   refine CW.exit ?_
   refine CW.region ?_
   refine RL.opS trivial rfl (OpW.bin (k := .i64) (a := s1.2) (b := 1) (v := .int .i64 (IntKind.i64.wrap (s1.2 + 1))) e19 rfl rfl ?_)
   refine RL.opS trivial rfl (OpW.move (v := .int .i64 (IntKind.i64.wrap (s1.2 + 1))) rfl ?_)
   refine RL.nil ?_
   exact ⟨(s12.1, (IntKind.i64.wrap (s1.2 + 1))), ⟨e15, rfl, e17, e18⟩, h⟩
 ·have h := hc hb8; clear ha hc
  refine CW.exit ?_
  refine CW.seq ?_
  refine CW.region ?_
  refine RL.opS trivial rfl (OpW.move (v := .int .u32 s1.1) e4 ?_)
  refine RL.opS trivial rfl (OpW.compl rfl ?_)
  refine RL.opS trivial rfl (OpW.assign (v := .int .u32 (cmpl .u32 s1.1)) rfl ?_)
  refine RL.nil ?_
  refine CW.ret ?_
  exact ret_intro (res1 rfl rfl) ⟨(cmpl .u32 s1.1), rfl, h⟩
end Go.Proofs.Ytagkcbbbdlmcjaa
end
section
/- The typed readings of the functions, and that the program meets each: written by gen.py (a program of this session). -/
namespace Go.Proofs.Ytagkcbbbdlmcjaa
open Go.Lift
set_option maxRecDepth 100000 in
set_option maxHeartbeats 4000000 in
theorem s15_calls (K : Option Addr × Int → World → Prop) (p0 : Int) (w : World) (h : s15 K p0 w) :
  Calls Try.prog 15 #[.int .i64 p0] w (Ret r15 K) := by
 unfold s15 at h
 refine calls_of_CW (n := 14) Try.func15 rfl rfl rfl ?_
 refine CW.seq ?_
 refine CW.region ?_
 refine RL.opS trivial rfl (OpW.assign (v := .pointer none) rfl ?_)
 refine RL.opS trivial rfl (OpW.assign (v := .int .i64 0) rfl ?_)
 refine RL.nil ?_
 refine CW.seq ?_
 refine CW.seq ?_
 refine CW.region ?_
 refine RL.opS trivial rfl (OpW.move (v := .int .i64 p0) rfl ?_)
 refine RL.opS trivial rfl (OpW.bin (k := .i64) (a := p0) (b := 1) (v := .bool (decide (p0 < 1))) rfl rfl rfl ?_)
 refine RL.opS trivial rfl (OpW.move (v := .bool (decide (p0 < 1))) rfl ?_)
 refine jn_elim h ?_; clear h; intro k13 hk14 h
 refine RL.joinAt (A := Bool) 3 (fun s3 ρ => ρ 9 = .bool s3 ∧ ρ 0 = .int .i64 p0) k13 ?_ ?_
 ·rintro s3 ρ w4 ⟨e5, e6⟩ h
  subst hk14
  dsimp only [List.drop]
  refine RL.nil ?_
  obtain ⟨ha, hc⟩ := h
  refine CW.cond (b := s3) e5 (fun hb7 => ?_) (fun hb7 => ?_)
  ·have h := ha hb7; clear ha hc
   refine CW.seq ?_
   refine CW.region ?_
   refine RL.opS trivial rfl (OpW.assign (v := .pointer none) rfl ?_)
   refine RL.opS trivial rfl (OpW.assign (v := .int .i64 1) rfl ?_)
   refine RL.nil ?_
   refine CW.ret ?_
   exact ret_intro (res2 rfl rfl rfl) ⟨(none, 1), rfl, h⟩
  ·have h := hc hb7; clear ha hc
   refine CW.skip ?_
   refine CW.seq ?_
   refine CW.region ?_
   refine RL.opS trivial rfl (OpW.move (v := .int .i64 p0) e6 ?_)
   obtain ⟨h1, h2, h3, h4, h⟩ := h
   obtain ⟨b8, hb8_⟩ : ∃ b_, b_ = w4.heap.size := ⟨_, rfl⟩
   obtain ⟨w9, hw9_⟩ : ∃ w_, w_ = w4.alloc (.cells (List.replicate (Int.toNat p0 * 1024) (Value.int .u8 0)).toArray 112) := ⟨_, rfl⟩
   have h := h b8 w9 hb8_ hw9_
   obtain ⟨x10, hx10_⟩ : ∃ s_ : Sl, s_ = ⟨some ⟨b8, 0, none⟩, Int.toNat p0, Int.toNat p0⟩ := ⟨_, rfl⟩
   rw [← hx10_] at h
   refine RL.opS trivial rfl (OpW.makeSliceE mk_90 (by decide) rfl rfl h1 h2 h3 h4 hb8_ hw9_ hx10_ ?_)
   refine RL.opS trivial rfl (OpW.buildL (vs := [(0, Sl.v x10)]) (cs := [Sl.v x10, Value.slice none 0 0, Value.slice none 0 0, Value.int .i64 0, Value.bool false]) (by rfl) (fun _ => by kernel_rfl) ?_)
   obtain ⟨b11, hb11_⟩ : ∃ b_, b_ = w9.heap.size := ⟨_, rfl⟩
   obtain ⟨w12, hw12_⟩ : ∃ w_, w_ = w9.alloc (.cells (List.toArray [Sl.v x10, Value.slice none 0 0, Value.slice none 0 0, Value.int .i64 0, Value.bool false]) 93) := ⟨_, rfl⟩
   have h := h b11 w12 hb11_ hw12_
   refine RL.opS trivial rfl (OpW.boxE (cs := [Sl.v x10, Value.slice none 0 0, Value.slice none 0 0, Value.int .i64 0, Value.bool false]) (rfl) hb11_ hw12_ ?_)
   refine RL.opS trivial rfl (OpW.assign (v := .pointer (some ⟨b11, 0, none⟩)) rfl ?_)
   refine RL.opS trivial rfl (OpW.assign (v := .int .i64 0) rfl ?_)
   refine RL.nil ?_
   refine CW.ret ?_
   exact ret_intro (res2 rfl rfl rfl) ⟨(some ⟨b11, 0, none⟩, 0), rfl, h⟩
 ·clear hk14
  dsimp only [List.take]
  obtain ⟨ha, hc⟩ := h
  rcases Bool.eq_false_or_eq_true (decide (p0 < 1)) with hb1 | hb1
  ·have h := ha hb1; clear ha hc
   refine RL.skipS (notWanted_of rfl rfl hb1) rfl ?_
   refine RL.skipS (notWanted_of rfl rfl hb1) rfl ?_
   refine RL.opS trivial rfl (OpW.pick (b := true) (v := .bool true) (congrArg Value.bool hb1) rfl ?_)
   refine RL.nil ?_
   exact ⟨true, ⟨rfl, rfl⟩, h⟩
  ·have h := hc hb1; clear ha hc
   refine RL.opS (wanted_of rfl rfl hb1) rfl (OpW.move (v := .int .i64 p0) rfl ?_)
   refine RL.opS (wanted_of rfl rfl hb1) rfl (OpW.bin (k := .i64) (a := p0) (b := 4096) (v := .bool (decide (4096 < p0))) rfl rfl rfl ?_)
   refine RL.opS trivial rfl (OpW.pick (b := false) (v := .bool (decide (4096 < p0))) (congrArg Value.bool hb1) rfl ?_)
   refine RL.nil ?_
   exact ⟨(decide (4096 < p0)), ⟨rfl, rfl⟩, h⟩
end Go.Proofs.Ytagkcbbbdlmcjaa
end
section
/- The typed readings of the functions, and that the program meets each: written by gen.py (a program of this session). -/
namespace Go.Proofs.Ytagkcbbbdlmcjaa
open Go.Lift
set_option maxRecDepth 100000 in
set_option maxHeartbeats 4000000 in
theorem s19_calls (K : Int → World → Prop) (p0 : Option Addr) (w : World) (h : s19 K p0 w) :
  Calls Try.prog 19 #[.pointer p0] w (Ret r19 K) := by
 unfold s19 at h
 refine calls_of_CW (n := 9) Try.func19 rfl rfl rfl ?_
 refine CW.seq ?_
 refine CW.region ?_
 refine RL.opS trivial rfl (OpW.assign (v := .int .i64 0) rfl ?_)
 refine RL.nil ?_
 refine CW.seq ?_
 refine CW.seq ?_
 refine CW.region ?_
 refine RL.opS trivial rfl (OpW.move (v := .pointer p0) rfl ?_)
 refine RL.opS trivial rfl (OpW.ptrNil (b := p0.isNone) (p := p0) ptr_31 rfl rfl rfl ?_)
 refine RL.nil ?_
 obtain ⟨ha, hc⟩ := h
 refine CW.cond (b := (p0.isNone)) rfl (fun hb1 => ?_) (fun hb1 => ?_)
 ·have h := ha hb1; clear ha hc
  refine CW.seq ?_
  refine CW.region ?_
  refine RL.opS trivial rfl (OpW.assign (v := .int .i64 0) rfl ?_)
  refine RL.nil ?_
  refine CW.ret ?_
  exact ret_intro (res1 rfl rfl) ⟨0, rfl, h⟩
 ·have h := hc hb1; clear ha hc
  refine CW.skip ?_
  refine CW.seq ?_
  refine CW.region ?_
  refine RL.opS trivial rfl (OpW.move (v := .pointer p0) rfl ?_)
  obtain ⟨a2, ha3, h⟩ := h
  refine RL.opS trivial rfl (OpW.nilCheck (a := a2) (congrArg Value.pointer ha3) ?_)
  refine RL.opS trivial rfl (OpW.fieldAddr field_93_3 rfl ?_)
  obtain ⟨x4, h1, h⟩ := h
  refine RL.opS trivial rfl (OpW.load1 (v := .int .i64 x4) one_3 rfl h1 ?_)
  refine RL.opS trivial rfl (OpW.assign (v := .int .i64 x4) rfl ?_)
  refine RL.nil ?_
  refine CW.ret ?_
  exact ret_intro (res1 rfl rfl) ⟨x4, rfl, h⟩
end Go.Proofs.Ytagkcbbbdlmcjaa
end
section
/- The typed readings of the functions, and that the program meets each: written by gen.py (a program of this session). -/
namespace Go.Proofs.Ytagkcbbbdlmcjaa
open Go.Lift
set_option maxRecDepth 100000 in
set_option maxHeartbeats 4000000 in
theorem s23_calls (K : Int → World → Prop) (p0 : Option Addr) (w : World) (h : s23 K p0 w) :
  Calls Try.prog 23 #[.pointer p0] w (Ret r23 K) := by
 unfold s23 at h
 refine calls_of_CW (n := 10) Try.func23 rfl rfl rfl ?_
 refine CW.seq ?_
 refine CW.region ?_
 refine RL.opS trivial rfl (OpW.assign (v := .int .i64 0) rfl ?_)
 refine RL.nil ?_
 refine CW.seq ?_
 refine CW.seq ?_
 refine CW.region ?_
 refine RL.opS trivial rfl (OpW.move (v := .pointer p0) rfl ?_)
 refine RL.opS trivial rfl (OpW.ptrNil (b := p0.isNone) (p := p0) ptr_31 rfl rfl rfl ?_)
 refine RL.nil ?_
 obtain ⟨ha, hc⟩ := h
 refine CW.cond (b := (p0.isNone)) rfl (fun hb1 => ?_) (fun hb1 => ?_)
 ·have h := ha hb1; clear ha hc
  refine CW.seq ?_
  refine CW.region ?_
  refine RL.opS trivial rfl (OpW.assign (v := .int .i64 0) rfl ?_)
  refine RL.nil ?_
  refine CW.ret ?_
  exact ret_intro (res1 rfl rfl) ⟨0, rfl, h⟩
 ·have h := hc hb1; clear ha hc
  refine CW.skip ?_
  refine CW.seq ?_
  refine CW.region ?_
  refine RL.opS trivial rfl (OpW.move (v := .pointer p0) rfl ?_)
  obtain ⟨a2, ha3, h⟩ := h
  refine RL.opS trivial rfl (OpW.nilCheck (a := a2) (congrArg Value.pointer ha3) ?_)
  refine RL.opS trivial rfl (OpW.fieldAddr field_93_1 rfl ?_)
  obtain ⟨x4, h1, h⟩ := h
  refine RL.opS trivial rfl (OpW.load1 (v := Sl.v x4) one_91 rfl h1 ?_)
  refine RL.opS trivial rfl (OpW.len (s := x4) slice_91 rfl ?_)
  refine RL.opS trivial rfl (OpW.assign (v := .int .i64 (x4.len : Int)) rfl ?_)
  refine RL.nil ?_
  refine CW.ret ?_
  exact ret_intro (res1 rfl rfl) ⟨(x4.len : Int), rfl, h⟩
end Go.Proofs.Ytagkcbbbdlmcjaa
end
section
/- The typed readings of the functions, and that the program meets each: written by gen.py (a program of this session). -/
namespace Go.Proofs.Ytagkcbbbdlmcjaa
open Go.Lift
set_option maxRecDepth 100000 in
set_option maxHeartbeats 4000000 in
theorem s27_calls (K : Bool → World → Prop) (p0 : Option Addr) (w : World) (h : s27 K p0 w) :
  Calls Try.prog 27 #[.pointer p0] w (Ret r27 K) := by
 unfold s27 at h
 refine calls_of_CW (n := 15) Try.func27 rfl rfl rfl ?_
 refine CW.seq ?_
 refine CW.region ?_
 refine RL.opS trivial rfl (OpW.assign (v := .bool false) rfl ?_)
 refine RL.nil ?_
 refine CW.seq ?_
 refine CW.seq ?_
 refine CW.region ?_
 refine RL.opS trivial rfl (OpW.move (v := .pointer p0) rfl ?_)
 refine RL.opS trivial rfl (OpW.ptrNil (b := p0.isNone) (p := p0) ptr_31 rfl rfl rfl ?_)
 refine RL.opS trivial rfl (OpW.move (v := .bool (p0.isNone)) rfl ?_)
 refine jn_elim h ?_; clear h; intro k14 hk15 h
 refine RL.joinAt (A := Bool) 6 (fun s6 ρ => ρ 11 = .bool s6 ∧ ρ 0 = .pointer p0) k14 ?_ ?_
 ·rintro s6 ρ w7 ⟨e8, e9⟩ h
  subst hk15
  dsimp only [List.drop]
  refine RL.nil ?_
  obtain ⟨ha, hc⟩ := h
  refine CW.cond (b := s6) e8 (fun hb10 => ?_) (fun hb10 => ?_)
  ·have h := ha hb10; clear ha hc
   refine CW.seq ?_
   refine CW.region ?_
   refine RL.opS trivial rfl (OpW.assign (v := .bool false) rfl ?_)
   refine RL.nil ?_
   refine CW.ret ?_
   exact ret_intro (res1 rfl rfl) ⟨false, rfl, h⟩
  ·have h := hc hb10; clear ha hc
   refine CW.skip ?_
   refine CW.seq ?_
   refine CW.region ?_
   refine RL.opS trivial rfl (OpW.move (v := .pointer p0) e9 ?_)
   obtain ⟨a11, ha12, h⟩ := h
   refine RL.opS trivial rfl (OpW.nilCheck (a := a11) (congrArg Value.pointer ha12) ?_)
   refine RL.opS trivial rfl (OpW.fieldAddr field_93_4 rfl ?_)
   obtain ⟨u_, h1, h2, h⟩ := h
   obtain ⟨w13, hw13_⟩ : ∃ w_, w_ = w7.setCell (Addr.add a11 4) (.bool false) := ⟨_, rfl⟩
   have h := h w13 hw13_
   refine RL.opN trivial (OpW.store1E (v := .bool false) size_4 rfl rfl rfl h1 h2 hw13_ ?_)
   refine RL.nil ?_
   refine CW.seq ?_
   refine CW.region ?_
   refine RL.opS trivial rfl (OpW.assign (v := .bool true) rfl ?_)
   refine RL.nil ?_
   refine CW.ret ?_
   exact ret_intro (res1 rfl rfl) ⟨true, rfl, h⟩
 ·clear hk15
  dsimp only [List.take]
  obtain ⟨ha, hc⟩ := h
  rcases Bool.eq_false_or_eq_true (p0.isNone) with hb1 | hb1
  ·have h := ha hb1; clear ha hc
   refine RL.skipS (notWanted_of rfl rfl hb1) rfl ?_
   refine RL.skipS (notWanted_of rfl rfl hb1) rfl ?_
   refine RL.skipS (notWanted_of rfl rfl hb1) rfl ?_
   refine RL.skipS (notWanted_of rfl rfl hb1) rfl ?_
   refine RL.skipS (notWanted_of rfl rfl hb1) rfl ?_
   refine RL.opS trivial rfl (OpW.pick (b := true) (v := .bool true) (congrArg Value.bool hb1) rfl ?_)
   refine RL.nil ?_
   exact ⟨true, ⟨rfl, rfl⟩, h⟩
  ·have h := hc hb1; clear ha hc
   refine RL.opS (wanted_of rfl rfl hb1) rfl (OpW.move (v := .pointer p0) rfl ?_)
   obtain ⟨a3, ha4, h⟩ := h
   refine RL.opS (wanted_of rfl rfl hb1) rfl (OpW.nilCheck (a := a3) (congrArg Value.pointer ha4) ?_)
   refine RL.opS (wanted_of rfl rfl hb1) rfl (OpW.fieldAddr field_93_4 rfl ?_)
   obtain ⟨x5, h1, h⟩ := h
   refine RL.opS (wanted_of rfl rfl hb1) rfl (OpW.load1 (v := .bool x5) one_4 rfl h1 ?_)
   refine RL.opS (wanted_of rfl rfl hb1) rfl (OpW.not rfl ?_)
   refine RL.opS trivial rfl (OpW.pick (b := false) (v := .bool (!x5)) (congrArg Value.bool hb1) rfl ?_)
   refine RL.nil ?_
   exact ⟨(!x5), ⟨rfl, rfl⟩, h⟩
end Go.Proofs.Ytagkcbbbdlmcjaa
end
section
/- The typed readings of the functions, and that the program meets each: written by gen.py (a program of this session). -/
namespace Go.Proofs.Ytagkcbbbdlmcjaa
open Go.Lift
set_option maxRecDepth 100000 in
set_option maxHeartbeats 4000000 in
theorem s28_calls (K : Sl × Int → World → Prop) (p0 : Option Addr) (p1 : Int) (w : World) (h : s28 K p0 p1 w) :
  Calls Try.prog 28 #[.pointer p0, .int .i64 p1] w (Ret r28 K) := by
 unfold s28 at h
 refine calls_of_CW (n := 22) Try.func28 rfl rfl rfl ?_
 refine CW.seq ?_
 refine CW.region ?_
 refine RL.opS trivial rfl (OpW.assign (v := Sl.v nilSl) rfl ?_)
 refine RL.opS trivial rfl (OpW.assign (v := .int .i64 0) rfl ?_)
 refine RL.nil ?_
 refine CW.seq ?_
 refine CW.seq ?_
 refine CW.region ?_
 refine RL.opS trivial rfl (OpW.move (v := .pointer p0) rfl ?_)
 refine RL.opS trivial rfl (OpW.move (v := .int .i64 p1) rfl ?_)
 refine RL.opS trivial rfl (OpW.callR (al := [.pointer p0, .int .i64 p1]) Try.func59 fb_59 fn_59 rfl h (fun x1 w2 h => ?_))
 refine RL.opS trivial rfl (OpW.assign (v := .int .i64 x1) rfl ?_)
 refine RL.nil ?_
 refine CW.seq ?_
 refine CW.region ?_
 refine RL.opS trivial rfl (OpW.move (v := .int .i64 x1) rfl ?_)
 refine RL.opS trivial rfl (OpW.bin (k := .i64) (a := x1) (b := 0) (v := .bool (!decide (x1 = 0))) rfl rfl rfl ?_)
 refine RL.nil ?_
 obtain ⟨ha, hc⟩ := h
 refine CW.cond (b := (!decide (x1 = 0))) rfl (fun hb3 => ?_) (fun hb3 => ?_)
 ·have h := ha hb3; clear ha hc
  refine CW.seq ?_
  refine CW.region ?_
  refine RL.opS trivial rfl (OpW.move (v := .int .i64 x1) rfl ?_)
  refine RL.opS trivial rfl (OpW.assign (v := Sl.v nilSl) rfl ?_)
  refine RL.opS trivial rfl (OpW.assign (v := .int .i64 x1) rfl ?_)
  refine RL.nil ?_
  refine CW.ret ?_
  exact ret_intro (res2 rfl rfl rfl) ⟨(nilSl, x1), rfl, h⟩
 ·have h := hc hb3; clear ha hc
  refine CW.skip ?_
  refine CW.seq ?_
  refine CW.region ?_
  refine RL.opS trivial rfl (OpW.move (v := .pointer p0) rfl ?_)
  obtain ⟨a4, ha5, h⟩ := h
  refine RL.opS trivial rfl (OpW.nilCheck (a := a4) (congrArg Value.pointer ha5) ?_)
  refine RL.opS trivial rfl (OpW.fieldAddr (off := 0) field_93_0 rfl ?_)
  obtain ⟨x6, h1, h⟩ := h
  refine RL.opS trivial rfl (OpW.load1 (v := Sl.v x6) one_90 rfl h1 ?_)
  refine RL.opS trivial rfl (OpW.move (v := .int .i64 p1) rfl ?_)
  obtain ⟨a7_, a7, h1, h2, h3, h4, h⟩ := h
  refine RL.opS trivial rfl (OpW.indexE (a' := a7) slice_90 rfl rfl h1 h2 h3 h4 ?_)
  refine RL.opS trivial rfl (OpW.fieldAddr (off := 0) field_112_0 rfl ?_)
  refine RL.opS trivial rfl (OpW.sliceArr (l := 0) (h := 512) arr_110 rfl rfl rfl (by decide) (by decide) (by decide) ?_)
  refine RL.opS trivial rfl (OpW.callR (al := [Sl.v (Sl.cut ⟨some (Addr.add a7 0), 512, 512⟩ 1 0 512 512)]) Try.func53 fb_53 fn_53 rfl h (fun x9 w10 h => ?_))
  refine RL.opS trivial rfl (OpW.assign (v := Sl.v x9) rfl ?_)
  refine RL.opS trivial rfl (OpW.assign (v := .int .i64 0) rfl ?_)
  refine RL.nil ?_
  refine CW.ret ?_
  exact ret_intro (res2 rfl rfl rfl) ⟨(x9, 0), rfl, h⟩
end Go.Proofs.Ytagkcbbbdlmcjaa
end
section
/- The typed readings of the functions, and that the program meets each: written by gen.py (a program of this session). -/
namespace Go.Proofs.Ytagkcbbbdlmcjaa
open Go.Lift
set_option maxRecDepth 100000 in
set_option maxHeartbeats 4000000 in
theorem s37_calls (K : Unit → World → Prop) (p0 : Option Addr) (p1 : Sl) (w : World) (h : s37 K p0 p1 w) :
  Calls Try.prog 37 #[.pointer p0, Sl.v p1] w (Ret r37 K) := by
 unfold s37 at h
 refine calls_of_CW (n := 11) Try.func37 rfl rfl rfl ?_
 refine CW.seq ?_
 refine CW.region ?_
 refine RL.opS trivial rfl (OpW.move (v := .pointer p0) rfl ?_)
 refine RL.opS trivial rfl (OpW.ptrNil (b := !p0.isNone) (p := p0) ptr_31 rfl rfl rfl ?_)
 refine RL.nil ?_
 obtain ⟨ha, hc⟩ := h
 refine CW.cond (b := (!p0.isNone)) rfl (fun hb1 => ?_) (fun hb1 => ?_)
 ·have h := ha hb1; clear ha hc
  refine CW.region ?_
  refine RL.opS trivial rfl (OpW.move (v := .pointer p0) rfl ?_)
  refine RL.opS trivial rfl (OpW.move (v := Sl.v p1) rfl ?_)
  refine RL.opS trivial rfl (OpW.callR (al := [Sl.v p1]) Try.func64 fb_64 fn_64 rfl h (fun x2 w3 h => ?_))
  obtain ⟨a4, ha5, h⟩ := h
  refine RL.opS trivial rfl (OpW.nilCheck (a := a4) (congrArg Value.pointer ha5) ?_)
  refine RL.opS trivial rfl (OpW.fieldAddr field_93_2 rfl ?_)
  obtain ⟨u_, h1, h2, h⟩ := h
  obtain ⟨w6, hw6_⟩ : ∃ w_, w_ = w3.setCell (Addr.add a4 2) (Sl.v x2) := ⟨_, rfl⟩
  have h := h w6 hw6_
  refine RL.opN trivial (OpW.store1E (v := Sl.v x2) size_47 rfl rfl rfl h1 h2 hw6_ ?_)
  refine RL.nil ?_
  exact end_intro (res0 rfl) ⟨(), rfl, h⟩
 ·have h := hc hb1; clear ha hc
  refine CW.skip ?_
  exact end_intro (res0 rfl) ⟨(), rfl, h⟩
end Go.Proofs.Ytagkcbbbdlmcjaa
end
section
/- The typed readings of the functions, and that the program meets each: written by gen.py (a program of this session). -/
namespace Go.Proofs.Ytagkcbbbdlmcjaa
open Go.Lift
set_option maxRecDepth 100000 in
set_option maxHeartbeats 4000000 in
theorem s38_calls (K : Bool → World → Prop) (p0 : Option Addr) (w : World) (h : s38 K p0 w) :
  Calls Try.prog 38 #[.pointer p0] w (Ret r38 K) := by
 unfold s38 at h
 refine calls_of_CW (n := 11) Try.func38 rfl rfl rfl ?_
 refine CW.seq ?_
 refine CW.region ?_
 refine RL.opS trivial rfl (OpW.assign (v := .bool false) rfl ?_)
 refine RL.nil ?_
 refine CW.seq ?_
 refine CW.region ?_
 refine RL.opS trivial rfl (OpW.move (v := .pointer p0) rfl ?_)
 refine RL.opS trivial rfl (OpW.ptrNil (b := p0.isNone) (p := p0) ptr_31 rfl rfl rfl ?_)
 refine RL.opS trivial rfl (OpW.move (v := .bool (p0.isNone)) rfl ?_)
 refine jn_elim h ?_; clear h; intro k9 hk10 h
 refine RL.joinAt (A := Bool) 5 (fun s6 ρ => ρ 10 = .bool s6) k9 ?_ ?_
 ·rintro s6 ρ w7 e8 h
  subst hk10
  dsimp only [List.drop]
  refine RL.opS trivial rfl (OpW.assign (v := .bool s6) e8 ?_)
  refine RL.nil ?_
  refine CW.ret ?_
  exact ret_intro (res1 rfl rfl) ⟨s6, rfl, h⟩
 ·clear hk10
  dsimp only [List.take]
  obtain ⟨ha, hc⟩ := h
  rcases Bool.eq_false_or_eq_true (p0.isNone) with hb1 | hb1
  ·have h := ha hb1; clear ha hc
   refine RL.skipS (notWanted_of rfl rfl hb1) rfl ?_
   refine RL.skipS (notWanted_of rfl rfl hb1) rfl ?_
   refine RL.skipS (notWanted_of rfl rfl hb1) rfl ?_
   refine RL.skipS (notWanted_of rfl rfl hb1) rfl ?_
   refine RL.opS trivial rfl (OpW.pick (b := true) (v := .bool true) (congrArg Value.bool hb1) rfl ?_)
   refine RL.nil ?_
   exact ⟨true, rfl, h⟩
  ·have h := hc hb1; clear ha hc
   refine RL.opS (wanted_of rfl rfl hb1) rfl (OpW.move (v := .pointer p0) rfl ?_)
   obtain ⟨a3, ha4, h⟩ := h
   refine RL.opS (wanted_of rfl rfl hb1) rfl (OpW.nilCheck (a := a3) (congrArg Value.pointer ha4) ?_)
   refine RL.opS (wanted_of rfl rfl hb1) rfl (OpW.fieldAddr field_93_4 rfl ?_)
   obtain ⟨x5, h1, h⟩ := h
   refine RL.opS (wanted_of rfl rfl hb1) rfl (OpW.load1 (v := .bool x5) one_4 rfl h1 ?_)
   refine RL.opS trivial rfl (OpW.pick (b := false) (v := .bool x5) (congrArg Value.bool hb1) rfl ?_)
   refine RL.nil ?_
   exact ⟨x5, rfl, h⟩
end Go.Proofs.Ytagkcbbbdlmcjaa
end
section
/- The typed readings of the functions, and that the program meets each: written by gen.py (a program of this session). -/
namespace Go.Proofs.Ytagkcbbbdlmcjaa
open Go.Lift
set_option maxRecDepth 100000 in
set_option maxHeartbeats 4000000 in
theorem s39_calls (K : Int → World → Prop) (p0 : Option Addr) (w : World) (h : s39 K p0 w) :
  Calls Try.prog 39 #[.pointer p0] w (Ret r39 K) := by
 unfold s39 at h
 refine calls_of_CW (n := 10) Try.func39 rfl rfl rfl ?_
 refine CW.seq ?_
 refine CW.region ?_
 refine RL.opS trivial rfl (OpW.assign (v := .int .i64 0) rfl ?_)
 refine RL.nil ?_
 refine CW.seq ?_
 refine CW.seq ?_
 refine CW.region ?_
 refine RL.opS trivial rfl (OpW.move (v := .pointer p0) rfl ?_)
 refine RL.opS trivial rfl (OpW.ptrNil (b := p0.isNone) (p := p0) ptr_31 rfl rfl rfl ?_)
 refine RL.nil ?_
 obtain ⟨ha, hc⟩ := h
 refine CW.cond (b := (p0.isNone)) rfl (fun hb1 => ?_) (fun hb1 => ?_)
 ·have h := ha hb1; clear ha hc
  refine CW.seq ?_
  refine CW.region ?_
  refine RL.opS trivial rfl (OpW.assign (v := .int .i64 0) rfl ?_)
  refine RL.nil ?_
  refine CW.ret ?_
  exact ret_intro (res1 rfl rfl) ⟨0, rfl, h⟩
 ·have h := hc hb1; clear ha hc
  refine CW.skip ?_
  refine CW.seq ?_
  refine CW.region ?_
  refine RL.opS trivial rfl (OpW.move (v := .pointer p0) rfl ?_)
  obtain ⟨a2, ha3, h⟩ := h
  refine RL.opS trivial rfl (OpW.nilCheck (a := a2) (congrArg Value.pointer ha3) ?_)
  refine RL.opS trivial rfl (OpW.fieldAddr (off := 0) field_93_0 rfl ?_)
  obtain ⟨x4, h1, h⟩ := h
  refine RL.opS trivial rfl (OpW.load1 (v := Sl.v x4) one_90 rfl h1 ?_)
  refine RL.opS trivial rfl (OpW.len (s := x4) slice_90 rfl ?_)
  refine RL.opS trivial rfl (OpW.assign (v := .int .i64 (x4.len : Int)) rfl ?_)
  refine RL.nil ?_
  refine CW.ret ?_
  exact ret_intro (res1 rfl rfl) ⟨(x4.len : Int), rfl, h⟩
end Go.Proofs.Ytagkcbbbdlmcjaa
end
section
/- The typed readings of the functions, and that the program meets each: written by gen.py (a program of this session). -/
namespace Go.Proofs.Ytagkcbbbdlmcjaa
open Go.Lift
set_option maxRecDepth 100000 in
set_option maxHeartbeats 4000000 in
theorem s53_calls (K : Sl → World → Prop) (p0 : Sl) (w : World) (h : s53 K p0 w) :
  Calls Try.prog 53 #[Sl.v p0] w (Ret r53 K) := by
 unfold s53 at h
 refine calls_of_CW (n := 8) Try.func53 rfl rfl rfl ?_
 refine CW.seq ?_
 refine CW.region ?_
 refine RL.opS trivial rfl (OpW.assign (v := Sl.v nilSl) rfl ?_)
 refine RL.nil ?_
 refine CW.seq ?_
 refine CW.seq ?_
 refine CW.region ?_
 refine RL.opS trivial rfl (OpW.move (v := Sl.v p0) rfl ?_)
 refine RL.opS trivial rfl (OpW.slNil (b := p0.a.isNone) (s := p0) slice_39 rfl rfl rfl ?_)
 refine RL.nil ?_
 obtain ⟨ha, hc⟩ := h
 refine CW.cond (b := (p0.a.isNone)) rfl (fun hb1 => ?_) (fun hb1 => ?_)
 ·have h := ha hb1; clear ha hc
  refine CW.seq ?_
  refine CW.region ?_
  refine RL.opS trivial rfl (OpW.assign (v := Sl.v nilSl) rfl ?_)
  refine RL.nil ?_
  refine CW.ret ?_
  exact ret_intro (res1 rfl rfl) ⟨nilSl, rfl, h⟩
 ·have h := hc hb1; clear ha hc
  refine CW.skip ?_
  refine CW.seq ?_
  refine CW.region ?_
  obtain ⟨b2, hb2_⟩ : ∃ b_, b_ = w.heap.size := ⟨_, rfl⟩
  obtain ⟨w3, hw3_⟩ : ∃ w_, w_ = w.alloc (.cells (List.toArray []) 5) := ⟨_, rfl⟩
  have h := h b2 w3 hb2_ hw3_
  refine RL.opS trivial rfl (OpW.buildSliceE (vs := []) (cs := []) (by rfl) (by kernel_rfl) hb2_ hw3_ ?_)
  refine RL.opS trivial rfl (OpW.move (v := Sl.v p0) rfl ?_)
  obtain ⟨x4, w5, hr_, h⟩ := h
  refine RL.opS trivial rfl (OpW.appendL (v := Sl.v x4) rfl hr_ ?_)
  refine RL.opS trivial rfl (OpW.assign (v := Sl.v x4) rfl ?_)
  refine RL.nil ?_
  refine CW.ret ?_
  exact ret_intro (res1 rfl rfl) ⟨x4, rfl, h⟩
end Go.Proofs.Ytagkcbbbdlmcjaa
end
section
/- The typed readings of the functions, and that the program meets each: written by gen.py (a program of this session). -/
namespace Go.Proofs.Ytagkcbbbdlmcjaa
open Go.Lift
set_option maxRecDepth 100000 in
set_option maxHeartbeats 4000000 in
theorem s59_calls (K : Int → World → Prop) (p0 : Option Addr) (p1 : Int) (w : World) (h : s59 K p0 p1 w) :
  Calls Try.prog 59 #[.pointer p0, .int .i64 p1] w (Ret r59 K) := by
 unfold s59 at h
 refine calls_of_CW (n := 20) Try.func59 rfl rfl rfl ?_
 refine CW.seq ?_
 refine CW.region ?_
 refine RL.opS trivial rfl (OpW.assign (v := .int .i64 0) rfl ?_)
 refine RL.nil ?_
 refine CW.seq ?_
 refine CW.block ?_
 refine CW.seq ?_
 refine CW.region ?_
 refine RL.opS trivial rfl (OpW.move (v := .pointer p0) rfl ?_)
 refine RL.opS trivial rfl (OpW.callR (al := [.pointer p0]) Try.func38 fb_38 fn_38 rfl h (fun x1 w2 h => ?_))
 refine RL.opS trivial rfl (OpW.assign (v := .bool x1) rfl ?_)
 refine RL.nil ?_
 obtain ⟨ha, hc⟩ := h
 refine CW.cond (b := x1) rfl (fun hb3 => ?_) (fun hb3 => ?_)
 ·have h := ha hb3; clear ha hc
  refine CW.seq ?_
  refine CW.region ?_
  refine RL.opS trivial rfl (OpW.assign (v := .int .i64 6) rfl ?_)
  refine RL.nil ?_
  refine CW.ret ?_
  exact ret_intro (res1 rfl rfl) ⟨6, rfl, h⟩
 ·have h := hc hb3; clear ha hc
  refine CW.seq ?_
  refine CW.region ?_
  refine RL.opS trivial rfl (OpW.move (v := .int .i64 p1) rfl ?_)
  refine RL.opS trivial rfl (OpW.bin (k := .i64) (a := p1) (b := 0) (v := .bool (decide (p1 < 0))) rfl rfl rfl ?_)
  refine RL.opS trivial rfl (OpW.move (v := .bool (decide (p1 < 0))) rfl ?_)
  refine jn_elim h ?_; clear h; intro k13 hk14 h
  refine RL.joinAt (A := Bool) 8 (fun s9 ρ => ρ 19 = .bool s9) k13 ?_ ?_
  ·rintro s9 ρ w10 e11 h
   subst hk14
   dsimp only [List.drop]
   refine RL.opS trivial rfl (OpW.assign (v := .bool s9) e11 ?_)
   refine RL.nil ?_
   obtain ⟨ha, hc⟩ := h
   refine CW.cond (b := s9) rfl (fun hb12 => ?_) (fun hb12 => ?_)
   ·have h := ha hb12; clear ha hc
    refine CW.seq ?_
    refine CW.region ?_
    refine RL.opS trivial rfl (OpW.assign (v := .int .i64 2) rfl ?_)
    refine RL.nil ?_
    refine CW.ret ?_
    exact ret_intro (res1 rfl rfl) ⟨2, rfl, h⟩
   ·have h := hc hb12; clear ha hc
    refine CW.skip ?_
    refine CW.seq ?_
    refine CW.region ?_
    refine RL.opS trivial rfl (OpW.assign (v := .int .i64 0) rfl ?_)
    refine RL.nil ?_
    refine CW.ret ?_
    exact ret_intro (res1 rfl rfl) ⟨0, rfl, h⟩
  ·clear hk14
   dsimp only [List.take]
   obtain ⟨ha, hc⟩ := h
   rcases Bool.eq_false_or_eq_true (decide (p1 < 0)) with hb4 | hb4
   ·have h := ha hb4; clear ha hc
    refine RL.skipS (notWanted_of rfl rfl hb4) rfl ?_
    refine RL.skipS (notWanted_of rfl rfl hb4) rfl ?_
    refine RL.skipS (notWanted_of rfl rfl hb4) rfl ?_
    refine RL.skipS (notWanted_of rfl rfl hb4) rfl ?_
    refine RL.skipS (notWanted_of rfl rfl hb4) rfl ?_
    refine RL.skipS (notWanted_of rfl rfl hb4) rfl ?_
    refine RL.skipS (notWanted_of rfl rfl hb4) rfl ?_
    refine RL.opS trivial rfl (OpW.pick (b := true) (v := .bool true) (congrArg Value.bool hb4) rfl ?_)
    refine RL.nil ?_
    exact ⟨true, rfl, h⟩
   ·have h := hc hb4; clear ha hc
    refine RL.opS (wanted_of rfl rfl hb4) rfl (OpW.move (v := .int .i64 p1) rfl ?_)
    refine RL.opS (wanted_of rfl rfl hb4) rfl (OpW.move (v := .pointer p0) rfl ?_)
    obtain ⟨a6, ha7, h⟩ := h
    refine RL.opS (wanted_of rfl rfl hb4) rfl (OpW.nilCheck (a := a6) (congrArg Value.pointer ha7) ?_)
    refine RL.opS (wanted_of rfl rfl hb4) rfl (OpW.fieldAddr (off := 0) field_93_0 rfl ?_)
    obtain ⟨x8, h1, h⟩ := h
    refine RL.opS (wanted_of rfl rfl hb4) rfl (OpW.load1 (v := Sl.v x8) one_90 rfl h1 ?_)
    refine RL.opS (wanted_of rfl rfl hb4) rfl (OpW.len (s := x8) slice_90 rfl ?_)
    refine RL.opS (wanted_of rfl rfl hb4) rfl (OpW.bin (k := .i64) (a := p1) (b := (x8.len : Int)) (v := .bool (decide ((x8.len : Int) ≤ p1))) rfl rfl rfl ?_)
    refine RL.opS trivial rfl (OpW.pick (b := false) (v := .bool (decide ((x8.len : Int) ≤ p1))) (congrArg Value.bool hb4) rfl ?_)
    refine RL.nil ?_
    exact ⟨(decide ((x8.len : Int) ≤ p1)), rfl, h⟩
end Go.Proofs.Ytagkcbbbdlmcjaa
end
section
/- The typed readings of the functions, and that the program meets each: written by gen.py (a program of this session). -/
namespace Go.Proofs.Ytagkcbbbdlmcjaa
open Go.Lift
set_option maxRecDepth 100000 in
set_option maxHeartbeats 4000000 in
theorem s64_calls (K : Sl → World → Prop) (p0 : Sl) (w : World) (h : s64 K p0 w) :
  Calls Try.prog 64 #[Sl.v p0] w (Ret r64 K) := by
 unfold s64 at h
 refine calls_of_CW (n := 8) Try.func64 rfl rfl rfl ?_
 refine CW.seq ?_
 refine CW.region ?_
 refine RL.opS trivial rfl (OpW.assign (v := Sl.v nilSl) rfl ?_)
 refine RL.nil ?_
 refine CW.seq ?_
 refine CW.seq ?_
 refine CW.region ?_
 refine RL.opS trivial rfl (OpW.move (v := Sl.v p0) rfl ?_)
 refine RL.opS trivial rfl (OpW.slNil (b := p0.a.isNone) (s := p0) slice_47 rfl rfl rfl ?_)
 refine RL.nil ?_
 obtain ⟨ha, hc⟩ := h
 refine CW.cond (b := (p0.a.isNone)) rfl (fun hb1 => ?_) (fun hb1 => ?_)
 ·have h := ha hb1; clear ha hc
  refine CW.seq ?_
  refine CW.region ?_
  refine RL.opS trivial rfl (OpW.assign (v := Sl.v nilSl) rfl ?_)
  refine RL.nil ?_
  refine CW.ret ?_
  exact ret_intro (res1 rfl rfl) ⟨nilSl, rfl, h⟩
 ·have h := hc hb1; clear ha hc
  refine CW.skip ?_
  refine CW.seq ?_
  refine CW.region ?_
  obtain ⟨b2, hb2_⟩ : ∃ b_, b_ = w.heap.size := ⟨_, rfl⟩
  obtain ⟨w3, hw3_⟩ : ∃ w_, w_ = w.alloc (.cells (List.toArray []) 27) := ⟨_, rfl⟩
  have h := h b2 w3 hb2_ hw3_
  refine RL.opS trivial rfl (OpW.buildSliceE (vs := []) (cs := []) (by rfl) (by kernel_rfl) hb2_ hw3_ ?_)
  refine RL.opS trivial rfl (OpW.move (v := Sl.v p0) rfl ?_)
  obtain ⟨x4, w5, hr_, h⟩ := h
  refine RL.opS trivial rfl (OpW.appendL (v := Sl.v x4) rfl hr_ ?_)
  refine RL.opS trivial rfl (OpW.assign (v := Sl.v x4) rfl ?_)
  refine RL.nil ?_
  refine CW.ret ?_
  exact ret_intro (res1 rfl rfl) ⟨x4, rfl, h⟩
end Go.Proofs.Ytagkcbbbdlmcjaa
end
section
/- The typed readings of the functions, and that the program meets each: written by gen.py (a program of this session). -/
namespace Go.Proofs.Ytagkcbbbdlmcjaa
open Go.Lift
set_option maxRecDepth 100000 in
set_option maxHeartbeats 4000000 in
theorem s32_calls (K : Sl → World → Prop) (p0 : Int) (p1 : List UInt8) (w : World) (h : s32 K p0 p1 w) :
  Calls Try.prog 32 #[.int .u8 p0, str p1] w (Ret r32 K) := by
 unfold s32 at h
 refine calls_of_CW (n := 22) Try.func32 rfl rfl rfl ?_
 refine CW.seq ?_
 refine CW.region ?_
 refine RL.opS trivial rfl (OpW.assign (v := Sl.v nilSl) rfl ?_)
 refine RL.nil ?_
 refine CW.seq ?_
 refine CW.region ?_
 obtain ⟨h1, h2, h3, h4, h⟩ := h
 obtain ⟨b1, hb1_⟩ : ∃ b_, b_ = w.heap.size := ⟨_, rfl⟩
 obtain ⟨w2, hw2_⟩ : ∃ w_, w_ = w.alloc (.cells (List.replicate (Int.toNat 512 * 1) (Value.int .u8 0)).toArray 5) := ⟨_, rfl⟩
 have h := h b1 w2 hb1_ hw2_
 obtain ⟨x3, hx3_⟩ : ∃ s_ : Sl, s_ = ⟨some ⟨b1, 0, none⟩, Int.toNat 512, Int.toNat 512⟩ := ⟨_, rfl⟩
 rw [← hx3_] at h
 refine RL.opS trivial rfl (OpW.makeSliceE mk_39 (by decide) rfl rfl h1 h2 h3 h4 hb1_ hw2_ hx3_ ?_)
 refine RL.opS trivial rfl (OpW.assign (v := Sl.v x3) rfl ?_)
 refine RL.nil ?_
 refine CW.seq ?_
 refine CW.seq ?_
 refine CW.region ?_
 refine RL.opS trivial rfl (OpW.move (v := Sl.v x3) rfl ?_)
 refine RL.opS trivial rfl (OpW.len (s := x3) slice_39 rfl ?_)
 refine RL.opS trivial rfl (OpW.move (v := .int .i64 0) rfl ?_)
 refine RL.nil ?_
 refine CW.block ?_
 obtain ⟨I18, mu19, hI, hs⟩ := h
 refine CW.loop (σ := Int) (fun s4 ρ => ρ 10 = .int .i64 s4 ∧ ρ 0 = .int .u8 p0 ∧ ρ 1 = str p1 ∧ ρ 5 = Sl.v x3 ∧ ρ 9 = .int .i64 (x3.len : Int)) I18 mu19 0 ⟨rfl, rfl, rfl, rfl, rfl⟩ hI ?_
 rintro s4 ρ w5 ⟨e7, e8, e9, e10, e11⟩ hI
 have h := hs s4 w5 hI
 clear hs hI
 refine CW.seq ?_
 refine CW.region ?_
 refine RL.opS trivial rfl (OpW.bin (k := .i64) (a := s4) (b := (x3.len : Int)) (v := .bool (decide (s4 < (x3.len : Int)))) e7 e11 rfl ?_)
 refine RL.nil ?_
 refine CW.seq ?_
 obtain ⟨ha, hc⟩ := h
 refine CW.cond (b := (decide (s4 < (x3.len : Int)))) rfl (fun hb12 => ?_) (fun hb12 => ?_)
 ·have h := ha hb12; clear ha hc
  refine CW.skip ?_
  refine CW.seq ?_
  refine CW.block ?_
  refine CW.seq ?_
  refine CW.region ?_
  refine RL.opS trivial rfl (OpW.move (v := .int .i64 s4) e7 ?_)
  refine RL.opS trivial rfl (OpW.assign (v := .int .i64 s4) rfl ?_)
  refine RL.nil ?_
  refine CW.region ?_
  refine RL.opS trivial rfl (OpW.move (v := Sl.v x3) e10 ?_)
  refine RL.opS trivial rfl (OpW.move (v := .int .i64 s4) rfl ?_)
  refine RL.opS trivial rfl (OpW.move (v := .int .u8 p0) e8 ?_)
  obtain ⟨a13_, a13, h1, h2, h3, h4, h⟩ := h
  refine RL.opS trivial rfl (OpW.indexE (a' := a13) slice_39 rfl rfl h1 h2 h3 h4 ?_)
  obtain ⟨u_, h1, h2, h⟩ := h
  obtain ⟨w15, hw15_⟩ : ∃ w_, w_ = w5.setCell a13 (.int .u8 p0) := ⟨_, rfl⟩
  have h := h w15 hw15_
  refine RL.opN trivial (OpW.store1E (v := .int .u8 p0) size_5 rfl rfl rfl h1 h2 hw15_ ?_)
  refine RL.nil ?_
  refine CW.region ?_
  refine RL.opS trivial rfl (OpW.bin (k := .i64) (a := s4) (b := 1) (v := .int .i64 (IntKind.i64.wrap (s4 + 1))) e7 rfl rfl ?_)
  refine RL.opS trivial rfl (OpW.move (v := .int .i64 (IntKind.i64.wrap (s4 + 1))) rfl ?_)
  refine RL.nil ?_
  exact ⟨(IntKind.i64.wrap (s4 + 1)), ⟨rfl, e8, e9, e10, e11⟩, h⟩
 ·have h := hc hb12; clear ha hc
  refine CW.exit ?_
  refine CW.seq ?_
  refine CW.region ?_
  refine RL.opS trivial rfl (OpW.move (v := Sl.v x3) e10 ?_)
  refine RL.opS trivial rfl (OpW.move (v := str p1) e9 ?_)
  obtain ⟨x16, w17, hr_, h⟩ := h
  refine RL.opS trivial rfl (OpW.copyL (v := .int .i64 x16) rfl hr_ ?_)
  refine RL.nil ?_
  refine CW.seq ?_
  refine CW.region ?_
  refine RL.opS trivial rfl (OpW.move (v := Sl.v x3) e10 ?_)
  refine RL.opS trivial rfl (OpW.assign (v := Sl.v x3) rfl ?_)
  refine RL.nil ?_
  refine CW.ret ?_
  exact ret_intro (res1 rfl rfl) ⟨x3, rfl, h⟩
end Go.Proofs.Ytagkcbbbdlmcjaa
end
section
/- The disk in memory, and what its functions do that change little. -/
namespace Go.Proofs.Ytagkcbbbdlmcjaa
open Go.Lift Go.Lift.Disk Go.RowKit
def Foot (pd bb : Nat) : Nat → Prop := fun k => k = pd ∨ k = bb
structure SlAt (w : World) (base : Nat → Prop) (pd bb sz : Nat) (s : Sl) (cs : List Value) : Prop where
 len : cs.length = s.len * sz
 cap : s.len ≤ s.cap
 nil : s.a = none → s = nilSl
 cells : AtO w s.a cs
 far : ∀ a, s.a = some a → base a.block ∧ a.block < w.heap.size ∧ ¬ Foot pd bb a.block
structure DX (w : World) (base : Nat → Prop) (pd bb cap : Nat) (rest : List Value) (sp sf : Sl) (D : Dk) : Prop where
 wf : D.Wf
 hpd : base pd
 hbb : base bb
 hne : pd ≠ bb
 hcap : D.bl.length ≤ cap
 disk : Blk w pd 93 [(⟨some ⟨bb, 0, none⟩, D.bl.length, cap⟩ : Sl).v, sp.v, sf.v, .int .i64 D.changes, .bool D.down]
 rows : Blk w bb 112 (u8s (flatB D.bl) ++ rest)
 pend : SlAt w base pd bb 513 sp (pendC D.pend)
 falls : SlAt w base pd bb 3 sf (fallC D.falls)
/-- A disk at a place. -/
def DAt (w : World) (base : Nat → Prop) (pd bb : Nat) (D : Dk) : Prop := ∃ cap rest sp sf, DX w base pd bb cap rest sp sf D
abbrev dp (pd : Nat) : Option Addr := some ⟨pd, 0, none⟩

theorem SlAt.nilAt (w : World) (base : Nat → Prop) (pd bb sz : Nat) : SlAt w base pd bb sz nilSl [] := ⟨by simp, Nat.le_refl _, fun _ => rfl, rfl, fun a h => by cases h⟩
theorem SlAt.fr {X : Nat → Prop} {w w' : World} {base : Nat → Prop} {pd bb sz : Nat} {s : Sl} {cs : List Value} (h : SlAt w base pd bb sz s cs) (hf : Fr X w w') (hX : ∀ k, base k → ¬ Foot pd bb k → ¬ X k) : SlAt w' base pd bb sz s cs :=
 ⟨h.len, h.cap, h.nil, hf.atO (fun b hb => hX _ (h.far b hb).1 (h.far b hb).2.2) h.cells, fun a ha => ⟨(h.far a ha).1, Nat.lt_of_lt_of_le (h.far a ha).2.1 hf.size, (h.far a ha).2.2⟩⟩
theorem DX.fr {X : Nat → Prop} {w w' : World} {base : Nat → Prop} {pd bb cap : Nat} {rest : List Value} {sp sf : Sl} {D : Dk} (h : DX w base pd bb cap rest sp sf D) (hf : Fr X w w') (hX : ∀ k, base k → ¬ X k) : DX w' base pd bb cap rest sp sf D :=
 ⟨h.wf, h.hpd, h.hbb, h.hne, h.hcap, h.disk.fr hf (hX _ h.hpd), h.rows.fr hf (hX _ h.hbb), h.pend.fr hf fun k hk _ => hX k hk, h.falls.fr hf fun k hk _ => hX k hk⟩
theorem DX.ext {w w' : World} {base : Nat → Prop} {pd bb cap : Nat} {rest : List Value} {sp sf : Sl} {D : Dk} (h : DX w base pd bb cap rest sp sf D) (hf : Ext w w') : DX w' base pd bb cap rest sp sf D :=
 h.fr (X := fun _ => False) (Fr.of hf) fun _ _ h => h
theorem DAt.fr {X : Nat → Prop} {w w' : World} {base : Nat → Prop} {pd bb : Nat} {D : Dk} (h : DAt w base pd bb D) (hf : Fr X w w') (hX : ∀ k, base k → ¬ X k) : DAt w' base pd bb D := by
 obtain ⟨c, r, sp, sf, h⟩ := h
 exact ⟨c, r, sp, sf, h.fr hf hX⟩
theorem DAt.ext {w w' : World} {base : Nat → Prop} {pd bb : Nat} {D : Dk} (h : DAt w base pd bb D) (hf : Ext w w') : DAt w' base pd bb D := h.fr (X := fun _ => False) (Fr.of hf) fun _ _ h => h
theorem DAt.wf {w : World} {base : Nat → Prop} {pd bb : Nat} {D : Dk} (h : DAt w base pd bb D) : D.Wf := by obtain ⟨_, _, _, _, h⟩ := h; exact h.wf
theorem DAt.lt {w : World} {base : Nat → Prop} {pd bb : Nat} {D : Dk} (h : DAt w base pd bb D) : base pd ∧ base bb ∧ pd < w.heap.size ∧ bb < w.heap.size := by obtain ⟨_, _, _, _, h⟩ := h; exact ⟨h.hpd, h.hbb, h.disk.lt, h.rows.lt⟩
/-- other blocks that may be its own -/
theorem DAt.mono {w : World} {base base' : Nat → Prop} {pd bb : Nat} {D : Dk} (h : DAt w base pd bb D) (hB : ∀ k, k < w.heap.size → base k → base' k) : DAt w base' pd bb D := by
 obtain ⟨c, r, sp, sf, h⟩ := h
 exact ⟨c, r, sp, sf, h.wf, hB _ h.disk.lt h.hpd, hB _ h.rows.lt h.hbb, h.hne, h.hcap, h.disk, h.rows, ⟨h.pend.len, h.pend.cap, h.pend.nil, h.pend.cells, fun a ha => ⟨hB _ (h.pend.far a ha).2.1 (h.pend.far a ha).1, (h.pend.far a ha).2⟩⟩,
  ⟨h.falls.len, h.falls.cap, h.falls.nil, h.falls.cells, fun a ha => ⟨hB _ (h.falls.far a ha).2.1 (h.falls.far a ha).1, (h.falls.far a ha).2⟩⟩⟩
/-- the blocks from one on -/
def Up (n : Nat) : Nat → Prop := fun k => n ≤ k
theorem upB {w0 w : World} (h : w0.heap.size ≤ w.heap.size) : ∀ k, w.heap.size ≤ k → Up w0.heap.size k := fun k hk => Nat.le_trans h hk
/-- a write into the rows -/
theorem DX.setRows {w w' : World} {base : Nat → Prop} {pd bb cap : Nat} {rest : List Value} {sp sf : Sl} {D : Dk} (h : DX w base pd bb cap rest sp sf D) {l : List Bl} (hb : Blk w' bb 112 (u8s (flatB l) ++ rest)) (hf : Fr (· = bb) w w') (hl : l.length = D.bl.length) (hw : WfB l) :
  DX w' base pd bb cap rest sp sf { D with bl := l } := by
 have hwf := h.wf
 refine ⟨⟨by simp only [hl]; exact hwf.pos, by simp only [hl]; exact hwf.few, hw, by simp only [hl]; exact hwf.pend, hwf.plen, hwf.keep, hwf.flen, hwf.ch⟩, h.hpd, h.hbb, h.hne, by simp only [hl]; exact h.hcap, ?_, hb, ?_, ?_⟩
 ·simp only [hl]; exact h.disk.fr hf h.hne
 ·exact h.pend.fr hf fun k _ hk e => hk (.inr e)
 ·exact h.falls.fr hf fun k _ hk e => hk (.inr e)
theorem footFr_bb {pd bb : Nat} {w w' : World} (h : Fr (· = bb) w w') : Fr (Foot pd bb) w w' := h.mono fun k _ e => .inr e
theorem footFr_pd {pd bb : Nat} {w w' : World} (h : Fr (· = pd) w w') : Fr (Foot pd bb) w w' := h.mono fun k _ e => .inl e

/-! ### what only looks -/
section
variable {w : World} {base : Nat → Prop} {pd bb : Nat} {D : Dk}
theorem down_ok (h : DAt w base pd bb D) : Calls Try.prog 38 #[.pointer (dp pd)] w (Ret r38 fun x w' => x = D.down ∧ w = w') := by
 obtain ⟨c, r, sp, sf, h⟩ := h
 apply s38_calls
 refine jn_of fun k hk => ?_
 refine ⟨fun h => absurd h (by simp), fun _ => ?_⟩
 refine ⟨_, rfl, D.down, by rw [add_plain]; exact h.disk.cell rfl, ?_⟩
 rw [hk]
 exact ⟨rfl, rfl⟩
theorem changes_ok (h : DAt w base pd bb D) : Calls Try.prog 19 #[.pointer (dp pd)] w (Ret r19 fun x w' => x = (D.changes : Int) ∧ w = w') := by
 obtain ⟨c, r, sp, sf, h⟩ := h
 apply s19_calls
 refine ⟨fun h => absurd h (by simp), fun _ => ?_⟩
 exact ⟨_, rfl, _, by rw [add_plain]; exact h.disk.cell rfl, rfl, rfl⟩
theorem pend_len {sp : Sl} {l : List (Nat × List UInt8)} (hs : SlAt w base pd bb 513 sp (pendC l)) (hl : ∀ p ∈ l, p.2.length = 512) : sp.len = l.length := by
 have h1 := hs.len
 rw [pendC_len hl] at h1
 omega
theorem fall_len {sf : Sl} {l : List Fall} (hs : SlAt w base pd bb 3 sf (fallC l)) : sf.len = l.length := by
 have h1 := hs.len
 rw [fallC_len] at h1
 omega
theorem pending_ok (h : DAt w base pd bb D) : Calls Try.prog 23 #[.pointer (dp pd)] w (Ret r23 fun x w' => x = (D.pend.length : Int) ∧ w = w') := by
 obtain ⟨c, r, sp, sf, h⟩ := h
 apply s23_calls
 refine ⟨fun h => absurd h (by simp), fun _ => ?_⟩
 have := pend_len h.pend fun p hp => (h.wf.pend p hp).2
 exact ⟨_, rfl, sp, by rw [add_plain]; exact h.disk.cell rfl, by rw [this], rfl⟩
theorem blocks_ok (h : DAt w base pd bb D) : Calls Try.prog 39 #[.pointer (dp pd)] w (Ret r39 fun x w' => x = (D.bl.length : Int) ∧ w = w') := by
 obtain ⟨c, r, sp, sf, h⟩ := h
 apply s39_calls
 refine ⟨fun h => absurd h (by simp), fun _ => ?_⟩
 exact ⟨_, rfl, _, by rw [add_plain]; exact h.disk.cell rfl, rfl, rfl⟩
theorem has_ok (h : DAt w base pd bb D) (i : Int) : Calls Try.prog 59 #[.pointer (dp pd), .int .i64 i] w (Ret r59 fun x w' => x = D.why i ∧ w = w') := by
 apply s59_calls
 refine cR_of (down_ok h) ?_
 rintro x w' ⟨rfl, rfl⟩
 obtain ⟨c, r, sp, sf, h⟩ := h
 unfold Dk.why
 refine ⟨fun hd => ?_, fun hd => ?_⟩
 ·rw [if_pos hd]; exact ⟨rfl, rfl⟩
 ·rw [if_neg (by rw [hd]; simp)]
  refine jn_of fun k hk => ?_
  have key : ∀ b : Bool, (b = true ↔ (i < 0 ∨ (D.bl.length : Int) ≤ i)) → k b w := by
   intro b hb
   rw [hk]
   refine ⟨fun ht => ?_, fun hf => ?_⟩
   ·rw [if_pos (hb.1 ht)]; exact ⟨rfl, rfl⟩
   ·rw [if_neg fun h => by rw [hb.2 h] at hf; cases hf]; exact ⟨rfl, rfl⟩
  refine ⟨fun h0 => key _ ?_, fun h0 => ?_⟩
  ·have := of_decide_eq_true h0; simp [this]
  ·have h0 := of_decide_eq_false h0
   refine ⟨_, rfl, ⟨some ⟨bb, 0, none⟩, D.bl.length, c⟩, by rw [add_plain]; exact h.disk.cell rfl, key _ ?_⟩
   simp; omega
theorem up_ok (h : DAt w base pd bb D) : Calls Try.prog 27 #[.pointer (dp pd)] w (Ret r27 fun x w' => x = D.down ∧ DAt w' base pd bb D.up ∧ Fr (Foot pd bb) w w') := by
 obtain ⟨c, r, sp, sf, h⟩ := h
 apply s27_calls
 refine jn_of fun k hk => ?_
 refine ⟨fun h => absurd h (by simp), fun _ => ?_⟩
 refine ⟨_, rfl, D.down, by rw [add_plain]; exact h.disk.cell rfl, ?_⟩
 rw [hk]
 refine ⟨fun hd => ?_, fun hd => ?_⟩
 ·have hd : D.down = false := by simpa using hd
  refine ⟨hd.symm, ⟨c, r, sp, sf, ?_⟩, Fr.refl w⟩
  unfold Dk.up
  rw [← hd]; exact h
 ·have hd : D.down = true := by simpa using hd
  refine ⟨_, rfl, ?_⟩
  show st1 _ _ _ _
  rw [add_plain]
  refine st1_blk h.disk (Nat.lt_succ_self 4) fun w' hb hf => ?_
  refine ⟨hd.symm, ⟨c, r, sp, sf, ?_⟩, footFr_pd hf⟩
  exact ⟨⟨h.wf.pos, h.wf.few, h.wf.bl, h.wf.pend, h.wf.plen, h.wf.keep, h.wf.flen, h.wf.ch⟩, h.hpd, h.hbb, h.hne, h.hcap, hb, h.rows.fr hf h.hne.symm, h.pend.fr hf fun k _ hk e => hk (.inl e), h.falls.fr hf fun k _ hk e => hk (.inl e)⟩

/-! ### bytes -/
theorem cut_all (a : Addr) (n : Nat) (hn : 0 < n) : Sl.cut ⟨some (Addr.add a 0), n, n⟩ 1 0 n n = ⟨some a, n, n⟩ := by
 have : Addr.add a 0 = a := by simp [Addr.add]
 simp [Sl.cut, this]
theorem cloneB_ok (p : Sl) (bs : List UInt8) (hp : Bytes w p bs) (hne : p.a ≠ none) (hl : bs.length ≤ 70368744177664) :
  Calls Try.prog 53 #[p.v] w (Ret r53 fun x w' => Own w' w.heap.size 5 1 x (u8s bs) ∧ Ext w w') := by
 apply s53_calls
 have hpl := hp.1
 refine ⟨fun h => absurd (Option.isNone_iff_eq_none.1 h) hne, fun _ => ?_⟩
 intro b2 w3 hb2 hw3
 have hx3 : Ext w w3 := Ext.new hw3
 refine app_ok (base := w.heap.size) mk_39 rfl (by decide) (Own.made (e := 5) (size := 1) (c := 0) hb2 hw3 (Nat.le_refl _) rfl (by simp [maxLen])) (news := u8s bs)
  (by rw [u8s_length]; omega) (hp.ext hx3).2 (u8s_one _) (by simp only [maxLen]; omega) (by simp only; omega) hx3.size ?_
 intro s' w' hl' ho' _ hB'
 exact ⟨by simpa using ho', hB' _ _ hx3 (Nat.le_refl _) hx3.size⟩
theorem flatAt {c : Nat} {r : List Value} {sp sf : Sl} (h : DX w base pd bb c r sp sf D) {i : Nat} (hi : i < D.bl.length) : At w ⟨bb, 1024 * i, none⟩ (u8s (bAt D.bl i).1) ∧ At w ⟨bb, 1024 * i + 512, none⟩ (u8s (bAt D.bl i).2) := by
 have hl := bAt_len h.wf.bl hi
 have hf := flat_len h.wf.bl
 refine ⟨h.rows.at ?_, h.rows.at ?_⟩
 ·rw [u8s_len, hl.1, List.drop_append_of_le_length (by rw [u8s_len]; omega), List.take_append_of_le_length (by rw [List.length_drop, u8s_len]; omega), u8s_drop, u8s_take, flat_now h.wf.bl hi]
 ·rw [u8s_len, hl.2, List.drop_append_of_le_length (by rw [u8s_len]; omega), List.take_append_of_le_length (by rw [List.length_drop, u8s_len]; omega), u8s_drop, u8s_take, flat_sure h.wf.bl hi]
theorem why_zero {i : Int} (h : D.why i = 0) : D.down = false ∧ 0 ≤ i ∧ i < D.bl.length := by
 unfold Dk.why at h
 split at h
 ·cases h
 ·split at h
  ·cases h
  ·rename_i h1 h2
   exact ⟨by simpa using h1, by omega, by omega⟩
theorem read_ok (h : DAt w base pd bb D) (i : Int) : Calls Try.prog 28 #[.pointer (dp pd), .int .i64 i] w (Ret r28 fun x w' => Ext w w' ∧
  ((D.why i ≠ 0 ∧ x = (nilSl, D.why i)) ∨ (D.why i = 0 ∧ x.2 = 0 ∧ Own w' w.heap.size 5 1 x.1 (u8s (bAt D.bl i.toNat).1)))) := by
 apply s28_calls
 refine cR_of (has_ok h i) ?_
 rintro x w' ⟨rfl, rfl⟩
 obtain ⟨c, r, sp, sf, h⟩ := h
 refine ⟨fun hne => ?_, fun he => ?_⟩
 ·exact ⟨Ext.refl _, .inl ⟨nd_t hne, rfl⟩⟩
 ·have he := nd_f he
  obtain ⟨h1, h2, h3⟩ := why_zero he
  obtain ⟨n, rfl⟩ := Int.eq_ofNat_of_zero_le h2
  have hn : n < D.bl.length := by omega
  refine ⟨_, rfl, ⟨some ⟨bb, 0, none⟩, D.bl.length, c⟩, by rw [add_plain]; exact h.disk.cell rfl, ?_⟩
  refine ⟨⟨bb, 0, none⟩, _, rfl, by omega, by simpa using h3, rfl, ?_⟩
  show cR _ _ _ _ _ _
  rw [add_plain, Nat.zero_add, Int.toNat_natCast]
  have ec := cut_all ⟨bb, n * 1024, none⟩ 512 (by decide)
  have ec2 : Sl.cut ⟨some (Addr.add ⟨bb, n * 1024, none⟩ 0), 512, 512⟩ 1 0 512 512 = ⟨some ⟨bb, n * 1024, none⟩, 512, 512⟩ := ec
  rw [ec2]
  have hl := bAt_len h.wf.bl hn
  refine cR_of (cloneB_ok ⟨some ⟨bb, n * 1024, none⟩, 512, 512⟩ (bAt D.bl n).1 ⟨by rw [hl.1], ?_⟩ (by simp) (by omega)) ?_
  ·rw [Nat.mul_comm]; exact (flatAt h hn).1
  rintro x w2 ⟨ho, hx⟩
  exact ⟨hx, .inr ⟨he, rfl, ho⟩⟩
end
end Go.Proofs.Ytagkcbbbdlmcjaa
end
section
/- The typed readings of the functions, and that the program meets each: written by gen.py (a program of this session). -/
namespace Go.Proofs.Ytagkcbbbdlmcjaa
open Go.Lift
set_option maxRecDepth 100000 in
set_option maxHeartbeats 4000000 in
theorem s35_calls (K : Unit → World → Prop) (p0 : Option Addr) (p1 : List Value) (w : World) (h : s35 K p0 p1 w) :
  Calls Try.prog 35 #[.pointer p0, aggv p1] w (Ret r35 K) := by
 unfold s35 at h
 refine calls_of_CW (n := 95) Try.func35 rfl rfl rfl ?_
 refine CW.seq ?_
 refine CW.region ?_
 obtain ⟨b1, hb1_⟩ : ∃ b_, b_ = w.heap.size := ⟨_, rfl⟩
 obtain ⟨w2, hw2_⟩ : ∃ w_, w_ = w.alloc (.cells (List.toArray p1) 27) := ⟨_, rfl⟩
 have h := h b1 w2 hb1_ hw2_
 refine RL.opS trivial rfl (OpW.boxE (cs := p1) (rfl) hb1_ hw2_ ?_)
 refine RL.nil ?_
 refine CW.seq ?_
 refine CW.seq ?_
 refine CW.region ?_
 refine RL.opS trivial rfl (OpW.move (v := .pointer p0) rfl ?_)
 refine RL.opS trivial rfl (OpW.callR (al := [.pointer p0]) Try.func38 fb_38 fn_38 rfl h (fun x3 w4 h => ?_))
 refine RL.nil ?_
 obtain ⟨ha, hc⟩ := h
 refine CW.cond (b := x3) rfl (fun hb5 => ?_) (fun hb5 => ?_)
 ·have h := ha hb5; clear ha hc
  refine CW.ret ?_
  exact ret_intro (res0 rfl) ⟨(), rfl, h⟩
 ·have h := hc hb5; clear ha hc
  refine CW.skip ?_
  refine CW.seq ?_
  refine CW.region ?_
  refine RL.opS trivial rfl (OpW.move (v := .pointer p0) rfl ?_)
  obtain ⟨a6, ha7, h⟩ := h
  refine RL.opS trivial rfl (OpW.nilCheck (a := a6) (congrArg Value.pointer ha7) ?_)
  refine RL.opS trivial rfl (OpW.fieldAddr field_93_1 rfl ?_)
  obtain ⟨x8, h1, h⟩ := h
  refine RL.opS trivial rfl (OpW.load1 (v := Sl.v x8) one_91 rfl h1 ?_)
  refine RL.opS trivial rfl (OpW.len (s := x8) slice_91 rfl ?_)
  refine RL.opS trivial rfl (OpW.bin (k := .i64) (a := (x8.len : Int)) (b := 1) (v := .int .i64 (IntKind.i64.wrap ((x8.len : Int) - 1))) rfl rfl rfl ?_)
  refine RL.opS trivial rfl (OpW.assign (v := .int .i64 (IntKind.i64.wrap ((x8.len : Int) - 1))) rfl ?_)
  refine RL.nil ?_
  refine CW.seq ?_
  refine CW.seq ?_
  refine CW.region ?_
  refine RL.opS trivial rfl (OpW.move (v := .pointer p0) rfl ?_)
  obtain ⟨a9, ha10, h⟩ := h
  refine RL.opS trivial rfl (OpW.nilCheck (a := a9) (congrArg Value.pointer ha10) ?_)
  refine RL.opS trivial rfl (OpW.fieldAddr field_93_1 rfl ?_)
  obtain ⟨x11, h1, h⟩ := h
  refine RL.opS trivial rfl (OpW.load1 (v := Sl.v x11) one_91 rfl h1 ?_)
  refine RL.opS trivial rfl (OpW.len (s := x11) slice_91 rfl ?_)
  refine RL.opS trivial rfl (OpW.move (v := .int .i64 0) rfl ?_)
  refine RL.nil ?_
  refine CW.block ?_
  obtain ⟨I104, mu105, hI, hs⟩ := h
  refine CW.loop (σ := Int) (fun s12 ρ => ρ 22 = .int .i64 s12 ∧ ρ 0 = .pointer p0 ∧ ρ 3 = .pointer (some ⟨b1, 0, none⟩) ∧ ρ 4 = .int .i64 (IntKind.i64.wrap ((x8.len : Int) - 1)) ∧ ρ 20 = Sl.v x11 ∧ ρ 21 = .int .i64 (x11.len : Int)) I104 mu105 0 ⟨rfl, rfl, rfl, rfl, rfl, rfl⟩ hI ?_
  rintro s12 ρ w13 ⟨e15, e16, e17, e18, e19, e20⟩ hI
  have h := hs s12 w13 hI
  clear hs hI
  refine CW.seq ?_
  refine CW.region ?_
  refine RL.opS trivial rfl (OpW.bin (k := .i64) (a := s12) (b := (x11.len : Int)) (v := .bool (decide (s12 < (x11.len : Int)))) e15 e20 rfl ?_)
  refine RL.nil ?_
  refine CW.seq ?_
  obtain ⟨ha, hc⟩ := h
  refine CW.cond (b := (decide (s12 < (x11.len : Int)))) rfl (fun hb21 => ?_) (fun hb21 => ?_)
  ·have h := ha hb21; clear ha hc
   refine CW.skip ?_
   refine jn_elim h ?_; clear h; intro k70 hk71 h
   refine CW.seqJ (A := Unit) (fun s62 ρ => ρ 0 = .pointer p0 ∧ ρ 3 = .pointer (some ⟨b1, 0, none⟩) ∧ ρ 4 = .int .i64 (IntKind.i64.wrap ((x8.len : Int) - 1)) ∧ ρ 20 = Sl.v x11 ∧ ρ 21 = .int .i64 (x11.len : Int) ∧ ρ 22 = .int .i64 s12) k70 ?_ ?_
   ·rintro s62 ρ w63 ⟨e64, e65, e66, e67, e68, e69⟩ h
    subst hk71
    refine CW.region ?_
    refine RL.opS trivial rfl (OpW.bin (k := .i64) (a := s12) (b := 1) (v := .int .i64 (IntKind.i64.wrap (s12 + 1))) e69 rfl rfl ?_)
    refine RL.opS trivial rfl (OpW.move (v := .int .i64 (IntKind.i64.wrap (s12 + 1))) rfl ?_)
    refine RL.nil ?_
    exact ⟨(IntKind.i64.wrap (s12 + 1)), ⟨rfl, e64, e65, e66, e67, e68⟩, h⟩
   ·clear hk71
    refine CW.block ?_
    refine CW.seq ?_
    refine CW.region ?_
    refine RL.opS trivial rfl (OpW.move (v := .int .i64 s12) e15 ?_)
    obtain ⟨a23_, a23, h1, h2, h3, h4, h⟩ := h
    refine RL.opS trivial rfl (OpW.indexE (a' := a23) slice_91 e19 e15 h1 h2 h3 h4 ?_)
    obtain ⟨x25, h1, h2, h⟩ := h
    refine RL.opS trivial rfl (OpW.loadA agg_116 rfl h1 h2 ?_)
    obtain ⟨hl_b26, ho_b26, h⟩ := h
    obtain ⟨b26, hb26_⟩ : ∃ b_, b_ = w13.heap.size := ⟨_, rfl⟩
    obtain ⟨w27, hw27_⟩ : ∃ w_, w_ = w13.alloc (.cells (List.toArray x25) 116) := ⟨_, rfl⟩
    have h := h b26 w27 hb26_ hw27_
    refine RL.opS trivial rfl (OpW.allocZ (b := b26) zero_116 hb26_ ?_)
    refine RL.opS trivial rfl (OpW.assign (v := .int .i64 s12) rfl ?_)
    refine RL.opN trivial (OpW.storeF (zs := ([Value.int .i64 0] ++ List.replicate 512 (Value.int .u8 0))) (cs := x25) size_116 rfl rfl hl_b26 (by decide) ho_b26 hb26_ hw27_ ?_)
    refine RL.nil ?_
    refine CW.seq ?_
    obtain ⟨w28, hw28_⟩ : ∃ w_, w_ = w27.drew := ⟨_, rfl⟩
    have h := h w28 hw28_
    have hx29 : Ext w27 w28 := by rw [hw28_]; exact Ext.drew _
    refine CW.draws (m := 9) (listed := #[F,F,F,F,F,F,F,F,F]) mixed [0, 1, 2, 3, 4, 5, 6, 7, 8] (Ext w27) rfl rfl ?_
    rw [← hw28_]
    refine DL.takeP (listed' := #[T,F,F,F,F,F,F,F,F]) (v := .pointer p0) 0 rfl rfl (by kernel_rfl) rfl trivial rfl (fun w_ K_ h_ => OpW.move (v := .pointer p0) e16 h_) ?_
    obtain ⟨a30, ha31, h⟩ := h
    refine DL.takeP (listed' := #[T,T,F,F,F,F,F,F,F]) (v := .pointer (some a30)) 1 rfl rfl (by kernel_rfl) rfl trivial rfl (fun w_ K_ h_ => OpW.nilCheck (a := a30) (congrArg Value.pointer ha31) h_) ?_
    refine DL.takeP (listed' := #[T,T,T,F,F,F,F,F,F]) (v := .pointer (some (Addr.add a30 0))) 2 rfl rfl (by kernel_rfl) rfl trivial rfl (fun w_ K_ h_ => OpW.fieldAddr (off := 0) field_93_0 rfl h_) ?_
    obtain ⟨x32, h1, h⟩ := h
    refine DL.takeK (listed' := #[T,T,T,T,F,F,F,F,F]) (v := Sl.v x32) 3 rfl rfl (by kernel_rfl) (by kernel_rfl) rfl trivial rfl hx29 (fun w_ hS_ K_ h_ => OpW.load1 (v := Sl.v x32) one_90 rfl (hS_.cell h1) h_) ?_
    refine DL.takeP (listed' := #[T,T,T,T,T,F,F,F,F]) (v := .pointer (some (Addr.add ⟨b26, 0, none⟩ 0))) 4 rfl rfl (by kernel_rfl) rfl trivial rfl (fun w_ K_ h_ => OpW.fieldAddr (off := 0) field_116_0 rfl h_) ?_
    obtain ⟨x33, h1, h⟩ := h
    refine DL.takeK (listed' := #[T,T,T,T,T,T,F,F,F]) (v := .int .i64 x33) 5 rfl rfl (by kernel_rfl) (by kernel_rfl) rfl trivial rfl hx29 (fun w_ hS_ K_ h_ => OpW.load1 (v := .int .i64 x33) one_3 rfl (hS_.cell h1) h_) ?_
    obtain ⟨a34_, a34, h1, h2, h3, h4, h⟩ := h
    refine DL.takeP (listed' := #[T,T,T,T,T,T,T,F,F]) (v := .pointer (some a34)) 6 rfl rfl (by kernel_rfl) rfl trivial rfl (fun w_ K_ h_ => OpW.indexE (a' := a34) slice_90 rfl rfl h1 h2 h3 h4 h_) ?_
    refine DL.takeP (listed' := #[T,T,T,T,T,T,T,T,F]) (v := .pointer (some (Addr.add a34 512))) 7 rfl rfl (by kernel_rfl) rfl trivial rfl (fun w_ K_ h_ => OpW.fieldAddr field_112_1 rfl h_) ?_
    refine DL.takeP (listed' := #[T,T,T,T,T,T,T,T,T]) (v := .pointer (some (Addr.add a34 512))) 8 rfl rfl (by kernel_rfl) rfl trivial rfl (fun w_ K_ h_ => OpW.assign (v := .pointer (some (Addr.add a34 512))) rfl h_) ?_
    refine DL.done (by kernel_rfl) ?_
    refine CW.block ?_
    refine CW.seq ?_
    refine CW.region ?_
    refine RL.opS trivial rfl (OpW.move (v := .int .i64 s12) rfl ?_)
    refine RL.opS trivial rfl (OpW.bin (k := .i64) (a := s12) (b := 64) (v := .bool (decide (s12 < 64))) rfl rfl rfl ?_)
    refine RL.opS trivial rfl (OpW.move (v := .bool (decide (s12 < 64))) rfl ?_)
    refine jn_elim h ?_; clear h; intro k60 hk61 h
    refine RL.joinAt (A := Bool) 7 (fun s39 ρ => ρ 45 = .bool s39 ∧ ρ 0 = .pointer p0 ∧ ρ 3 = .pointer (some ⟨b1, 0, none⟩) ∧ ρ 4 = .int .i64 (IntKind.i64.wrap ((x8.len : Int) - 1)) ∧ ρ 5 = .int .i64 s12 ∧ ρ 6 = .pointer (some ⟨b26, 0, none⟩) ∧ ρ 7 = .pointer (some (Addr.add a34 512)) ∧ ρ 20 = Sl.v x11 ∧ ρ 21 = .int .i64 (x11.len : Int) ∧ ρ 22 = .int .i64 s12) k60 ?_ ?_
    ·rintro s39 ρ w40 ⟨e41, e42, e43, e44, e45, e46, e47, e48, e49, e50⟩ h
     subst hk61
     dsimp only [List.drop]
     refine RL.opS trivial rfl (OpW.assign (v := .bool s39) e41 ?_)
     refine RL.nil ?_
     obtain ⟨ha, hc⟩ := h
     refine CW.cond (b := s39) rfl (fun hb51 => ?_) (fun hb51 => ?_)
     ·have h := ha hb51; clear ha hc
      refine CW.region ?_
      refine RL.opS trivial rfl (OpW.move (v := .pointer (some (Addr.add a34 512))) e47 ?_)
      refine RL.opS trivial rfl (OpW.fieldAddr field_116_1 e46 ?_)
      obtain ⟨x52, h1, h2, h⟩ := h
      refine RL.opS trivial rfl (OpW.loadA agg_110 rfl h1 h2 ?_)
      refine RL.opS trivial rfl (OpW.nilCheck rfl ?_)
      obtain ⟨g_, o_, e_, cur_, ha_, h1, h2, h3, h4, h⟩ := h
      obtain ⟨w53, hw53_⟩ : ∃ w_, w_ = w40.setRow g_ (cur_.toList.take o_ ++ x52 ++ cur_.toList.drop (o_ + List.length x52)).toArray := ⟨_, rfl⟩
      have h := h w53 hw53_
      refine RL.opN trivial (OpW.storeAE (cs := x52) size_110 rfl rfl ha_ h1 h2 h3 h4 hw53_ ?_)
      refine RL.nil ?_
      exact ⟨(), ⟨e42, e43, e44, e48, e49, e50⟩, h⟩
     ·have h := hc hb51; clear ha hc
      refine CW.seq ?_
      refine CW.region ?_
      refine RL.opS trivial rfl (OpW.move (v := .int .i64 s12) e45 ?_)
      refine RL.opS trivial rfl (OpW.move (v := .int .i64 (IntKind.i64.wrap ((x8.len : Int) - 1))) e44 ?_)
      refine RL.opS trivial rfl (OpW.bin (k := .i64) (a := s12) (b := (IntKind.i64.wrap ((x8.len : Int) - 1))) (v := .bool (decide (s12 = (IntKind.i64.wrap ((x8.len : Int) - 1))))) rfl rfl rfl ?_)
      refine RL.opS trivial rfl (OpW.assign (v := .bool (decide (s12 = (IntKind.i64.wrap ((x8.len : Int) - 1))))) rfl ?_)
      refine RL.nil ?_
      obtain ⟨ha, hc⟩ := h
      refine CW.cond (b := (decide (s12 = (IntKind.i64.wrap ((x8.len : Int) - 1))))) rfl (fun hb54 => ?_) (fun hb54 => ?_)
      ·have h := ha hb54; clear ha hc
       obtain ⟨w55, hw55_⟩ : ∃ w_, w_ = w40.drew := ⟨_, rfl⟩
       have h := h w55 hw55_
       have hx56 : Ext w40 w55 := by rw [hw55_]; exact Ext.drew _
       refine CW.draws (m := 10) (listed := #[F,F,F,F,F,F,F,F,F,F]) mixed [0, 1, 2, 3, 4, 5, 6, 7, 8] (Ext w40) rfl rfl ?_
       rw [← hw55_]
       refine DL.takeP (listed' := #[T,F,F,F,F,F,F,F,F,F]) (v := .pointer (some (Addr.add a34 512))) 0 rfl rfl (by kernel_rfl) rfl trivial rfl (fun w_ K_ h_ => OpW.move (v := .pointer (some (Addr.add a34 512))) e47 h_) ?_
       refine DL.takeP (listed' := #[T,T,F,F,F,F,F,F,F,F]) (v := .pointer (some (Addr.add a34 512))) 1 rfl rfl (by kernel_rfl) rfl trivial rfl (fun w_ K_ h_ => OpW.nilCheck rfl h_) ?_
       refine DL.takeP (listed' := #[T,T,T,F,F,F,F,F,F,F]) (v := .pointer (some (Addr.add ⟨b1, 0, none⟩ 2))) 2 rfl rfl (by kernel_rfl) rfl trivial rfl (fun w_ K_ h_ => OpW.fieldAddr field_27_2 e43 h_) ?_
       obtain ⟨x57, h1, h⟩ := h
       refine DL.takeK (listed' := #[T,T,T,T,F,F,F,F,F,F]) (v := .int .i64 x57) 3 rfl rfl (by kernel_rfl) (by kernel_rfl) rfl trivial rfl hx56 (fun w_ hS_ K_ h_ => OpW.load1 (v := .int .i64 x57) one_3 rfl (hS_.cell h1) h_) ?_
       refine DL.takeP (listed' := #[T,T,T,T,T,F,F,F,F,F]) (v := .int .i64 (mn x57 512)) 4 rfl rfl (by kernel_rfl) rfl trivial rfl (fun w_ K_ h_ => OpW.min2 (a := x57) (b := 512) rfl rfl h_) ?_
       refine DL.takeP (listed' := #[T,T,T,T,T,T,F,F,F,F]) (v := .int .i64 (mx 0 (mn x57 512))) 5 rfl rfl (by kernel_rfl) rfl trivial rfl (fun w_ K_ h_ => OpW.max2 (a := 0) (b := (mn x57 512)) rfl rfl h_) ?_
       obtain ⟨⟨h1, h2, h3⟩, h⟩ := h
       refine DL.takeP (listed' := #[T,T,T,T,T,T,T,F,F,F]) (v := Sl.v (Sl.cut ⟨some (Addr.add a34 512), 512, 512⟩ 1 0 (mx 0 (mn x57 512)) 512)) 6 rfl rfl (by kernel_rfl) rfl trivial rfl (fun w_ K_ h_ => OpW.sliceArr (l := 0) (h := (mx 0 (mn x57 512))) arr_110 rfl rfl ⟨_, rfl⟩ h1 h2 h3 h_) ?_
       refine DL.takeP (listed' := #[T,T,T,T,T,T,T,T,F,F]) (v := .pointer (some (Addr.add ⟨b26, 0, none⟩ 1))) 7 rfl rfl (by kernel_rfl) rfl trivial rfl (fun w_ K_ h_ => OpW.fieldAddr field_116_1 e46 h_) ?_
       refine DL.takeP (listed' := #[T,T,T,T,T,T,T,T,T,F]) (v := Sl.v (Sl.cut ⟨some (Addr.add ⟨b26, 0, none⟩ 1), 512, 512⟩ 1 0 512 512)) 8 rfl rfl (by kernel_rfl) rfl trivial rfl (fun w_ K_ h_ => OpW.sliceArr (l := 0) (h := 512) arr_110 rfl rfl rfl (by decide) (by decide) (by decide) h_) ?_
       obtain ⟨x58, w59, hr_, h⟩ := h
       refine DL.execS (listed' := #[T,T,T,T,T,T,T,T,T,T]) 9 rfl (by kernel_rfl) rfl trivial rfl (OpW.copyL (v := .int .i64 x58) rfl hr_ ?_)
       refine ⟨(fun h_ => absurd h_ (by decide)), ?_⟩
       refine DL.done (by kernel_rfl) ?_
       exact ⟨(), ⟨e42, e43, e44, e48, e49, e50⟩, h⟩
      ·have h := hc hb54; clear ha hc
       refine CW.skip ?_
       exact ⟨(), ⟨e42, e43, e44, e48, e49, e50⟩, h⟩
    ·clear hk61
     dsimp only [List.take]
     obtain ⟨ha, hc⟩ := h
     rcases Bool.eq_false_or_eq_true (decide (s12 < 64)) with hb36 | hb36
     ·have h := ha hb36; clear ha hc
      refine RL.opS (wanted_of rfl rfl hb36) rfl (OpW.fieldAddr field_27_1 e17 ?_)
      obtain ⟨x38, h1, h⟩ := h
      refine RL.opS (wanted_of rfl rfl hb36) rfl (OpW.load1 (v := .int .u64 x38) one_25 rfl h1 ?_)
      refine RL.opS (wanted_of rfl rfl hb36) rfl (OpW.move (v := .int .i64 s12) rfl ?_)
      obtain ⟨hq_, h⟩ := h
      refine RL.opS (wanted_of rfl rfl hb36) rfl (OpW.shift (a := x38) (b := s12) (v := .int .u64 (shrI .u64 x38 s12)) rfl rfl hq_ rfl ?_)
      refine RL.opS (wanted_of rfl rfl hb36) rfl (OpW.bin (k := .u64) (a := (shrI .u64 x38 s12)) (b := 1) (v := .int .u64 (andI .u64 (shrI .u64 x38 s12) 1)) rfl rfl rfl ?_)
      refine RL.opS (wanted_of rfl rfl hb36) rfl (OpW.bin (k := .u64) (a := (andI .u64 (shrI .u64 x38 s12) 1)) (b := 1) (v := .bool (decide ((andI .u64 (shrI .u64 x38 s12) 1) = 1))) rfl rfl rfl ?_)
      refine RL.opS trivial rfl (OpW.pick (b := true) (v := .bool (decide ((andI .u64 (shrI .u64 x38 s12) 1) = 1))) (congrArg Value.bool hb36) rfl ?_)
      refine RL.nil ?_
      exact ⟨(decide ((andI .u64 (shrI .u64 x38 s12) 1) = 1)), ⟨rfl, e16, e17, e18, rfl, rfl, rfl, e19, e20, e15⟩, h⟩
     ·have h := hc hb36; clear ha hc
      refine RL.skipS (notWanted_of rfl rfl hb36) rfl ?_
      refine RL.skipS (notWanted_of rfl rfl hb36) rfl ?_
      refine RL.skipS (notWanted_of rfl rfl hb36) rfl ?_
      refine RL.skipS (notWanted_of rfl rfl hb36) rfl ?_
      refine RL.skipS (notWanted_of rfl rfl hb36) rfl ?_
      refine RL.skipS (notWanted_of rfl rfl hb36) rfl ?_
      refine RL.opS trivial rfl (OpW.pick (b := false) (v := .bool false) (congrArg Value.bool hb36) rfl ?_)
      refine RL.nil ?_
      exact ⟨false, ⟨rfl, e16, e17, e18, rfl, rfl, rfl, e19, e20, e15⟩, h⟩
  ·have h := hc hb21; clear ha hc
   refine CW.exit ?_
   refine CW.seq ?_
   refine CW.seq ?_
   refine CW.region ?_
   refine RL.opS trivial rfl (OpW.move (v := .pointer p0) e16 ?_)
   obtain ⟨a72, ha73, h⟩ := h
   refine RL.opS trivial rfl (OpW.nilCheck (a := a72) (congrArg Value.pointer ha73) ?_)
   refine RL.opS trivial rfl (OpW.fieldAddr (off := 0) field_93_0 rfl ?_)
   obtain ⟨x74, h1, h⟩ := h
   refine RL.opS trivial rfl (OpW.load1 (v := Sl.v x74) one_90 rfl h1 ?_)
   refine RL.opS trivial rfl (OpW.len (s := x74) slice_90 rfl ?_)
   refine RL.opS trivial rfl (OpW.move (v := .int .i64 0) rfl ?_)
   refine RL.nil ?_
   refine CW.block ?_
   obtain ⟨I102, mu103, hI, hs⟩ := h
   refine CW.loop (σ := Int) (fun s75 ρ => ρ 70 = .int .i64 s75 ∧ ρ 0 = .pointer p0 ∧ ρ 69 = .int .i64 (x74.len : Int)) I102 mu103 0 ⟨rfl, e16, rfl⟩ hI ?_
   rintro s75 ρ w76 ⟨e78, e79, e80⟩ hI
   have h := hs s75 w76 hI
   clear hs hI
   refine CW.seq ?_
   refine CW.region ?_
   refine RL.opS trivial rfl (OpW.bin (k := .i64) (a := s75) (b := (x74.len : Int)) (v := .bool (decide (s75 < (x74.len : Int)))) e78 e80 rfl ?_)
   refine RL.nil ?_
   refine CW.seq ?_
   obtain ⟨ha, hc⟩ := h
   refine CW.cond (b := (decide (s75 < (x74.len : Int)))) rfl (fun hb81 => ?_) (fun hb81 => ?_)
   ·have h := ha hb81; clear ha hc
    refine CW.skip ?_
    refine CW.seq ?_
    refine CW.block ?_
    refine CW.seq ?_
    refine CW.region ?_
    refine RL.opS trivial rfl (OpW.move (v := .int .i64 s75) e78 ?_)
    refine RL.opS trivial rfl (OpW.assign (v := .int .i64 s75) rfl ?_)
    refine RL.nil ?_
    obtain ⟨w82, hw82_⟩ : ∃ w_, w_ = w76.drew := ⟨_, rfl⟩
    have h := h w82 hw82_
    have hx83 : Ext w76 w82 := by rw [hw82_]; exact Ext.drew _
    refine CW.draws (m := 16) (listed := #[F,F,F,F,F,F,F,F,F,F,F,F,F,F,F,F]) mixed [0, 1, 2, 3, 4, 5, 6, 7, 8, 9, 10, 11, 12, 13, 14] (Ext w76) rfl rfl ?_
    rw [← hw82_]
    refine DL.takeP (listed' := #[T,F,F,F,F,F,F,F,F,F,F,F,F,F,F,F]) (v := .pointer p0) 0 rfl rfl (by kernel_rfl) rfl trivial rfl (fun w_ K_ h_ => OpW.move (v := .pointer p0) e79 h_) ?_
    obtain ⟨a84, ha85, h⟩ := h
    refine DL.takeP (listed' := #[T,T,F,F,F,F,F,F,F,F,F,F,F,F,F,F]) (v := .pointer (some a84)) 1 rfl rfl (by kernel_rfl) rfl trivial rfl (fun w_ K_ h_ => OpW.nilCheck (a := a84) (congrArg Value.pointer ha85) h_) ?_
    refine DL.takeP (listed' := #[T,T,T,F,F,F,F,F,F,F,F,F,F,F,F,F]) (v := .pointer (some (Addr.add a84 0))) 2 rfl rfl (by kernel_rfl) rfl trivial rfl (fun w_ K_ h_ => OpW.fieldAddr (off := 0) field_93_0 rfl h_) ?_
    obtain ⟨x86, h1, h⟩ := h
    refine DL.takeK (listed' := #[T,T,T,T,F,F,F,F,F,F,F,F,F,F,F,F]) (v := Sl.v x86) 3 rfl rfl (by kernel_rfl) (by kernel_rfl) rfl trivial rfl hx83 (fun w_ hS_ K_ h_ => OpW.load1 (v := Sl.v x86) one_90 rfl (hS_.cell h1) h_) ?_
    refine DL.takeP (listed' := #[T,T,T,T,T,F,F,F,F,F,F,F,F,F,F,F]) (v := .int .i64 s75) 4 rfl rfl (by kernel_rfl) rfl trivial rfl (fun w_ K_ h_ => OpW.move (v := .int .i64 s75) rfl h_) ?_
    refine DL.takeP (listed' := #[T,T,T,T,T,T,F,F,F,F,F,F,F,F,F,F]) (v := .pointer p0) 5 rfl rfl (by kernel_rfl) rfl trivial rfl (fun w_ K_ h_ => OpW.move (v := .pointer p0) e79 h_) ?_
    obtain ⟨a87, ha88, h⟩ := h
    refine DL.takeP (listed' := #[T,T,T,T,T,T,T,F,F,F,F,F,F,F,F,F]) (v := .pointer (some a87)) 6 rfl rfl (by kernel_rfl) rfl trivial rfl (fun w_ K_ h_ => OpW.nilCheck (a := a87) (congrArg Value.pointer ha88) h_) ?_
    refine DL.takeP (listed' := #[T,T,T,T,T,T,T,T,F,F,F,F,F,F,F,F]) (v := .pointer (some (Addr.add a87 0))) 7 rfl rfl (by kernel_rfl) rfl trivial rfl (fun w_ K_ h_ => OpW.fieldAddr (off := 0) field_93_0 rfl h_) ?_
    obtain ⟨x89, h1, h⟩ := h
    refine DL.takeK (listed' := #[T,T,T,T,T,T,T,T,T,F,F,F,F,F,F,F]) (v := Sl.v x89) 8 rfl rfl (by kernel_rfl) (by kernel_rfl) rfl trivial rfl hx83 (fun w_ hS_ K_ h_ => OpW.load1 (v := Sl.v x89) one_90 rfl (hS_.cell h1) h_) ?_
    refine DL.takeP (listed' := #[T,T,T,T,T,T,T,T,T,T,F,F,F,F,F,F]) (v := .int .i64 s75) 9 rfl rfl (by kernel_rfl) rfl trivial rfl (fun w_ K_ h_ => OpW.move (v := .int .i64 s75) rfl h_) ?_
    obtain ⟨a90_, a90, h1, h2, h3, h4, h⟩ := h
    refine DL.takeP (listed' := #[T,T,T,T,T,T,T,T,T,T,T,F,F,F,F,F]) (v := .pointer (some a90)) 10 rfl rfl (by kernel_rfl) rfl trivial rfl (fun w_ K_ h_ => OpW.indexE (a' := a90) slice_90 rfl rfl h1 h2 h3 h4 h_) ?_
    refine DL.takeP (listed' := #[T,T,T,T,T,T,T,T,T,T,T,T,F,F,F,F]) (v := .pointer (some (Addr.add a90 512))) 11 rfl rfl (by kernel_rfl) rfl trivial rfl (fun w_ K_ h_ => OpW.fieldAddr field_112_1 rfl h_) ?_
    obtain ⟨x92, h1, h2, h⟩ := h
    refine DL.takeK (listed' := #[T,T,T,T,T,T,T,T,T,T,T,T,T,F,F,F]) (v := aggv x92) 12 rfl rfl (by kernel_rfl) (by kernel_rfl) rfl trivial rfl hx83 (fun w_ hS_ K_ h_ => OpW.loadA agg_110 rfl h1 (hS_.at h2) h_) ?_
    obtain ⟨a93_, a93, h1, h2, h3, h4, h⟩ := h
    refine DL.takeP (listed' := #[T,T,T,T,T,T,T,T,T,T,T,T,T,T,F,F]) (v := .pointer (some a93)) 13 rfl rfl (by kernel_rfl) rfl trivial rfl (fun w_ K_ h_ => OpW.indexE (a' := a93) slice_90 rfl rfl h1 h2 h3 h4 h_) ?_
    refine DL.takeP (listed' := #[T,T,T,T,T,T,T,T,T,T,T,T,T,T,T,F]) (v := .pointer (some (Addr.add a93 0))) 14 rfl rfl (by kernel_rfl) rfl trivial rfl (fun w_ K_ h_ => OpW.fieldAddr (off := 0) field_112_0 rfl h_) ?_
    obtain ⟨g_, o_, e_, cur_, ha_, h1, h2, h3, h4, h⟩ := h
    obtain ⟨w95, hw95_⟩ : ∃ w_, w_ = w82.setRow g_ (cur_.toList.take o_ ++ x92 ++ cur_.toList.drop (o_ + List.length x92)).toArray := ⟨_, rfl⟩
    have h := h w95 hw95_
    refine DL.execN (listed' := #[T,T,T,T,T,T,T,T,T,T,T,T,T,T,T,T]) 15 rfl (by kernel_rfl) rfl trivial (OpW.storeAE (cs := x92) size_110 rfl rfl ha_ h1 h2 h3 h4 hw95_ ?_)
    refine ⟨(fun h_ => absurd h_ (by decide)), ?_⟩
    refine DL.done (by kernel_rfl) ?_
    refine CW.region ?_
    refine RL.opS trivial rfl (OpW.bin (k := .i64) (a := s75) (b := 1) (v := .int .i64 (IntKind.i64.wrap (s75 + 1))) e78 rfl rfl ?_)
    refine RL.opS trivial rfl (OpW.move (v := .int .i64 (IntKind.i64.wrap (s75 + 1))) rfl ?_)
    refine RL.nil ?_
    exact ⟨(IntKind.i64.wrap (s75 + 1)), ⟨rfl, e79, e80⟩, h⟩
   ·have h := hc hb81; clear ha hc
    refine CW.exit ?_
    refine CW.region ?_
    refine RL.opS trivial rfl (OpW.move (v := .pointer p0) e79 ?_)
    refine RL.opS trivial rfl (OpW.move (v := .pointer p0) e79 ?_)
    obtain ⟨a96, ha97, h⟩ := h
    refine RL.opS trivial rfl (OpW.nilCheck (a := a96) (congrArg Value.pointer ha97) ?_)
    refine RL.opS trivial rfl (OpW.fieldAddr field_93_1 rfl ?_)
    obtain ⟨u_, h1, h2, h⟩ := h
    obtain ⟨w98, hw98_⟩ : ∃ w_, w_ = w76.setCell (Addr.add a96 1) (Sl.v nilSl) := ⟨_, rfl⟩
    have h := h w98 hw98_
    refine RL.opN trivial (OpW.store1E (v := Sl.v nilSl) size_91 rfl rfl rfl h1 h2 hw98_ ?_)
    obtain ⟨a99, ha100, h⟩ := h
    refine RL.opS trivial rfl (OpW.nilCheck (a := a99) (congrArg Value.pointer ha100) ?_)
    refine RL.opS trivial rfl (OpW.fieldAddr field_93_4 rfl ?_)
    obtain ⟨u_, h1, h2, h⟩ := h
    obtain ⟨w101, hw101_⟩ : ∃ w_, w_ = w98.setCell (Addr.add a99 4) (.bool true) := ⟨_, rfl⟩
    have h := h w101 hw101_
    refine RL.opN trivial (OpW.store1E (v := .bool true) size_4 rfl rfl rfl h1 h2 hw101_ ?_)
    refine RL.nil ?_
    exact end_intro (res0 rfl) ⟨(), rfl, h⟩
end Go.Proofs.Ytagkcbbbdlmcjaa
end
section
/- What a loss of power does to the disk in memory. -/
namespace Go.Proofs.Ytagkcbbbdlmcjaa
open Go.Lift Go.Lift.Disk Go.RowKit
theorem and_one64 (m : Nat) (hm : m < 18446744073709551616) : andI .u64 (m : Int) 1 = ((m % 2 : Nat) : Int) := by
 show IntKind.u64.wrap ((BitVec.ofInt 64 (m : Int) &&& BitVec.ofInt 64 1).toNat : Int) = _
 have h1 : BitVec.ofInt 64 1 = 1#64 := by decide
 rw [h1, BitVec.ofInt_natCast, BitVec.toNat_and, BitVec.toNat_ofNat, Nat.mod_eq_of_lt (by omega)]
 have h2 : (1#64).toNat = 1 := rfl
 rw [h2, Nat.and_one_is_mod, wu64_eq (by omega) (by omega)]
theorem bit64 {x : Int} (h0 : 0 ≤ x) (h1 : x < 18446744073709551616) {k : Nat} (hk : k < 64) : (andI .u64 (shrI .u64 x (k : Int)) 1 = 1) ↔ x.toNat.testBit k = true := by
 obtain ⟨n, rfl⟩ := Int.eq_ofNat_of_zero_le h0
 have e1 : shrI .u64 (n : Int) (k : Int) = ((n / 2 ^ k : Nat) : Int) := by
  unfold shrI
  have : min (k : Int).toNat (IntKind.bits .u64) = k := by simp [IntKind.bits]; omega
  rw [this, Int.fdiv_eq_ediv_of_nonneg _ (by exact_mod_cast Nat.zero_le _)]
  push_cast
  rfl
 have h2 : n / 2 ^ k < 18446744073709551616 := Nat.lt_of_le_of_lt (Nat.div_le_self _ _) (by omega)
 rw [e1, and_one64 _ h2, Int.toNat_natCast, Nat.testBit_eq_decide_div_mod_eq]
 generalize n / 2 ^ k = m
 rw [decide_eq_true_iff]
 omega
theorem SlAt.row {w : World} {base : Nat → Prop} {pd bb sz : Nat} {s : Sl} {cs : List Value} (h : SlAt w base pd bb sz s cs) (h0 : 0 < sz) {k : Nat} (hk : k < s.len) : ∃ a, s.a = some a ∧ At w (a.add (k * sz)) ((cs.drop (k * sz)).take sz) := by
 have hl : k * sz < cs.length := by rw [h.len]; exact Nat.mul_lt_mul_of_pos_right hk h0
 obtain ⟨a, ha, _⟩ := h.cells.some_of (List.getElem?_eq_getElem hl)
 refine ⟨a, ha, ?_⟩
 have hc := h.cells
 rw [ha] at hc
 exact At.sub hc _ _
theorem one_pend {x : Nat} {bs : List UInt8} : ∀ v ∈ (Value.int .i64 (x : Int) :: u8s bs), v.oneCell' = true := by
 intro v hv
 rcases List.mem_cons.1 hv with rfl | hv
 ·rfl
 ·exact u8s_one bs v hv
theorem cut_to (a : Addr) (n m : Nat) (hn : 0 < n) : Sl.cut ⟨some a, n, n⟩ 1 0 (m : Int) n = ⟨some a, m, n⟩ := by
 simp [Sl.cut, Addr.add]
theorem torn_eq (f : Fall) : mx 0 (mn f.2.2 512) = (torn f : Int) ∧ torn f ≤ 512 := by
 unfold torn mx mn
 split <;> split <;> omega
theorem torn_eq' (x : Int) : 0 ≤ mx 0 (mn x 512) ∧ mx 0 (mn x 512) ≤ 512 := by
 unfold mx mn
 split <;> split <;> omega
theorem crashStep_len (f : Fall) (last : Int) (l : List Bl) (k : Nat) (p : Nat × List UInt8) : (crashStep f last l k p).length = l.length := by
 unfold crashStep
 split
 ·exact setSure_len _ _ _
 ·split
  ·exact setSure_len _ _ _
  ·rfl
def halves (l : List Bl) : List Bl := l.map fun p => (p.2, p.2)
theorem halves_step {L : List Bl} {i : Nat} (hi : i < L.length) : setNow (halves (L.take i) ++ L.drop i) i (bAt (halves (L.take i) ++ L.drop i) i).2 = halves (L.take (i + 1)) ++ L.drop (i + 1) := by
 have hl : (halves (L.take i)).length = i := by simp [halves]; omega
 have hb : bAt (halves (L.take i) ++ L.drop i) i = L[i] := by
  unfold bAt
  rw [List.getD_eq_getElem?_getD, List.getElem?_append_right (by omega), hl, Nat.sub_self, List.drop_eq_getElem_cons hi]
  rfl
 have h2 : halves (L.take (i + 1)) = halves (L.take i) ++ [(L[i].2, L[i].2)] := by unfold halves; rw [List.take_succ_eq_append_getElem hi, List.map_append]; rfl
 unfold setNow
 rw [hb, List.set_append, hl, if_neg (by omega), Nat.sub_self, List.drop_eq_getElem_cons hi, List.set_cons_zero, h2]
 simp

theorem crash_ok {w : World} {base : Nat → Prop} {pd bb : Nat} {D : Dk} (h : DAt w base pd bb D) (f : Fall) (hk : 0 ≤ f.2.1 ∧ f.2.1 < 18446744073709551616) :
  Calls Try.prog 35 #[.pointer (dp pd), aggv (fallOf f)] w (Ret r35 fun _ w' => DAt w' base pd bb (D.crash f) ∧ Fr (Foot pd bb) w w') := by
 apply s35_calls
 intro b1 w2 hb1 hw2
 have hx2 : Ext w w2 := Ext.new hw2
 have hf1 : Blk w2 b1 27 (fallOf f) := Blk.new hb1 hw2
 have hlt := h.lt
 have h2 := h.ext hx2
 have hbf : ¬ Foot pd bb b1 := by rintro (e | e) <;> omega
 refine cR_of (down_ok h2) ?_
 rintro x w' ⟨rfl, rfl⟩
 obtain ⟨c, r, sp, sf, h2⟩ := h2
 have hwf := h2.wf
 have hpl := pend_len h2.pend fun p hp => (hwf.pend p hp).2
 refine ⟨fun hd => ?_, fun hd => ?_⟩
 ·refine ⟨⟨c, r, sp, sf, ?_⟩, Fr.of hx2⟩
  unfold Dk.crash
  rw [if_pos hd]; exact h2
 have hlast : IntKind.i64.wrap ((sp.len : Int) - 1) = (D.pend.length : Int) - 1 := by
  have := hwf.plen
  rw [hpl, w64_eq (by omega) (by omega)]
 refine ⟨_, rfl, sp, by rw [add_plain]; exact h2.disk.cell rfl, _, rfl, sp, by rw [add_plain]; exact h2.disk.cell rfl, ?_⟩
 refine ⟨fun s w' => ∃ (k : Nat) (l : List Bl), k ≤ D.pend.length ∧ s = (k : Int) ∧ DX w' base pd bb c r sp sf { D with bl := l } ∧ Fr (Foot pd bb) w2 w' ∧ Blk w' b1 27 (fallOf f) ∧ l.length = D.bl.length ∧
   crashL f ((D.pend.length : Int) - 1) k (D.pend.drop k) l = crashL f ((D.pend.length : Int) - 1) 0 D.pend D.bl,
  fun s _ => D.pend.length - s.toNat, ⟨0, D.bl, Nat.zero_le _, rfl, h2, Fr.refl _, hf1, rfl, rfl⟩, ?_⟩
 rintro s w13 ⟨k, l, hkl, rfl, hX, hfr, hB1, hll, hcr⟩
 refine ⟨fun hlt2 => ?_, fun hge => ?_⟩
 ·have hkp : k < D.pend.length := by have := of_decide_eq_true hlt2; omega
  refine jn_of fun k1 hk1 => ?_
  obtain ⟨hpi, hp512⟩ := hwf.pend _ (List.getElem_mem hkp)
  have next : ∀ (l' : List Bl) (w' : World), l' = crashStep f ((D.pend.length : Int) - 1) l k D.pend[k] → DX w' base pd bb c r sp sf { D with bl := l' } → Fr (Foot pd bb) w2 w' → Blk w' b1 27 (fallOf f) → k1 () w' := by
   intro l' w' hl' h1 h3 h4
   have := hwf.plen
   rw [hk1, w64_eq (by omega) (by omega)]
   refine ⟨⟨k + 1, l', by omega, by omega, h1, h3, h4, by rw [hl', crashStep_len, hll], ?_⟩, by simp only; omega⟩
   rw [← hcr, List.drop_eq_getElem_cons hkp, crashL, hl']
  obtain ⟨a, ha, hat⟩ := hX.pend.row (by decide) (k := k) (by omega)
  rw [pendC_at (fun p hp => (hwf.pend p hp).2) hkp] at hat
  refine ⟨a, _, ha, by omega, by omega, rfl, ?_⟩
  rw [Int.toNat_natCast]
  refine ⟨_, by simp [u8s_len, hp512], hat, ?_⟩
  refine ⟨by simp [u8s_len, hp512], one_pend, fun b26 w27 hb26 hw27 => ?_⟩
  have hx27 : Ext w13 w27 := Ext.new hw27
  have hX27 := hX.ext hx27
  have hB26 : Blk w27 b26 116 (.int .i64 (D.pend[k].1 : Int) :: u8s D.pend[k].2) := Blk.new hb26 hw27
  intro w28 hw28
  have hx28 : Ext w27 w28 := by subst hw28; exact Ext.drew _
  have hX28 := hX27.ext hx28
  have hB26' := hB26.ext hx28
  have hB1' := (hB1.ext hx27).ext hx28
  have hfr28 : Fr (Foot pd bb) w2 w28 := (hfr.trans (Fr.of hx27)).trans (Fr.of hx28)
  have hpi' : D.pend[k].1 < l.length := by rw [hll]; exact hpi
  refine ⟨_, rfl, ⟨some ⟨bb, 0, none⟩, l.length, c⟩, by rw [add_plain]; exact hX27.disk.cell rfl, ?_⟩
  refine ⟨(D.pend[k].1 : Int), by rw [add_plain]; exact hB26.cell rfl, ?_⟩
  refine ⟨⟨bb, 0, none⟩, _, rfl, by omega, by simpa using hpi', rfl, ?_⟩
  show jn _ _
  simp only [add_plain, Nat.zero_add, Int.toNat_natCast, Nat.mul_comm _ 1024]
  have hsz : (u8s (flatB l) ++ r).length ≥ 1024 * D.pend[k].1 + 1024 := by
   have := flat_len hX.wf.bl
   simp only at this
   rw [List.length_append, u8s_len, this]
   omega
  refine jn_of fun k2 hk2 => ?_
  have key2 : ∀ b : Bool, (b = true ↔ (k < 64 ∧ f.2.1.toNat.testBit k = true)) → k2 b w28 := by
   intro b hb
   rw [hk2]
   refine ⟨fun hbt => ?_, fun hbf2 => ?_⟩
   ·have hbt := hb.1 hbt
    refine ⟨u8s D.pend[k].2, by rw [u8s_len, hp512], hB26'.at (by rw [List.drop_succ_cons, List.drop_zero, List.take_length]), ?_⟩
    refine stA_blk hX28.rows (by rw [u8s_len, hp512]) (by simp only at hsz ⊢; omega) (u8s_one _) fun w' hb' hf' => ?_
    have e := splice_sure hX.wf.bl hpi' hp512 r
    rw [e] at hb'
    have hst : crashStep f ((D.pend.length : Int) - 1) l k D.pend[k] = setSure l D.pend[k].1 D.pend[k].2 := by unfold crashStep; rw [if_pos hbt]
    refine next _ w' hst.symm (hX28.setRows (D := { D with bl := l }) hb' hf' (setSure_len _ _ _) (setSure_wf hX.wf.bl hpi' hp512)) (hfr28.trans (footFr_bb hf')) (hB1'.fr hf' fun e => hbf (.inr e))
   ·have hnb : ¬ (k < 64 ∧ f.2.1.toNat.testBit k = true) := fun h => by rw [hb.2 h] at hbf2; cases hbf2
    rw [hlast]
    refine ⟨fun hla => ?_, fun hla => ?_⟩
    ·have hla := of_decide_eq_true hla
     intro w55 hw55
     have hx55 : Ext w28 w55 := by subst hw55; exact Ext.drew _
     refine ⟨f.2.2, hB1'.cell rfl, ?_⟩
     obtain ⟨ht1, ht2⟩ := torn_eq f
     rw [ht1]
     refine ⟨by omega, ?_⟩
     have e1 : Sl.cut ⟨some ⟨bb, 1024 * D.pend[k].1 + 512, none⟩, 512, 512⟩ 1 0 (torn f : Int) 512 = ⟨some ⟨bb, 1024 * D.pend[k].1 + 512, none⟩, torn f, 512⟩ := by
      exact cut_to _ 512 _ (by decide)
     have e2 : Sl.cut ⟨some ⟨b26, 1, none⟩, 512, 512⟩ 1 0 512 512 = ⟨some ⟨b26, 1, none⟩, 512, 512⟩ := by
      exact cut_to _ 512 512 (by decide)
     rw [e1, e2]
     have hcl : (u8s (D.pend[k].2.take (torn f))).length = torn f := by rw [u8s_len, List.length_take, hp512]; omega
     refine cpy_blk (g := bb) (e := 112) (cs := u8s (D.pend[k].2.take (torn f))) mk_39 (hX28.ext hx55).rows (by simp only [u8s_len, List.length_take, hp512]; omega) ?_ (by rw [hcl]; simp only at hsz ⊢; omega) (u8s_one _) (by intro h; cases h) fun w' hb' hf' => ?_
     ·refine (hB26'.ext hx55).at ?_
      rw [hcl, List.drop_succ_cons, List.drop_zero, u8s_take]
     have e := splice_sure_part hX.wf.bl hpi' (c := D.pend[k].2.take (torn f)) (by rw [List.length_take, hp512]; omega) r
     rw [e] at hb'
     have htl : (D.pend[k].2.take (torn f)).length = torn f := by rw [List.length_take, hp512]; omega
     rw [htl] at hb'
     have hst : crashStep f ((D.pend.length : Int) - 1) l k D.pend[k] = setSure l D.pend[k].1 (D.pend[k].2.take (torn f) ++ (bAt l D.pend[k].1).2.drop (torn f)) := by
      unfold crashStep; rw [if_neg hnb, if_pos hla]
     refine next _ w' hst.symm ((hX28.ext hx55).setRows (D := { D with bl := l }) hb' hf' (setSure_len _ _ _) (setSure_wf hX.wf.bl hpi' ?_)) ((hfr28.trans (Fr.of hx55)).trans (footFr_bb hf')) ((hB1'.ext hx55).fr hf' fun e => hbf (.inr e))
     rw [List.length_append, htl, List.length_drop, (bAt_len hX.wf.bl hpi').2]
     omega
    ·have hla := of_decide_eq_false hla
     have hst : crashStep f ((D.pend.length : Int) - 1) l k D.pend[k] = l := by unfold crashStep; rw [if_neg hnb, if_neg hla]
     exact next l w28 hst.symm hX28 hfr28 hB1'
  refine ⟨fun h64 => ?_, fun h64 => ?_⟩
  ·have h64 := of_decide_eq_true h64
   have h64' : k < 64 := by omega
   refine ⟨f.2.1, hB1'.cell rfl, by omega, key2 _ ?_⟩
   simp only [decide_eq_true_eq, bit64 hk.1 hk.2 h64', h64', true_and]
  ·have h64 := of_decide_eq_false h64
   refine key2 _ ?_
   simp; omega
 ·have hge : k = D.pend.length := by have := of_decide_eq_false hge; omega
  subst hge
  rw [List.drop_length, crashL] at hcr
  have hwl := hX.wf.bl
  simp only at hwl
  refine ⟨_, rfl, ⟨some ⟨bb, 0, none⟩, l.length, c⟩, by rw [add_plain]; exact hX.disk.cell rfl, ?_⟩
  refine ⟨fun s w' => ∃ (i : Nat), i ≤ l.length ∧ s = (i : Int) ∧ DX w' base pd bb c r sp sf { D with bl := halves (l.take i) ++ l.drop i } ∧ Fr (Foot pd bb) w2 w',
   fun s _ => l.length - s.toNat, ⟨0, Nat.zero_le _, rfl, by simpa [halves] using hX, hfr⟩, ?_⟩
  rintro s w76 ⟨i, hi, rfl, hY, hfr76⟩
  have hyl : (halves (l.take i) ++ l.drop i).length = l.length := by simp [halves]; omega
  refine ⟨fun hlt3 => ?_, fun hge3 => ?_⟩
  ·have hil : i < l.length := by have := of_decide_eq_true hlt3; simp only at this; omega
   have hil' : i < (halves (l.take i) ++ l.drop i).length := by omega
   intro w82 hw82
   have hx82 : Ext w76 w82 := by subst hw82; exact Ext.drew _
   refine ⟨_, rfl, ⟨some ⟨bb, 0, none⟩, (halves (l.take i) ++ l.drop i).length, c⟩, by rw [add_plain]; exact hY.disk.cell rfl, ?_⟩
   refine ⟨_, rfl, ⟨some ⟨bb, 0, none⟩, (halves (l.take i) ++ l.drop i).length, c⟩, by rw [add_plain]; exact hY.disk.cell rfl, ?_⟩
   have hfa := flatAt hY (i := i) (by simpa using hil')
   have hbl := bAt_len hY.wf.bl (i := i) (by simpa using hil')
   simp only at hfa hbl
   refine ⟨⟨bb, 0, none⟩, _, rfl, by omega, by simp only; omega, rfl, ?_⟩
   show ldA _ _ _ _
   rw [add_plain, Nat.zero_add, Int.toNat_natCast, Nat.mul_comm, add_plain]
   refine ⟨_, by rw [u8s_len]; exact hbl.2, hfa.2, ?_⟩
   refine ⟨⟨bb, 0, none⟩, _, rfl, by omega, by simp only; omega, rfl, ?_⟩
   show stA _ _ _ _ _
   rw [add_plain, Nat.zero_add, Int.toNat_natCast, Nat.mul_comm, add_plain, Nat.add_zero]
   have hsz : (u8s (flatB (halves (l.take i) ++ l.drop i)) ++ r).length ≥ 1024 * i + 1024 := by
    have := flat_len hY.wf.bl
    simp only at this
    rw [List.length_append, u8s_len, this]
    omega
   refine stA_blk (hY.ext hx82).rows (by rw [u8s_len]; exact hbl.2) (by simp only at hsz ⊢; omega) (u8s_one _) fun w' hb' hf' => ?_
   have e := splice_now hY.wf.bl (i := i) (by simpa using hil') hbl.2 r
   rw [e, halves_step hil] at hb'
   have hfew := hwf.few
   rw [w64_eq (by omega) (by omega)]
   refine ⟨⟨i + 1, by omega, by omega, ?_, (hfr76.trans (Fr.of hx82)).trans (footFr_bb hf')⟩, by simp only; omega⟩
   have hwf' : WfB (halves (l.take (i + 1)) ++ l.drop (i + 1)) := by
    intro p hp
    rcases List.mem_append.1 hp with hp | hp
    ·obtain ⟨q, hq, rfl⟩ := List.mem_map.1 hp
     have := hwl q (List.mem_of_mem_take hq)
     exact ⟨this.2, this.2⟩
    ·exact hwl p (List.mem_of_mem_drop hp)
   exact (hY.ext hx82).setRows (D := { D with bl := halves (l.take i) ++ l.drop i }) hb' hf' (by simp [halves]; omega) hwf'
  ·have hge3 : i = l.length := by have := of_decide_eq_false hge3; simp only at this; omega
   subst hge3
   rw [List.take_length, List.drop_length, List.append_nil] at hY
   refine ⟨_, rfl, ?_⟩
   show st1 _ _ _ _
   rw [add_plain]
   refine st1_blk hY.disk (Nat.succ_lt_succ (Nat.zero_lt_succ _)) fun w98 hb98 hf98 => ?_
   refine ⟨_, rfl, ?_⟩
   show st1 _ _ _ _
   rw [add_plain]
   refine st1_blk hb98 (Nat.lt_succ_self 4) fun w101 hb101 hf101 => ?_
   refine ⟨⟨c, r, nilSl, sf, ?_⟩, (((Fr.of hx2).trans hfr76).trans (footFr_pd hf98)).trans (footFr_pd hf101)⟩
   have ec : D.crash f = { D with bl := halves l, pend := [], down := true } := by
    unfold Dk.crash
    rw [if_neg (by rw [hd]; simp), ← hcr]
    rfl
   rw [ec]
   have hfd := hf98.trans hf101
   have hz := hY.wf
   refine ⟨⟨hz.pos, hz.few, hz.bl, by simp, by simp, hz.keep, hz.flen, hz.ch⟩, h2.hpd, h2.hbb, h2.hne, hY.hcap, hb101, hY.rows.fr hfd h2.hne.symm, SlAt.nilAt _ _ _ _ _, hY.falls.fr hfd fun k _ hk e => hk (.inl e)⟩
end Go.Proofs.Ytagkcbbbdlmcjaa
end
section
/- The typed readings of the functions, and that the program meets each: written by gen.py (a program of this session). -/
namespace Go.Proofs.Ytagkcbbbdlmcjaa
open Go.Lift
set_option maxRecDepth 100000 in
set_option maxHeartbeats 4000000 in
theorem s33_calls (K : Int → World → Prop) (p0 : Option Addr) (p1 : Int) (p2 : Sl) (w : World) (h : s33 K p0 p1 p2 w) :
  Calls Try.prog 33 #[.pointer p0, .int .i64 p1, Sl.v p2] w (Ret r33 K) := by
 unfold s33 at h
 refine calls_of_CW (n := 46) Try.func33 rfl rfl rfl ?_
 refine CW.seq ?_
 refine CW.region ?_
 refine RL.opS trivial rfl (OpW.assign (v := .int .i64 0) rfl ?_)
 refine RL.nil ?_
 refine CW.seq ?_
 refine CW.seq ?_
 refine CW.region ?_
 refine RL.opS trivial rfl (OpW.move (v := .pointer p0) rfl ?_)
 refine RL.opS trivial rfl (OpW.move (v := .int .i64 p1) rfl ?_)
 refine RL.opS trivial rfl (OpW.callR (al := [.pointer p0, .int .i64 p1]) Try.func59 fb_59 fn_59 rfl h (fun x1 w2 h => ?_))
 refine RL.opS trivial rfl (OpW.assign (v := .int .i64 x1) rfl ?_)
 refine RL.nil ?_
 refine CW.seq ?_
 refine CW.region ?_
 refine RL.opS trivial rfl (OpW.move (v := .int .i64 x1) rfl ?_)
 refine RL.opS trivial rfl (OpW.bin (k := .i64) (a := x1) (b := 0) (v := .bool (!decide (x1 = 0))) rfl rfl rfl ?_)
 refine RL.nil ?_
 obtain ⟨ha, hc⟩ := h
 refine CW.cond (b := (!decide (x1 = 0))) rfl (fun hb3 => ?_) (fun hb3 => ?_)
 ·have h := ha hb3; clear ha hc
  refine CW.seq ?_
  refine CW.region ?_
  refine RL.opS trivial rfl (OpW.move (v := .int .i64 x1) rfl ?_)
  refine RL.opS trivial rfl (OpW.assign (v := .int .i64 x1) rfl ?_)
  refine RL.nil ?_
  refine CW.ret ?_
  exact ret_intro (res1 rfl rfl) ⟨x1, rfl, h⟩
 ·have h := hc hb3; clear ha hc
  refine CW.skip ?_
  refine CW.seq ?_
  refine CW.seq ?_
  refine CW.region ?_
  refine RL.opS trivial rfl (OpW.move (v := Sl.v p2) rfl ?_)
  refine RL.opS trivial rfl (OpW.len (s := p2) slice_39 rfl ?_)
  refine RL.opS trivial rfl (OpW.bin (k := .i64) (a := (p2.len : Int)) (b := 512) (v := .bool (!decide ((p2.len : Int) = 512))) rfl rfl rfl ?_)
  refine RL.nil ?_
  obtain ⟨ha, hc⟩ := h
  refine CW.cond (b := (!decide ((p2.len : Int) = 512))) rfl (fun hb4 => ?_) (fun hb4 => ?_)
  ·have h := ha hb4; clear ha hc
   refine CW.seq ?_
   refine CW.region ?_
   refine RL.opS trivial rfl (OpW.assign (v := .int .i64 1) rfl ?_)
   refine RL.nil ?_
   refine CW.ret ?_
   exact ret_intro (res1 rfl rfl) ⟨1, rfl, h⟩
  ·have h := hc hb4; clear ha hc
   refine CW.skip ?_
   refine CW.seq ?_
   refine CW.region ?_
   refine RL.opS trivial rfl (OpW.move (v := .int .i64 p1) rfl ?_)
   refine RL.opS trivial rfl (OpW.buildL (vs := [(0, .int .i64 p1)]) (cs := ([.int .i64 p1] ++ List.replicate 512 (Value.int .u8 0))) (by rfl) (fun _ => by kernel_rfl) ?_)
   obtain ⟨hl_b5, ho_b5, h⟩ := h
   obtain ⟨b5, hb5_⟩ : ∃ b_, b_ = w2.heap.size := ⟨_, rfl⟩
   obtain ⟨w6, hw6_⟩ : ∃ w_, w_ = w2.alloc (.cells (List.toArray ([.int .i64 p1] ++ List.replicate 512 (Value.int .u8 0))) 116) := ⟨_, rfl⟩
   have h := h b5 w6 hb5_ hw6_
   refine RL.opS trivial rfl (OpW.allocZ (b := b5) zero_116 hb5_ ?_)
   refine RL.opN trivial (OpW.storeF (zs := ([Value.int .i64 0] ++ List.replicate 512 (Value.int .u8 0))) (cs := ([.int .i64 p1] ++ List.replicate 512 (Value.int .u8 0))) size_116 rfl rfl hl_b5 (by decide) ho_b5 hb5_ hw6_ ?_)
   refine RL.nil ?_
   refine CW.seq ?_
   refine CW.region ?_
   refine RL.opS trivial rfl (OpW.fieldAddr field_116_1 rfl ?_)
   refine RL.opS trivial rfl (OpW.sliceArr (l := 0) (h := 512) arr_110 rfl rfl rfl (by decide) (by decide) (by decide) ?_)
   refine RL.opS trivial rfl (OpW.move (v := Sl.v p2) rfl ?_)
   obtain ⟨x7, w8, hr_, h⟩ := h
   refine RL.opS trivial rfl (OpW.copyL (v := .int .i64 x7) rfl hr_ ?_)
   refine RL.nil ?_
   refine CW.seq ?_
   obtain ⟨w9, hw9_⟩ : ∃ w_, w_ = w8.drew := ⟨_, rfl⟩
   have h := h w9 hw9_
   have hx10 : Ext w8 w9 := by rw [hw9_]; exact Ext.drew _
   refine CW.draws (m := 10) (listed := #[F,F,F,F,F,F,F,F,F,F]) mixed [0, 1, 2, 3, 4, 5, 6, 7, 8] (Ext w8) rfl rfl ?_
   rw [← hw9_]
   refine DL.takeP (listed' := #[T,F,F,F,F,F,F,F,F,F]) (v := .pointer p0) 0 rfl rfl (by kernel_rfl) rfl trivial rfl (fun w_ K_ h_ => OpW.move (v := .pointer p0) rfl h_) ?_
   obtain ⟨a11, ha12, h⟩ := h
   refine DL.takeP (listed' := #[T,T,F,F,F,F,F,F,F,F]) (v := .pointer (some a11)) 1 rfl rfl (by kernel_rfl) rfl trivial rfl (fun w_ K_ h_ => OpW.nilCheck (a := a11) (congrArg Value.pointer ha12) h_) ?_
   refine DL.takeP (listed' := #[T,T,T,F,F,F,F,F,F,F]) (v := .pointer (some (Addr.add a11 0))) 2 rfl rfl (by kernel_rfl) rfl trivial rfl (fun w_ K_ h_ => OpW.fieldAddr (off := 0) field_93_0 rfl h_) ?_
   obtain ⟨x13, h1, h⟩ := h
   refine DL.takeK (listed' := #[T,T,T,T,F,F,F,F,F,F]) (v := Sl.v x13) 3 rfl rfl (by kernel_rfl) (by kernel_rfl) rfl trivial rfl hx10 (fun w_ hS_ K_ h_ => OpW.load1 (v := Sl.v x13) one_90 rfl (hS_.cell h1) h_) ?_
   refine DL.takeP (listed' := #[T,T,T,T,T,F,F,F,F,F]) (v := .int .i64 p1) 4 rfl rfl (by kernel_rfl) rfl trivial rfl (fun w_ K_ h_ => OpW.move (v := .int .i64 p1) rfl h_) ?_
   refine DL.takeP (listed' := #[T,T,T,T,T,T,F,F,F,F]) (v := .pointer (some (Addr.add ⟨b5, 0, none⟩ 1))) 5 rfl rfl (by kernel_rfl) rfl trivial rfl (fun w_ K_ h_ => OpW.fieldAddr field_116_1 rfl h_) ?_
   obtain ⟨x14, h1, h2, h⟩ := h
   refine DL.takeK (listed' := #[T,T,T,T,T,T,T,F,F,F]) (v := aggv x14) 6 rfl rfl (by kernel_rfl) (by kernel_rfl) rfl trivial rfl hx10 (fun w_ hS_ K_ h_ => OpW.loadA agg_110 rfl h1 (hS_.at h2) h_) ?_
   obtain ⟨a15_, a15, h1, h2, h3, h4, h⟩ := h
   refine DL.takeP (listed' := #[T,T,T,T,T,T,T,T,F,F]) (v := .pointer (some a15)) 7 rfl rfl (by kernel_rfl) rfl trivial rfl (fun w_ K_ h_ => OpW.indexE (a' := a15) slice_90 rfl rfl h1 h2 h3 h4 h_) ?_
   refine DL.takeP (listed' := #[T,T,T,T,T,T,T,T,T,F]) (v := .pointer (some (Addr.add a15 0))) 8 rfl rfl (by kernel_rfl) rfl trivial rfl (fun w_ K_ h_ => OpW.fieldAddr (off := 0) field_112_0 rfl h_) ?_
   obtain ⟨g_, o_, e_, cur_, ha_, h1, h2, h3, h4, h⟩ := h
   obtain ⟨w17, hw17_⟩ : ∃ w_, w_ = w9.setRow g_ (cur_.toList.take o_ ++ x14 ++ cur_.toList.drop (o_ + List.length x14)).toArray := ⟨_, rfl⟩
   have h := h w17 hw17_
   refine DL.execN (listed' := #[T,T,T,T,T,T,T,T,T,T]) 9 rfl (by kernel_rfl) rfl trivial (OpW.storeAE (cs := x14) size_110 rfl rfl ha_ h1 h2 h3 h4 hw17_ ?_)
   refine ⟨(fun h_ => absurd h_ (by decide)), ?_⟩
   refine DL.done (by kernel_rfl) ?_
   refine CW.seq ?_
   obtain ⟨w18, hw18_⟩ : ∃ w_, w_ = w17.drew := ⟨_, rfl⟩
   have h := h w18 hw18_
   have hx19 : Ext w17 w18 := by rw [hw18_]; exact Ext.drew _
   refine CW.draws (m := 12) (listed := #[F,F,F,F,F,F,F,F,F,F,F,F]) mixed [0, 1, 2, 3, 4, 5, 6, 7, 9, 10] (Ext w17) rfl rfl ?_
   rw [← hw18_]
   refine DL.takeP (listed' := #[T,F,F,F,F,F,F,F,F,F,F,F]) (v := .pointer p0) 0 rfl rfl (by kernel_rfl) rfl trivial rfl (fun w_ K_ h_ => OpW.move (v := .pointer p0) rfl h_) ?_
   refine DL.takeP (listed' := #[T,T,F,F,F,F,F,F,F,F,F,F]) (v := .pointer p0) 1 rfl rfl (by kernel_rfl) rfl trivial rfl (fun w_ K_ h_ => OpW.move (v := .pointer p0) rfl h_) ?_
   obtain ⟨a20, ha21, h⟩ := h
   refine DL.takeP (listed' := #[T,T,T,F,F,F,F,F,F,F,F,F]) (v := .pointer (some a20)) 2 rfl rfl (by kernel_rfl) rfl trivial rfl (fun w_ K_ h_ => OpW.nilCheck (a := a20) (congrArg Value.pointer ha21) h_) ?_
   refine DL.takeP (listed' := #[T,T,T,T,F,F,F,F,F,F,F,F]) (v := .pointer (some (Addr.add a20 1))) 3 rfl rfl (by kernel_rfl) rfl trivial rfl (fun w_ K_ h_ => OpW.fieldAddr field_93_1 rfl h_) ?_
   obtain ⟨x22, h1, h⟩ := h
   refine DL.takeK (listed' := #[T,T,T,T,T,F,F,F,F,F,F,F]) (v := Sl.v x22) 4 rfl rfl (by kernel_rfl) (by kernel_rfl) rfl trivial rfl hx19 (fun w_ hS_ K_ h_ => OpW.load1 (v := Sl.v x22) one_91 rfl (hS_.cell h1) h_) ?_
   obtain ⟨x23, h1, h2, h⟩ := h
   refine DL.takeK (listed' := #[T,T,T,T,T,F,T,F,F,F,F,F]) (v := aggv x23) 6 rfl rfl (by kernel_rfl) (by kernel_rfl) rfl trivial rfl hx19 (fun w_ hS_ K_ h_ => OpW.loadA agg_116 rfl h1 (hS_.at h2) h_) ?_
   obtain ⟨F29, st_5, run_5, h⟩ := h
   obtain ⟨F35, st_7, run_7, h⟩ := h
   refine DL.state (fun ρ_ w38 => ∃ (x24 : Sl) (x25 : Sl), Ext w18 w38 ∧ F29 () x24 w38 ∧ F35 () x25 w38 ∧ ρ_ 0 = .pointer p0 ∧ ρ_ 33 = .pointer p0 ∧ ρ_ 38 = Sl.v x24 ∧ ρ_ 40 = Sl.v x25) 4 #[T,T,T,T,T,T,T,T,F,F,F,F] ?_ ?_
   ·rintro ρ_ w38 ⟨x24, x25, hx_1, f_5, f_7, e_0, e_33, e_38, e_40⟩
    have h := h x24 x25 w38 hx_1 f_5 f_7
    have hx39 := Ext.trans hx19 hx_1
    obtain ⟨x40, w41, hr_, h⟩ := h
    refine DL.execS (listed' := #[T,T,T,T,T,T,T,T,T,F,F,F]) 8 rfl (by kernel_rfl) rfl trivial rfl (OpW.appendL (v := Sl.v x40) (by simp only [List.map_cons, List.map_nil, ev, upd, Nat.beq, cond_false, cond_true, e_38, e_40]) hr_ ?_)
    refine ⟨(fun h_ => absurd h_ (by decide)), ?_⟩
    obtain ⟨a42, ha43, h⟩ := h
    refine DL.takeP (listed' := #[T,T,T,T,T,T,T,T,T,T,F,F]) (v := .pointer (some a42)) 9 rfl rfl (by kernel_rfl) rfl trivial rfl (fun w_ K_ h_ => OpW.nilCheck (a := a42) (e_33.trans (congrArg Value.pointer ha43)) h_) ?_
    refine DL.takeP (listed' := #[T,T,T,T,T,T,T,T,T,T,T,F]) (v := .pointer (some (Addr.add a42 1))) 10 rfl rfl (by kernel_rfl) rfl trivial rfl (fun w_ K_ h_ => OpW.fieldAddr field_93_1 rfl h_) ?_
    obtain ⟨u_, h1, h2, h⟩ := h
    obtain ⟨w44, hw44_⟩ : ∃ w_, w_ = w41.setCell (Addr.add a42 1) (Sl.v x40) := ⟨_, rfl⟩
    have h := h w44 hw44_
    refine DL.execN (listed' := #[T,T,T,T,T,T,T,T,T,T,T,T]) 11 rfl (by kernel_rfl) rfl trivial (OpW.store1E (v := Sl.v x40) size_91 rfl rfl rfl h1 h2 hw44_ ?_)
    refine ⟨(fun h_ => absurd h_ (by decide)), ?_⟩
    refine DL.done (by kernel_rfl) ?_
    refine CW.seq ?_
    refine CW.region ?_
    refine RL.opS trivial rfl (OpW.move (v := .pointer p0) e_0 ?_)
    refine RL.opS trivial rfl (OpW.callR (al := [.pointer p0]) Try.func61 fb_61 fn_61 rfl h (fun x45 w46 h => ?_))
    refine RL.opS trivial rfl (OpW.assign (v := .int .i64 x45) rfl ?_)
    refine RL.nil ?_
    refine CW.ret ?_
    exact ret_intro (res1 rfl rfl) ⟨x45, rfl, h⟩
   intro hD_5_7
   refine DL.state (fun ρ_ w47 => ∃ (x24 : Sl), Ext w18 w47 ∧ F29 () x24 w47 ∧ ρ_ 0 = .pointer p0 ∧ ρ_ 33 = .pointer p0 ∧ ρ_ 38 = Sl.v x24 ∧ ρ_ 39 = aggv x23) 5 #[T,T,T,T,T,T,T,F,F,F,F,F] ?_ ?_
   ·rintro ρ_ w47 ⟨x24, hx_1, f_5, e_0, e_33, e_38, e_39⟩
    refine DL.branch [7] (by kernel_rfl) rfl ?_
    refine all_cons ?_ (all_nil)
    ·clear h
     have h := run_7 () w47 hx_1 trivial
     obtain ⟨hl_, ho_, h⟩ := h
     obtain ⟨b48, hb48_⟩ : ∃ b_, b_ = w47.heap.size := ⟨_, rfl⟩
     obtain ⟨w49, hw49_⟩ : ∃ w_, w_ = w47.alloc (.cells (List.toArray x23) 116) := ⟨_, rfl⟩
     have h := h b48 w49 hb48_ hw49_
     refine DLop.execS (listed' := #[T,T,T,T,T,T,T,T,F,F,F,F]) rfl rfl trivial rfl (OpW.buildSliceE (vs := [(0, aggv x23)]) (cs := x23) (by simp only [List.map_cons, List.map_nil, ev, upd, Nat.beq, cond_false, cond_true, e_39]) (fillOne mkz_91 (by simp) (by decide) (by decide) hl_) hb48_ hw49_ ?_)
     obtain ⟨hx50, f51⟩ := h
     refine ⟨(fun _ hS_ => Ext.trans hS_ hx50), ?_⟩
     exact hD_5_7 _ _ ⟨x24, ⟨some ⟨b48, 0, none⟩, 1, 1⟩, Ext.trans hx_1 hx50, st_5 _ _ _ _ hx50 f_5, f51, e_0, e_33, e_38, rfl⟩

   intro hD_5
   refine DL.state (fun ρ_ w52 => ∃ (x25 : Sl), Ext w18 w52 ∧ F35 () x25 w52 ∧ ρ_ 0 = .pointer p0 ∧ ρ_ 33 = .pointer p0 ∧ ρ_ 37 = Sl.v x22 ∧ ρ_ 40 = Sl.v x25) 5 #[T,T,T,T,T,F,T,T,F,F,F,F] ?_ ?_
   ·rintro ρ_ w52 ⟨x25, hx_1, f_7, e_0, e_33, e_37, e_40⟩
    refine DL.branch [5] (by kernel_rfl) rfl ?_
    refine all_cons ?_ (all_nil)
    ·clear h
     have h := run_5 () w52 hx_1 trivial
     refine DLop.execS (listed' := #[T,T,T,T,T,T,T,T,F,F,F,F]) rfl rfl trivial rfl (OpW.callR (al := [Sl.v x22]) Try.func60 fb_60 fn_60 (by simp only [List.map_cons, List.map_nil, ev, upd, Nat.beq, cond_false, cond_true, e_37]) h (fun x53 w54 h => ?_))
     obtain ⟨hx55, f56⟩ := h
     refine ⟨(fun _ hS_ => Ext.trans hS_ hx55), ?_⟩
     exact hD_5_7 _ _ ⟨x53, x25, Ext.trans hx_1 hx55, f56, st_7 _ _ _ _ hx55 f_7, e_0, e_33, rfl, e_40⟩

   intro hD_7
   have hx_0 : Ext w18 w18 := Ext.refl _
   refine DL.branch [5, 7] (by kernel_rfl) rfl ?_
   refine all_cons ?_ (all_cons ?_ (all_nil))
   ·clear h
    have h := run_5 () w18 hx_0 trivial
    refine DLop.execS (listed' := #[T,T,T,T,T,T,T,F,F,F,F,F]) rfl rfl trivial rfl (OpW.callR (al := [Sl.v x22]) Try.func60 fb_60 fn_60 rfl h (fun x57 w58 h => ?_))
    obtain ⟨hx59, f60⟩ := h
    refine ⟨(fun _ hS_ => Ext.trans hS_ hx59), ?_⟩
    exact hD_5 _ _ ⟨x57, Ext.trans hx_0 hx59, f60, rfl, rfl, rfl, rfl⟩
   ·clear h
    have h := run_7 () w18 hx_0 trivial
    obtain ⟨hl_, ho_, h⟩ := h
    obtain ⟨b61, hb61_⟩ : ∃ b_, b_ = w18.heap.size := ⟨_, rfl⟩
    obtain ⟨w62, hw62_⟩ : ∃ w_, w_ = w18.alloc (.cells (List.toArray x23) 116) := ⟨_, rfl⟩
    have h := h b61 w62 hb61_ hw62_
    refine DLop.execS (listed' := #[T,T,T,T,T,F,T,T,F,F,F,F]) rfl rfl trivial rfl (OpW.buildSliceE (vs := [(0, aggv x23)]) (cs := x23) (by rfl) (fillOne mkz_91 (by simp) (by decide) (by decide) hl_) hb61_ hw62_ ?_)
    obtain ⟨hx63, f64⟩ := h
    refine ⟨(fun _ hS_ => Ext.trans hS_ hx63), ?_⟩
    exact hD_7 _ _ ⟨⟨some ⟨b61, 0, none⟩, 1, 1⟩, Ext.trans hx_0 hx63, f64, rfl, rfl, rfl, rfl⟩

end Go.Proofs.Ytagkcbbbdlmcjaa
end
section
/- The typed readings of the functions, and that the program meets each: written by gen.py (a program of this session). -/
namespace Go.Proofs.Ytagkcbbbdlmcjaa
open Go.Lift
set_option maxRecDepth 100000 in
set_option maxHeartbeats 4000000 in
theorem s34_calls (K : Int → World → Prop) (p0 : Option Addr) (w : World) (h : s34 K p0 w) :
  Calls Try.prog 34 #[.pointer p0] w (Ret r34 K) := by
 unfold s34 at h
 refine calls_of_CW (n := 36) Try.func34 rfl rfl rfl ?_
 refine CW.seq ?_
 refine CW.region ?_
 refine RL.opS trivial rfl (OpW.assign (v := .int .i64 0) rfl ?_)
 refine RL.nil ?_
 refine CW.seq ?_
 refine CW.seq ?_
 refine CW.region ?_
 refine RL.opS trivial rfl (OpW.move (v := .pointer p0) rfl ?_)
 refine RL.opS trivial rfl (OpW.callR (al := [.pointer p0]) Try.func38 fb_38 fn_38 rfl h (fun x1 w2 h => ?_))
 refine RL.nil ?_
 obtain ⟨ha, hc⟩ := h
 refine CW.cond (b := x1) rfl (fun hb3 => ?_) (fun hb3 => ?_)
 ·have h := ha hb3; clear ha hc
  refine CW.seq ?_
  refine CW.region ?_
  refine RL.opS trivial rfl (OpW.assign (v := .int .i64 6) rfl ?_)
  refine RL.nil ?_
  refine CW.ret ?_
  exact ret_intro (res1 rfl rfl) ⟨6, rfl, h⟩
 ·have h := hc hb3; clear ha hc
  refine CW.skip ?_
  refine CW.seq ?_
  refine CW.seq ?_
  refine CW.region ?_
  refine RL.opS trivial rfl (OpW.move (v := .pointer p0) rfl ?_)
  refine RL.opS trivial rfl (OpW.callR (al := [.pointer p0]) Try.func61 fb_61 fn_61 rfl h (fun x4 w5 h => ?_))
  refine RL.opS trivial rfl (OpW.assign (v := .int .i64 x4) rfl ?_)
  refine RL.nil ?_
  refine CW.seq ?_
  refine CW.region ?_
  refine RL.opS trivial rfl (OpW.move (v := .int .i64 x4) rfl ?_)
  refine RL.opS trivial rfl (OpW.bin (k := .i64) (a := x4) (b := 0) (v := .bool (!decide (x4 = 0))) rfl rfl rfl ?_)
  refine RL.nil ?_
  obtain ⟨ha, hc⟩ := h
  refine CW.cond (b := (!decide (x4 = 0))) rfl (fun hb6 => ?_) (fun hb6 => ?_)
  ·have h := ha hb6; clear ha hc
   refine CW.seq ?_
   refine CW.region ?_
   refine RL.opS trivial rfl (OpW.move (v := .int .i64 x4) rfl ?_)
   refine RL.opS trivial rfl (OpW.assign (v := .int .i64 x4) rfl ?_)
   refine RL.nil ?_
   refine CW.ret ?_
   exact ret_intro (res1 rfl rfl) ⟨x4, rfl, h⟩
  ·have h := hc hb6; clear ha hc
   refine CW.skip ?_
   refine CW.seq ?_
   refine CW.seq ?_
   refine CW.region ?_
   refine RL.opS trivial rfl (OpW.move (v := .pointer p0) rfl ?_)
   obtain ⟨a7, ha8, h⟩ := h
   refine RL.opS trivial rfl (OpW.nilCheck (a := a7) (congrArg Value.pointer ha8) ?_)
   refine RL.opS trivial rfl (OpW.fieldAddr field_93_1 rfl ?_)
   obtain ⟨x9, h1, h⟩ := h
   refine RL.opS trivial rfl (OpW.load1 (v := Sl.v x9) one_91 rfl h1 ?_)
   refine RL.opS trivial rfl (OpW.len (s := x9) slice_91 rfl ?_)
   refine RL.opS trivial rfl (OpW.move (v := .int .i64 0) rfl ?_)
   refine RL.nil ?_
   refine CW.block ?_
   obtain ⟨I36, mu37, hI, hs⟩ := h
   refine CW.loop (σ := Int) (fun s10 ρ => ρ 18 = .int .i64 s10 ∧ ρ 0 = .pointer p0 ∧ ρ 16 = Sl.v x9 ∧ ρ 17 = .int .i64 (x9.len : Int)) I36 mu37 0 ⟨rfl, rfl, rfl, rfl⟩ hI ?_
   rintro s10 ρ w11 ⟨e13, e14, e15, e16⟩ hI
   have h := hs s10 w11 hI
   clear hs hI
   refine CW.seq ?_
   refine CW.region ?_
   refine RL.opS trivial rfl (OpW.bin (k := .i64) (a := s10) (b := (x9.len : Int)) (v := .bool (decide (s10 < (x9.len : Int)))) e13 e16 rfl ?_)
   refine RL.nil ?_
   refine CW.seq ?_
   obtain ⟨ha, hc⟩ := h
   refine CW.cond (b := (decide (s10 < (x9.len : Int)))) rfl (fun hb17 => ?_) (fun hb17 => ?_)
   ·have h := ha hb17; clear ha hc
    refine CW.skip ?_
    refine CW.seq ?_
    refine CW.block ?_
    refine CW.seq ?_
    refine CW.region ?_
    obtain ⟨a18_, a18, h1, h2, h3, h4, h⟩ := h
    refine RL.opS trivial rfl (OpW.indexE (a' := a18) slice_91 e15 e13 h1 h2 h3 h4 ?_)
    obtain ⟨x20, h1, h2, h⟩ := h
    refine RL.opS trivial rfl (OpW.loadA agg_116 rfl h1 h2 ?_)
    obtain ⟨hl_b21, ho_b21, h⟩ := h
    obtain ⟨b21, hb21_⟩ : ∃ b_, b_ = w11.heap.size := ⟨_, rfl⟩
    obtain ⟨w22, hw22_⟩ : ∃ w_, w_ = w11.alloc (.cells (List.toArray x20) 116) := ⟨_, rfl⟩
    have h := h b21 w22 hb21_ hw22_
    refine RL.opS trivial rfl (OpW.allocZ (b := b21) zero_116 hb21_ ?_)
    refine RL.opN trivial (OpW.storeF (zs := ([Value.int .i64 0] ++ List.replicate 512 (Value.int .u8 0))) (cs := x20) size_116 rfl rfl hl_b21 (by decide) ho_b21 hb21_ hw22_ ?_)
    refine RL.nil ?_
    obtain ⟨w23, hw23_⟩ : ∃ w_, w_ = w22.drew := ⟨_, rfl⟩
    have h := h w23 hw23_
    have hx24 : Ext w22 w23 := by rw [hw23_]; exact Ext.drew _
    refine CW.draws (m := 11) (listed := #[F,F,F,F,F,F,F,F,F,F,F]) mixed [0, 1, 2, 3, 4, 5, 6, 7, 8, 9] (Ext w22) rfl rfl ?_
    rw [← hw23_]
    refine DL.takeP (listed' := #[T,F,F,F,F,F,F,F,F,F,F]) (v := .pointer p0) 0 rfl rfl (by kernel_rfl) rfl trivial rfl (fun w_ K_ h_ => OpW.move (v := .pointer p0) e14 h_) ?_
    obtain ⟨a25, ha26, h⟩ := h
    refine DL.takeP (listed' := #[T,T,F,F,F,F,F,F,F,F,F]) (v := .pointer (some a25)) 1 rfl rfl (by kernel_rfl) rfl trivial rfl (fun w_ K_ h_ => OpW.nilCheck (a := a25) (congrArg Value.pointer ha26) h_) ?_
    refine DL.takeP (listed' := #[T,T,T,F,F,F,F,F,F,F,F]) (v := .pointer (some (Addr.add a25 0))) 2 rfl rfl (by kernel_rfl) rfl trivial rfl (fun w_ K_ h_ => OpW.fieldAddr (off := 0) field_93_0 rfl h_) ?_
    obtain ⟨x27, h1, h⟩ := h
    refine DL.takeK (listed' := #[T,T,T,T,F,F,F,F,F,F,F]) (v := Sl.v x27) 3 rfl rfl (by kernel_rfl) (by kernel_rfl) rfl trivial rfl hx24 (fun w_ hS_ K_ h_ => OpW.load1 (v := Sl.v x27) one_90 rfl (hS_.cell h1) h_) ?_
    refine DL.takeP (listed' := #[T,T,T,T,T,F,F,F,F,F,F]) (v := .pointer (some (Addr.add ⟨b21, 0, none⟩ 0))) 4 rfl rfl (by kernel_rfl) rfl trivial rfl (fun w_ K_ h_ => OpW.fieldAddr (off := 0) field_116_0 rfl h_) ?_
    obtain ⟨x28, h1, h⟩ := h
    refine DL.takeK (listed' := #[T,T,T,T,T,T,F,F,F,F,F]) (v := .int .i64 x28) 5 rfl rfl (by kernel_rfl) (by kernel_rfl) rfl trivial rfl hx24 (fun w_ hS_ K_ h_ => OpW.load1 (v := .int .i64 x28) one_3 rfl (hS_.cell h1) h_) ?_
    refine DL.takeP (listed' := #[T,T,T,T,T,T,T,F,F,F,F]) (v := .pointer (some (Addr.add ⟨b21, 0, none⟩ 1))) 6 rfl rfl (by kernel_rfl) rfl trivial rfl (fun w_ K_ h_ => OpW.fieldAddr field_116_1 rfl h_) ?_
    obtain ⟨x29, h1, h2, h⟩ := h
    refine DL.takeK (listed' := #[T,T,T,T,T,T,T,T,F,F,F]) (v := aggv x29) 7 rfl rfl (by kernel_rfl) (by kernel_rfl) rfl trivial rfl hx24 (fun w_ hS_ K_ h_ => OpW.loadA agg_110 rfl h1 (hS_.at h2) h_) ?_
    obtain ⟨a30_, a30, h1, h2, h3, h4, h⟩ := h
    refine DL.takeP (listed' := #[T,T,T,T,T,T,T,T,T,F,F]) (v := .pointer (some a30)) 8 rfl rfl (by kernel_rfl) rfl trivial rfl (fun w_ K_ h_ => OpW.indexE (a' := a30) slice_90 rfl rfl h1 h2 h3 h4 h_) ?_
    refine DL.takeP (listed' := #[T,T,T,T,T,T,T,T,T,T,F]) (v := .pointer (some (Addr.add a30 512))) 9 rfl rfl (by kernel_rfl) rfl trivial rfl (fun w_ K_ h_ => OpW.fieldAddr field_112_1 rfl h_) ?_
    obtain ⟨g_, o_, e_, cur_, ha_, h1, h2, h3, h4, h⟩ := h
    obtain ⟨w32, hw32_⟩ : ∃ w_, w_ = w23.setRow g_ (cur_.toList.take o_ ++ x29 ++ cur_.toList.drop (o_ + List.length x29)).toArray := ⟨_, rfl⟩
    have h := h w32 hw32_
    refine DL.execN (listed' := #[T,T,T,T,T,T,T,T,T,T,T]) 10 rfl (by kernel_rfl) rfl trivial (OpW.storeAE (cs := x29) size_110 rfl rfl ha_ h1 h2 h3 h4 hw32_ ?_)
    refine ⟨(fun h_ => absurd h_ (by decide)), ?_⟩
    refine DL.done (by kernel_rfl) ?_
    refine CW.region ?_
    refine RL.opS trivial rfl (OpW.bin (k := .i64) (a := s10) (b := 1) (v := .int .i64 (IntKind.i64.wrap (s10 + 1))) e13 rfl rfl ?_)
    refine RL.opS trivial rfl (OpW.move (v := .int .i64 (IntKind.i64.wrap (s10 + 1))) rfl ?_)
    refine RL.nil ?_
    exact ⟨(IntKind.i64.wrap (s10 + 1)), ⟨rfl, e14, e15, e16⟩, h⟩
   ·have h := hc hb17; clear ha hc
    refine CW.exit ?_
    refine CW.seq ?_
    refine CW.region ?_
    refine RL.opS trivial rfl (OpW.move (v := .pointer p0) e14 ?_)
    obtain ⟨a33, ha34, h⟩ := h
    refine RL.opS trivial rfl (OpW.nilCheck (a := a33) (congrArg Value.pointer ha34) ?_)
    refine RL.opS trivial rfl (OpW.fieldAddr field_93_1 rfl ?_)
    obtain ⟨u_, h1, h2, h⟩ := h
    obtain ⟨w35, hw35_⟩ : ∃ w_, w_ = w11.setCell (Addr.add a33 1) (Sl.v nilSl) := ⟨_, rfl⟩
    have h := h w35 hw35_
    refine RL.opN trivial (OpW.store1E (v := Sl.v nilSl) size_91 rfl rfl rfl h1 h2 hw35_ ?_)
    refine RL.nil ?_
    refine CW.seq ?_
    refine CW.region ?_
    refine RL.opS trivial rfl (OpW.assign (v := .int .i64 0) rfl ?_)
    refine RL.nil ?_
    refine CW.ret ?_
    exact ret_intro (res1 rfl rfl) ⟨0, rfl, h⟩
end Go.Proofs.Ytagkcbbbdlmcjaa
end
section
/- The typed readings of the functions, and that the program meets each: written by gen.py (a program of this session). -/
namespace Go.Proofs.Ytagkcbbbdlmcjaa
open Go.Lift
set_option maxRecDepth 100000 in
set_option maxHeartbeats 4000000 in
theorem s36_calls (K : Option Addr → World → Prop) (p0 : Option Addr) (w : World) (h : s36 K p0 w) :
  Calls Try.prog 36 #[.pointer p0] w (Ret r36 K) := by
 unfold s36 at h
 refine calls_of_CW (n := 22) Try.func36 rfl rfl rfl ?_
 refine CW.seq ?_
 refine CW.region ?_
 refine RL.opS trivial rfl (OpW.assign (v := .pointer none) rfl ?_)
 refine RL.nil ?_
 refine CW.seq ?_
 refine CW.seq ?_
 refine CW.region ?_
 refine RL.opS trivial rfl (OpW.move (v := .pointer p0) rfl ?_)
 refine RL.opS trivial rfl (OpW.ptrNil (b := p0.isNone) (p := p0) ptr_31 rfl rfl rfl ?_)
 refine RL.nil ?_
 obtain ⟨ha, hc⟩ := h
 refine CW.cond (b := (p0.isNone)) rfl (fun hb1 => ?_) (fun hb1 => ?_)
 ·have h := ha hb1; clear ha hc
  refine CW.seq ?_
  refine CW.region ?_
  refine RL.opS trivial rfl (OpW.assign (v := .pointer none) rfl ?_)
  refine RL.nil ?_
  refine CW.ret ?_
  exact ret_intro (res1 rfl rfl) ⟨none, rfl, h⟩
 ·have h := hc hb1; clear ha hc
  refine CW.skip ?_
  refine CW.seq ?_
  refine CW.region ?_
  refine RL.opS trivial rfl (OpW.move (v := .pointer p0) rfl ?_)
  obtain ⟨a2, ha3, h⟩ := h
  refine RL.opS trivial rfl (OpW.nilCheck (a := a2) (congrArg Value.pointer ha3) ?_)
  obtain ⟨x4, h1, h2, h⟩ := h
  refine RL.opS trivial rfl (OpW.loadA agg_93 rfl h1 h2 ?_)
  obtain ⟨hl_b5, ho_b5, h⟩ := h
  obtain ⟨b5, hb5_⟩ : ∃ b_, b_ = w.heap.size := ⟨_, rfl⟩
  obtain ⟨w6, hw6_⟩ : ∃ w_, w_ = w.alloc (.cells (List.toArray x4) 93) := ⟨_, rfl⟩
  have h := h b5 w6 hb5_ hw6_
  refine RL.opS trivial rfl (OpW.allocZ (b := b5) zero_93 hb5_ ?_)
  refine RL.opN trivial (OpW.storeF (zs := [Value.slice none 0 0, Value.slice none 0 0, Value.slice none 0 0, Value.int .i64 0, Value.bool false]) (cs := x4) size_93 rfl rfl hl_b5 (by decide) ho_b5 hb5_ hw6_ ?_)
  refine RL.nil ?_
  refine CW.seq ?_
  obtain ⟨w7, hw7_⟩ : ∃ w_, w_ = w6.drew := ⟨_, rfl⟩
  have h := h w7 hw7_
  have hx8 : Ext w6 w7 := by rw [hw7_]; exact Ext.drew _
  refine CW.draws (m := 16) (listed := #[F,F,F,F,F,F,F,F,F,F,F,F,F,F,F,F]) mixed [0, 1, 2, 3, 4, 5, 6, 7, 8, 10, 12, 14] (Ext w6) rfl rfl ?_
  rw [← hw7_]
  refine DL.takeP (listed' := #[T,F,F,F,F,F,F,F,F,F,F,F,F,F,F,F]) (v := .pointer p0) 0 rfl rfl (by kernel_rfl) rfl trivial rfl (fun w_ K_ h_ => OpW.move (v := .pointer p0) rfl h_) ?_
  obtain ⟨a9, ha10, h⟩ := h
  refine DL.takeP (listed' := #[T,T,F,F,F,F,F,F,F,F,F,F,F,F,F,F]) (v := .pointer (some a9)) 1 rfl rfl (by kernel_rfl) rfl trivial rfl (fun w_ K_ h_ => OpW.nilCheck (a := a9) (congrArg Value.pointer ha10) h_) ?_
  refine DL.takeP (listed' := #[T,T,T,F,F,F,F,F,F,F,F,F,F,F,F,F]) (v := .pointer (some (Addr.add a9 0))) 2 rfl rfl (by kernel_rfl) rfl trivial rfl (fun w_ K_ h_ => OpW.fieldAddr (off := 0) field_93_0 rfl h_) ?_
  obtain ⟨x11, h1, h⟩ := h
  refine DL.takeK (listed' := #[T,T,T,T,F,F,F,F,F,F,F,F,F,F,F,F]) (v := Sl.v x11) 3 rfl rfl (by kernel_rfl) (by kernel_rfl) rfl trivial rfl hx8 (fun w_ hS_ K_ h_ => OpW.load1 (v := Sl.v x11) one_90 rfl (hS_.cell h1) h_) ?_
  refine DL.takeP (listed' := #[T,T,T,T,F,T,F,F,F,F,F,F,F,F,F,F]) (v := .pointer p0) 5 rfl rfl (by kernel_rfl) rfl trivial rfl (fun w_ K_ h_ => OpW.move (v := .pointer p0) rfl h_) ?_
  obtain ⟨a12, ha13, h⟩ := h
  refine DL.takeP (listed' := #[T,T,T,T,F,T,T,F,F,F,F,F,F,F,F,F]) (v := .pointer (some a12)) 6 rfl rfl (by kernel_rfl) rfl trivial rfl (fun w_ K_ h_ => OpW.nilCheck (a := a12) (congrArg Value.pointer ha13) h_) ?_
  refine DL.takeP (listed' := #[T,T,T,T,F,T,T,T,F,F,F,F,F,F,F,F]) (v := .pointer (some (Addr.add a12 1))) 7 rfl rfl (by kernel_rfl) rfl trivial rfl (fun w_ K_ h_ => OpW.fieldAddr field_93_1 rfl h_) ?_
  obtain ⟨x14, h1, h⟩ := h
  refine DL.takeK (listed' := #[T,T,T,T,F,T,T,T,T,F,F,F,F,F,F,F]) (v := Sl.v x14) 8 rfl rfl (by kernel_rfl) (by kernel_rfl) rfl trivial rfl hx8 (fun w_ hS_ K_ h_ => OpW.load1 (v := Sl.v x14) one_91 rfl (hS_.cell h1) h_) ?_
  refine DL.execS (listed' := #[T,T,T,T,T,T,T,T,T,F,F,F,F,F,F,F]) 4 rfl (by kernel_rfl) rfl trivial rfl (OpW.callR (al := [Sl.v x11]) Try.func62 fb_62 fn_62 rfl h (fun x15 w16 h => ?_))
  obtain ⟨hx17, h⟩ := h
  refine ⟨(fun _ _ => hx17), ?_⟩
  refine DL.execS (listed' := #[T,T,T,T,T,T,T,T,T,T,F,F,F,F,F,F]) 9 rfl (by kernel_rfl) rfl trivial rfl (OpW.callR (al := [Sl.v x14]) Try.func63 fb_63 fn_63 rfl h (fun x18 w19 h => ?_))
  refine ⟨(fun h_ => absurd h_ (by decide)), ?_⟩
  refine DL.takeP (listed' := #[T,T,T,T,T,T,T,T,T,T,T,F,F,F,F,F]) (v := .pointer (some (Addr.add ⟨b5, 0, none⟩ 0))) 10 rfl rfl (by kernel_rfl) rfl trivial rfl (fun w_ K_ h_ => OpW.fieldAddr (off := 0) field_93_0 rfl h_) ?_
  obtain ⟨u_, h1, h2, h⟩ := h
  obtain ⟨w20, hw20_⟩ : ∃ w_, w_ = w19.setCell (Addr.add ⟨b5, 0, none⟩ 0) (Sl.v x15) := ⟨_, rfl⟩
  have h := h w20 hw20_
  refine DL.execN (listed' := #[T,T,T,T,T,T,T,T,T,T,T,T,F,F,F,F]) 11 rfl (by kernel_rfl) rfl trivial (OpW.store1E (v := Sl.v x15) size_90 rfl rfl rfl h1 h2 hw20_ ?_)
  refine ⟨(fun h_ => absurd h_ (by decide)), ?_⟩
  refine DL.takeP (listed' := #[T,T,T,T,T,T,T,T,T,T,T,T,T,F,F,F]) (v := .pointer (some (Addr.add ⟨b5, 0, none⟩ 1))) 12 rfl rfl (by kernel_rfl) rfl trivial rfl (fun w_ K_ h_ => OpW.fieldAddr field_93_1 rfl h_) ?_
  obtain ⟨u_, h1, h2, h⟩ := h
  obtain ⟨w21, hw21_⟩ : ∃ w_, w_ = w20.setCell (Addr.add ⟨b5, 0, none⟩ 1) (Sl.v x18) := ⟨_, rfl⟩
  have h := h w21 hw21_
  refine DL.execN (listed' := #[T,T,T,T,T,T,T,T,T,T,T,T,T,T,F,F]) 13 rfl (by kernel_rfl) rfl trivial (OpW.store1E (v := Sl.v x18) size_91 rfl rfl rfl h1 h2 hw21_ ?_)
  refine ⟨(fun h_ => absurd h_ (by decide)), ?_⟩
  refine DL.takeP (listed' := #[T,T,T,T,T,T,T,T,T,T,T,T,T,T,T,F]) (v := .pointer (some (Addr.add ⟨b5, 0, none⟩ 2))) 14 rfl rfl (by kernel_rfl) rfl trivial rfl (fun w_ K_ h_ => OpW.fieldAddr field_93_2 rfl h_) ?_
  obtain ⟨u_, h1, h2, h⟩ := h
  obtain ⟨w22, hw22_⟩ : ∃ w_, w_ = w21.setCell (Addr.add ⟨b5, 0, none⟩ 2) (Sl.v nilSl) := ⟨_, rfl⟩
  have h := h w22 hw22_
  refine DL.execN (listed' := #[T,T,T,T,T,T,T,T,T,T,T,T,T,T,T,T]) 15 rfl (by kernel_rfl) rfl trivial (OpW.store1E (v := Sl.v nilSl) size_47 rfl rfl rfl h1 h2 hw22_ ?_)
  refine ⟨(fun h_ => absurd h_ (by decide)), ?_⟩
  refine DL.done (by kernel_rfl) ?_
  refine CW.seq ?_
  refine CW.region ?_
  refine RL.opS trivial rfl (OpW.assign (v := .pointer (some ⟨b5, 0, none⟩)) rfl ?_)
  refine RL.nil ?_
  refine CW.ret ?_
  exact ret_intro (res1 rfl rfl) ⟨some ⟨b5, 0, none⟩, rfl, h⟩
end Go.Proofs.Ytagkcbbbdlmcjaa
end
section
/- The typed readings of the functions, and that the program meets each: written by gen.py (a program of this session). -/
namespace Go.Proofs.Ytagkcbbbdlmcjaa
open Go.Lift
set_option maxRecDepth 100000 in
set_option maxHeartbeats 4000000 in
theorem s60_calls (K : Sl → World → Prop) (p0 : Sl) (w : World) (h : s60 K p0 w) :
  Calls Try.prog 60 #[Sl.v p0] w (Ret r60 K) := by
 unfold s60 at h
 refine calls_of_CW (n := 9) Try.func60 rfl rfl rfl ?_
 refine CW.seq ?_
 refine CW.region ?_
 refine RL.opS trivial rfl (OpW.assign (v := Sl.v nilSl) rfl ?_)
 refine RL.nil ?_
 refine CW.seq ?_
 refine CW.region ?_
 refine RL.opS trivial rfl (OpW.move (v := Sl.v p0) rfl ?_)
 refine RL.opS trivial rfl (OpW.move (v := Sl.v p0) rfl ?_)
 refine RL.opS trivial rfl (OpW.len (s := p0) slice_91 rfl ?_)
 refine RL.opS trivial rfl (OpW.move (v := Sl.v p0) rfl ?_)
 refine RL.opS trivial rfl (OpW.len (s := p0) slice_91 rfl ?_)
 obtain ⟨⟨h1, h2, h3, h4⟩, h⟩ := h
 refine RL.opS trivial rfl (OpW.slice3 (l := 0) (h := (p0.len : Int)) (m := (p0.len : Int)) slice_91 rfl rfl rfl rfl h1 h2 h3 h4 ?_)
 refine RL.opS trivial rfl (OpW.assign (v := Sl.v (p0.cut 513 0 (p0.len : Int) (p0.len : Int))) rfl ?_)
 refine RL.nil ?_
 refine CW.ret ?_
 exact ret_intro (res1 rfl rfl) ⟨(p0.cut 513 0 (p0.len : Int) (p0.len : Int)), rfl, h⟩
end Go.Proofs.Ytagkcbbbdlmcjaa
end
section
/- The typed readings of the functions, and that the program meets each: written by gen.py (a program of this session). -/
namespace Go.Proofs.Ytagkcbbbdlmcjaa
open Go.Lift
set_option maxRecDepth 100000 in
set_option maxHeartbeats 4000000 in
theorem s61_calls (K : Int → World → Prop) (p0 : Option Addr) (w : World) (h : s61 K p0 w) :
  Calls Try.prog 61 #[.pointer p0] w (Ret r61 K) := by
 unfold s61 at h
 refine calls_of_CW (n := 34) Try.func61 rfl rfl rfl ?_
 refine CW.seq ?_
 refine CW.region ?_
 refine RL.opS trivial rfl (OpW.assign (v := .int .i64 0) rfl ?_)
 refine RL.nil ?_
 refine CW.seq ?_
 refine CW.region ?_
 refine RL.opS trivial rfl (OpW.move (v := .pointer p0) rfl ?_)
 obtain ⟨a1, ha2, h⟩ := h
 refine RL.opS trivial rfl (OpW.nilCheck (a := a1) (congrArg Value.pointer ha2) ?_)
 refine RL.opS trivial rfl (OpW.fieldAddr field_93_3 rfl ?_)
 obtain ⟨x3, h1, h⟩ := h
 refine RL.opS trivial rfl (OpW.load1 (v := .int .i64 x3) one_3 rfl h1 ?_)
 refine RL.opS trivial rfl (OpW.assign (v := .int .i64 x3) rfl ?_)
 refine RL.nil ?_
 refine CW.seq ?_
 refine CW.region ?_
 refine RL.opS trivial rfl (OpW.move (v := .pointer p0) rfl ?_)
 obtain ⟨a4, ha5, h⟩ := h
 refine RL.opS trivial rfl (OpW.nilCheck (a := a4) (congrArg Value.pointer ha5) ?_)
 refine RL.opS trivial rfl (OpW.fieldAddr field_93_3 rfl ?_)
 obtain ⟨x6, h1, h⟩ := h
 refine RL.opS trivial rfl (OpW.load1 (v := .int .i64 x6) one_3 rfl h1 ?_)
 refine RL.opS trivial rfl (OpW.bin (k := .i64) (a := x6) (b := 1) (v := .int .i64 (IntKind.i64.wrap (x6 + 1))) rfl rfl rfl ?_)
 obtain ⟨a7, ha8, h⟩ := h
 refine RL.opS trivial rfl (OpW.nilCheck (a := a7) (congrArg Value.pointer ha8) ?_)
 refine RL.opS trivial rfl (OpW.fieldAddr field_93_3 rfl ?_)
 obtain ⟨u_, h1, h2, h⟩ := h
 obtain ⟨w9, hw9_⟩ : ∃ w_, w_ = w.setCell (Addr.add a7 3) (.int .i64 (IntKind.i64.wrap (x6 + 1))) := ⟨_, rfl⟩
 have h := h w9 hw9_
 refine RL.opN trivial (OpW.store1E (v := .int .i64 (IntKind.i64.wrap (x6 + 1))) size_3 rfl rfl rfl h1 h2 hw9_ ?_)
 refine RL.nil ?_
 refine CW.seq ?_
 refine CW.seq ?_
 refine CW.region ?_
 refine RL.opS trivial rfl (OpW.move (v := .pointer p0) rfl ?_)
 obtain ⟨a10, ha11, h⟩ := h
 refine RL.opS trivial rfl (OpW.nilCheck (a := a10) (congrArg Value.pointer ha11) ?_)
 refine RL.opS trivial rfl (OpW.fieldAddr field_93_2 rfl ?_)
 obtain ⟨x12, h1, h⟩ := h
 refine RL.opS trivial rfl (OpW.load1 (v := Sl.v x12) one_47 rfl h1 ?_)
 refine RL.opS trivial rfl (OpW.len (s := x12) slice_47 rfl ?_)
 refine RL.opS trivial rfl (OpW.move (v := .int .i64 0) rfl ?_)
 refine RL.nil ?_
 refine CW.block ?_
 obtain ⟨I32, mu33, hI, hs⟩ := h
 refine CW.loop (σ := Int) (fun s13 ρ => ρ 22 = .int .i64 s13 ∧ ρ 0 = .pointer p0 ∧ ρ 3 = .int .i64 x3 ∧ ρ 20 = Sl.v x12 ∧ ρ 21 = .int .i64 (x12.len : Int)) I32 mu33 0 ⟨rfl, rfl, rfl, rfl, rfl⟩ hI ?_
 rintro s13 ρ w14 ⟨e16, e17, e18, e19, e20⟩ hI
 have h := hs s13 w14 hI
 clear hs hI
 refine CW.seq ?_
 refine CW.region ?_
 refine RL.opS trivial rfl (OpW.bin (k := .i64) (a := s13) (b := (x12.len : Int)) (v := .bool (decide (s13 < (x12.len : Int)))) e16 e20 rfl ?_)
 refine RL.nil ?_
 refine CW.seq ?_
 obtain ⟨ha, hc⟩ := h
 refine CW.cond (b := (decide (s13 < (x12.len : Int)))) rfl (fun hb21 => ?_) (fun hb21 => ?_)
 ·have h := ha hb21; clear ha hc
  refine CW.skip ?_
  refine CW.seq ?_
  refine CW.block ?_
  refine CW.seq ?_
  refine CW.region ?_
  obtain ⟨a22_, a22, h1, h2, h3, h4, h⟩ := h
  refine RL.opS trivial rfl (OpW.indexE (a' := a22) slice_47 e19 e16 h1 h2 h3 h4 ?_)
  obtain ⟨x24, h1, h2, h⟩ := h
  refine RL.opS trivial rfl (OpW.loadA agg_27 rfl h1 h2 ?_)
  obtain ⟨hl_b25, ho_b25, h⟩ := h
  obtain ⟨b25, hb25_⟩ : ∃ b_, b_ = w14.heap.size := ⟨_, rfl⟩
  obtain ⟨w26, hw26_⟩ : ∃ w_, w_ = w14.alloc (.cells (List.toArray x24) 27) := ⟨_, rfl⟩
  have h := h b25 w26 hb25_ hw26_
  refine RL.opS trivial rfl (OpW.allocZ (b := b25) zero_27 hb25_ ?_)
  refine RL.opN trivial (OpW.storeF (zs := [Value.int .i64 0, Value.int .u64 0, Value.int .i64 0]) (cs := x24) size_27 rfl rfl hl_b25 (by decide) ho_b25 hb25_ hw26_ ?_)
  refine RL.nil ?_
  refine CW.seq ?_
  refine CW.region ?_
  refine RL.opS trivial rfl (OpW.fieldAddr (off := 0) field_27_0 rfl ?_)
  obtain ⟨x27, h1, h⟩ := h
  refine RL.opS trivial rfl (OpW.load1 (v := .int .i64 x27) one_3 rfl h1 ?_)
  refine RL.opS trivial rfl (OpW.move (v := .int .i64 x3) e18 ?_)
  refine RL.opS trivial rfl (OpW.bin (k := .i64) (a := x27) (b := x3) (v := .bool (decide (x27 = x3))) rfl rfl rfl ?_)
  refine RL.nil ?_
  obtain ⟨ha, hc⟩ := h
  refine CW.cond (b := (decide (x27 = x3))) rfl (fun hb28 => ?_) (fun hb28 => ?_)
  ·have h := ha hb28; clear ha hc
   refine CW.seq ?_
   refine CW.region ?_
   refine RL.opS trivial rfl (OpW.move (v := .pointer p0) e17 ?_)
   obtain ⟨x29, h1, h2, h⟩ := h
   refine RL.opS trivial rfl (OpW.loadA agg_27 rfl h1 h2 ?_)
   refine RL.opS trivial rfl (OpW.callR (al := [.pointer p0, aggv x29]) Try.func35 fb_35 fn_35 rfl h (fun x30 w31 h => ?_))
   refine RL.nil ?_
   refine CW.seq ?_
   refine CW.region ?_
   refine RL.opS trivial rfl (OpW.assign (v := .int .i64 6) rfl ?_)
   refine RL.nil ?_
   refine CW.ret ?_
   exact ret_intro (res1 rfl rfl) ⟨6, rfl, h⟩
  ·have h := hc hb28; clear ha hc
   refine CW.skip ?_
   refine CW.region ?_
   refine RL.opS trivial rfl (OpW.bin (k := .i64) (a := s13) (b := 1) (v := .int .i64 (IntKind.i64.wrap (s13 + 1))) e16 rfl rfl ?_)
   refine RL.opS trivial rfl (OpW.move (v := .int .i64 (IntKind.i64.wrap (s13 + 1))) rfl ?_)
   refine RL.nil ?_
   exact ⟨(IntKind.i64.wrap (s13 + 1)), ⟨rfl, e17, e18, e19, e20⟩, h⟩
 ·have h := hc hb21; clear ha hc
  refine CW.exit ?_
  refine CW.seq ?_
  refine CW.region ?_
  refine RL.opS trivial rfl (OpW.assign (v := .int .i64 0) rfl ?_)
  refine RL.nil ?_
  refine CW.ret ?_
  exact ret_intro (res1 rfl rfl) ⟨0, rfl, h⟩
end Go.Proofs.Ytagkcbbbdlmcjaa
end
section
/- The typed readings of the functions, and that the program meets each: written by gen.py (a program of this session). -/
namespace Go.Proofs.Ytagkcbbbdlmcjaa
open Go.Lift
set_option maxRecDepth 100000 in
set_option maxHeartbeats 4000000 in
theorem s62_calls (K : Sl → World → Prop) (p0 : Sl) (w : World) (h : s62 K p0 w) :
  Calls Try.prog 62 #[Sl.v p0] w (Ret r62 K) := by
 unfold s62 at h
 refine calls_of_CW (n := 8) Try.func62 rfl rfl rfl ?_
 refine CW.seq ?_
 refine CW.region ?_
 refine RL.opS trivial rfl (OpW.assign (v := Sl.v nilSl) rfl ?_)
 refine RL.nil ?_
 refine CW.seq ?_
 refine CW.seq ?_
 refine CW.region ?_
 refine RL.opS trivial rfl (OpW.move (v := Sl.v p0) rfl ?_)
 refine RL.opS trivial rfl (OpW.slNil (b := p0.a.isNone) (s := p0) slice_90 rfl rfl rfl ?_)
 refine RL.nil ?_
 obtain ⟨ha, hc⟩ := h
 refine CW.cond (b := (p0.a.isNone)) rfl (fun hb1 => ?_) (fun hb1 => ?_)
 ·have h := ha hb1; clear ha hc
  refine CW.seq ?_
  refine CW.region ?_
  refine RL.opS trivial rfl (OpW.assign (v := Sl.v nilSl) rfl ?_)
  refine RL.nil ?_
  refine CW.ret ?_
  exact ret_intro (res1 rfl rfl) ⟨nilSl, rfl, h⟩
 ·have h := hc hb1; clear ha hc
  refine CW.skip ?_
  refine CW.seq ?_
  refine CW.region ?_
  obtain ⟨b2, hb2_⟩ : ∃ b_, b_ = w.heap.size := ⟨_, rfl⟩
  obtain ⟨w3, hw3_⟩ : ∃ w_, w_ = w.alloc (.cells (List.toArray []) 112) := ⟨_, rfl⟩
  have h := h b2 w3 hb2_ hw3_
  refine RL.opS trivial rfl (OpW.buildSliceE (vs := []) (cs := []) (by rfl) (by kernel_rfl) hb2_ hw3_ ?_)
  refine RL.opS trivial rfl (OpW.move (v := Sl.v p0) rfl ?_)
  obtain ⟨x4, w5, hr_, h⟩ := h
  refine RL.opS trivial rfl (OpW.appendL (v := Sl.v x4) rfl hr_ ?_)
  refine RL.opS trivial rfl (OpW.assign (v := Sl.v x4) rfl ?_)
  refine RL.nil ?_
  refine CW.ret ?_
  exact ret_intro (res1 rfl rfl) ⟨x4, rfl, h⟩
end Go.Proofs.Ytagkcbbbdlmcjaa
end
section
/- The typed readings of the functions, and that the program meets each: written by gen.py (a program of this session). -/
namespace Go.Proofs.Ytagkcbbbdlmcjaa
open Go.Lift
set_option maxRecDepth 100000 in
set_option maxHeartbeats 4000000 in
theorem s63_calls (K : Sl → World → Prop) (p0 : Sl) (w : World) (h : s63 K p0 w) :
  Calls Try.prog 63 #[Sl.v p0] w (Ret r63 K) := by
 unfold s63 at h
 refine calls_of_CW (n := 8) Try.func63 rfl rfl rfl ?_
 refine CW.seq ?_
 refine CW.region ?_
 refine RL.opS trivial rfl (OpW.assign (v := Sl.v nilSl) rfl ?_)
 refine RL.nil ?_
 refine CW.seq ?_
 refine CW.seq ?_
 refine CW.region ?_
 refine RL.opS trivial rfl (OpW.move (v := Sl.v p0) rfl ?_)
 refine RL.opS trivial rfl (OpW.slNil (b := p0.a.isNone) (s := p0) slice_91 rfl rfl rfl ?_)
 refine RL.nil ?_
 obtain ⟨ha, hc⟩ := h
 refine CW.cond (b := (p0.a.isNone)) rfl (fun hb1 => ?_) (fun hb1 => ?_)
 ·have h := ha hb1; clear ha hc
  refine CW.seq ?_
  refine CW.region ?_
  refine RL.opS trivial rfl (OpW.assign (v := Sl.v nilSl) rfl ?_)
  refine RL.nil ?_
  refine CW.ret ?_
  exact ret_intro (res1 rfl rfl) ⟨nilSl, rfl, h⟩
 ·have h := hc hb1; clear ha hc
  refine CW.skip ?_
  refine CW.seq ?_
  refine CW.region ?_
  obtain ⟨b2, hb2_⟩ : ∃ b_, b_ = w.heap.size := ⟨_, rfl⟩
  obtain ⟨w3, hw3_⟩ : ∃ w_, w_ = w.alloc (.cells (List.toArray []) 116) := ⟨_, rfl⟩
  have h := h b2 w3 hb2_ hw3_
  refine RL.opS trivial rfl (OpW.buildSliceE (vs := []) (cs := []) (by rfl) (by kernel_rfl) hb2_ hw3_ ?_)
  refine RL.opS trivial rfl (OpW.move (v := Sl.v p0) rfl ?_)
  obtain ⟨x4, w5, hr_, h⟩ := h
  refine RL.opS trivial rfl (OpW.appendL (v := Sl.v x4) rfl hr_ ?_)
  refine RL.opS trivial rfl (OpW.assign (v := Sl.v x4) rfl ?_)
  refine RL.nil ?_
  refine CW.ret ?_
  exact ret_intro (res1 rfl rfl) ⟨x4, rfl, h⟩
end Go.Proofs.Ytagkcbbbdlmcjaa
end
section
/- What the disk's functions do that change it. -/
namespace Go.Proofs.Ytagkcbbbdlmcjaa
open Go.Lift Go.Lift.Disk Go.RowKit
theorem fall_one (f : Fall) : ∀ v ∈ fallOf f, v.oneCell' = true := by
 intro v hv
 simp only [fallOf, List.mem_cons, List.not_mem_nil, or_false] at hv
 rcases hv with rfl | rfl | rfl <;> rfl
def Dk.tick (D : Dk) : Dk := { D with changes := D.changes + 1 }
theorem strike_none {D : Dk} (h : D.falls.find? (fun f => f.1 == (D.changes : Int)) = none) : D.strike = (Dk.tick D, 0) := by unfold Dk.strike; rw [h]; rfl
theorem strike_some {D : Dk} {f : Fall} (h : D.falls.find? (fun f => f.1 == (D.changes : Int)) = some f) : D.strike = ((Dk.tick D).crash f, 6) := by unfold Dk.strike; rw [h]; rfl
section
variable {w : World} {base : Nat → Prop} {pd bb : Nat} {D : Dk}
theorem strike_ok (h : DAt w base pd bb D) (hch : D.changes < 1000000000) : Calls Try.prog 61 #[.pointer (dp pd)] w (Ret r61 fun x w' => x = D.strike.2 ∧ DAt w' base pd bb D.strike.1 ∧ Fr (Foot pd bb) w w') := by
 obtain ⟨c, r, sp, sf, h⟩ := h
 have hwf := h.wf
 apply s61_calls
 refine ⟨_, rfl, (D.changes : Int), by rw [add_plain]; exact h.disk.cell rfl, _, rfl, (D.changes : Int), by rw [add_plain]; exact h.disk.cell rfl, _, rfl, ?_⟩
 show st1 _ _ _ _
 rw [add_plain, w64_eq (by omega) (by omega)]
 refine st1_blk h.disk (Nat.lt_of_lt_of_le (Nat.lt_succ_self 3) (Nat.le_succ 4)) fun w9 hb9 hf9 => ?_
 have h9 : DX w9 base pd bb c r sp sf (Dk.tick D) := by
  refine ⟨⟨hwf.pos, hwf.few, hwf.bl, hwf.pend, hwf.plen, hwf.keep, hwf.flen, by unfold Dk.tick; simp only; omega⟩, h.hpd, h.hbb, h.hne, h.hcap, ?_, h.rows.fr hf9 h.hne.symm, h.pend.fr hf9 fun k _ hk e => hk (.inl e), h.falls.fr hf9 fun k _ hk e => hk (.inl e)⟩
  have : ((D.changes + 1 : Nat) : Int) = (D.changes : Int) + 1 := by omega
  unfold Dk.tick
  simp only [this]
  exact hb9
 have hfl := fall_len h.falls
 refine ⟨_, rfl, sf, by rw [add_plain]; exact h9.disk.cell rfl, ?_⟩
 refine ⟨fun s w' => ∃ k : Nat, k ≤ D.falls.length ∧ s = (k : Int) ∧ DX w' base pd bb c r sp sf (Dk.tick D) ∧ Fr (Foot pd bb) w w' ∧ (D.falls.take k).find? (fun f => f.1 == (D.changes : Int)) = none,
  fun s _ => D.falls.length - s.toNat, ⟨0, Nat.zero_le _, rfl, h9, footFr_pd hf9, by simp⟩, ?_⟩
 rintro s w14 ⟨k, hk, rfl, hX, hfr, hno⟩
 refine ⟨fun hlt => ?_, fun hge => ?_⟩
 ·have hkl : k < D.falls.length := by have := of_decide_eq_true hlt; omega
  have hsplit : D.falls = D.falls.take k ++ D.falls[k] :: D.falls.drop (k + 1) := by rw [← List.drop_eq_getElem_cons hkl, List.take_append_drop]
  obtain ⟨a, ha, hat⟩ := hX.falls.row (by decide) (k := k) (by omega)
  have e := fallC_at hkl
  have hat : At w14 (a.add (k * 3)) (fallOf D.falls[k]) := by rw [← e]; exact hat
  refine ⟨a, _, ha, by omega, by omega, rfl, ?_⟩
  rw [Int.toNat_natCast]
  refine ⟨_, rfl, hat, rfl, fall_one _, fun b25 w26 hb25 hw26 => ?_⟩
  have hx26 : Ext w14 w26 := Ext.new hw26
  have hB : Blk w26 b25 27 (fallOf D.falls[k]) := Blk.new hb25 hw26
  refine ⟨D.falls[k].1, by rw [add_plain]; exact hB.cell rfl, ?_⟩
  refine ⟨fun heq => ?_, fun hne => ?_⟩
  ·have heq := of_decide_eq_true heq
   have hfind : D.falls.find? (fun f => f.1 == (D.changes : Int)) = some D.falls[k] := by
    have e2 := congrArg (fun l : List Fall => l.find? (fun f => f.1 == (D.changes : Int))) hsplit
    refine e2.trans ?_
    show List.find? _ (_ ++ _) = _
    rw [List.find?_append, hno, List.find?_cons_of_pos (by simp [heq])]
    rfl
   refine ⟨fallOf D.falls[k], rfl, hB.at rfl, ?_⟩
   refine cR_of (crash_ok (D := Dk.tick D) ⟨c, r, sp, sf, hX.ext hx26⟩ D.falls[k] (hwf.keep _ (List.getElem_mem hkl))) ?_
   rintro x w' ⟨h1, h2⟩
   rw [strike_some hfind]
   exact ⟨rfl, h1, (hfr.trans (Fr.of hx26)).trans h2⟩
  ·have hne := of_decide_eq_false hne
   have := hwf.flen
   rw [w64_eq (by omega) (by omega)]
   refine ⟨⟨k + 1, by omega, by omega, hX.ext hx26, hfr.trans (Fr.of hx26), ?_⟩, by simp only; omega⟩
   rw [List.take_succ_eq_append_getElem hkl, List.find?_append, hno]
   simp [hne]
 ·have hge : k = D.falls.length := by have := of_decide_eq_false hge; omega
  subst hge
  rw [List.take_length] at hno
  rw [strike_none hno]
  exact ⟨rfl, ⟨c, r, sp, sf, hX⟩, hfr⟩

theorem flush_ok (h : DAt w base pd bb D) (hch : D.changes < 1000000000) : Calls Try.prog 34 #[.pointer (dp pd)] w (Ret r34 fun x w' => x = D.flush.2 ∧ DAt w' base pd bb D.flush.1 ∧ Fr (Foot pd bb) w w') := by
 apply s34_calls
 refine cR_of (down_ok h) ?_
 rintro x w' ⟨rfl, rfl⟩
 unfold Dk.flush
 refine ⟨fun hd => ?_, fun hd => ?_⟩
 ·rw [if_pos hd]; exact ⟨rfl, h, Fr.refl _⟩
 rw [if_neg (by rw [hd]; simp)]
 refine cR_of (strike_ok h hch) ?_
 rintro x w5 ⟨rfl, h5, hf5⟩
 refine ⟨fun hne => ?_, fun he => ?_⟩
 ·rw [if_pos (nd_t hne)]; exact ⟨rfl, h5, hf5⟩
 have he := nd_f he
 rw [if_neg (by rw [he]; simp)]
 generalize D.strike.1 = E at h5 ⊢
 obtain ⟨c, r, sp, sf, h5⟩ := h5
 have hwf := h5.wf
 have hpl := pend_len h5.pend fun p hp => (hwf.pend p hp).2
 refine ⟨_, rfl, sp, by rw [add_plain]; exact h5.disk.cell rfl, ?_⟩
 refine ⟨fun s w' => ∃ (k : Nat), k ≤ E.pend.length ∧ s = (k : Int) ∧ DX w' base pd bb c r sp sf { E with bl := flushL E.bl (E.pend.take k) } ∧ Fr (Foot pd bb) w w' ∧ (flushL E.bl (E.pend.take k)).length = E.bl.length,
  fun s _ => E.pend.length - s.toNat, ⟨0, Nat.zero_le _, rfl, h5, hf5, rfl⟩, ?_⟩
 rintro s w11 ⟨k, hk, rfl, hX, hfr, hll⟩
 have hfs : ∀ (hkp : k < E.pend.length), flushL E.bl (E.pend.take (k + 1)) = setSure (flushL E.bl (E.pend.take k)) E.pend[k].1 E.pend[k].2 := by
  intro hkp
  unfold flushL
  rw [List.take_succ_eq_append_getElem hkp, List.foldl_append]
  rfl
 generalize hl : flushL E.bl (E.pend.take k) = l at hX hll hfs
 refine ⟨fun hlt => ?_, fun hge => ?_⟩
 ·have hkp : k < E.pend.length := by have := of_decide_eq_true hlt; omega
  obtain ⟨hpi, hp512⟩ := hwf.pend _ (List.getElem_mem hkp)
  have hpi' : E.pend[k].1 < l.length := by rw [hll]; exact hpi
  obtain ⟨a, ha, hat⟩ := hX.pend.row (by decide) (k := k) (by omega)
  rw [pendC_at (fun p hp => (hwf.pend p hp).2) hkp] at hat
  refine ⟨a, _, ha, by omega, by omega, rfl, ?_⟩
  rw [Int.toNat_natCast]
  refine ⟨_, by simp [u8s_len, hp512], hat, ?_⟩
  refine ⟨by simp [u8s_len, hp512], one_pend, fun b21 w22 hb21 hw22 => ?_⟩
  have hx22 : Ext w11 w22 := Ext.new hw22
  have hX22 := hX.ext hx22
  have hB : Blk w22 b21 116 (.int .i64 (E.pend[k].1 : Int) :: u8s E.pend[k].2) := Blk.new hb21 hw22
  intro w23 hw23
  have hx23 : Ext w22 w23 := by subst hw23; exact Ext.drew _
  refine ⟨_, rfl, ⟨some ⟨bb, 0, none⟩, l.length, c⟩, by rw [add_plain]; exact hX22.disk.cell rfl, ?_⟩
  refine ⟨(E.pend[k].1 : Int), by rw [add_plain]; exact hB.cell rfl, ?_⟩
  refine ⟨u8s E.pend[k].2, by rw [u8s_len, hp512], by rw [add_plain]; exact hB.at (by rw [List.drop_succ_cons, List.drop_zero, List.take_length]), ?_⟩
  refine ⟨⟨bb, 0, none⟩, _, rfl, by omega, by simpa using hpi', rfl, ?_⟩
  show stA _ _ _ _ _
  simp only [add_plain, Nat.zero_add, Int.toNat_natCast, Nat.mul_comm _ 1024]
  have hsz : (u8s (flatB l) ++ r).length ≥ 1024 * E.pend[k].1 + 1024 := by
   have := flat_len hX.wf.bl
   simp only at this
   rw [List.length_append, u8s_len, this]
   omega
  have hX23 := hX22.ext hx23
  refine stA_blk hX23.rows (by rw [u8s_len, hp512]) (by show _ ≤ (u8s (flatB l) ++ r).length; omega) (u8s_one _) fun w' hb' hf' => ?_
  have e := splice_sure hX.wf.bl hpi' hp512 r
  rw [e] at hb'
  have := hwf.plen
  rw [w64_eq (by omega) (by omega)]
  refine ⟨⟨k + 1, by omega, by omega, ?_, ((hfr.trans (Fr.of hx22)).trans (Fr.of hx23)).trans (footFr_bb hf'), by rw [hfs hkp, setSure_len, hll]⟩, by first | omega | (simp only; omega)⟩
  rw [hfs hkp]
  exact hX23.setRows (D := { E with bl := l }) hb' hf' (setSure_len _ _ _) (setSure_wf hX.wf.bl hpi' hp512)
 ·have hge : k = E.pend.length := by have := of_decide_eq_false hge; omega
  subst hge
  rw [List.take_length] at hl
  refine ⟨_, rfl, ?_⟩
  show st1 _ _ _ _
  rw [add_plain]
  refine st1_blk hX.disk (Nat.succ_lt_succ (Nat.zero_lt_succ _)) fun w35 hb35 hf35 => ?_
  refine ⟨rfl, ⟨c, r, nilSl, sf, ?_⟩, hfr.trans (footFr_pd hf35)⟩
  rw [hl]
  have hz := hX.wf
  exact ⟨⟨hz.pos, hz.few, hz.bl, by simp, by simp, hz.keep, hz.flen, hz.ch⟩, h5.hpd, h5.hbb, h5.hne, hX.hcap, hb35, hX.rows.fr hf35 h5.hne.symm, SlAt.nilAt _ _ _ _ _, hX.falls.fr hf35 fun k _ hk e => hk (.inl e)⟩

/-! ### a write -/
theorem clip_ok (s : Sl) (hs : s.len ≤ s.cap) : Calls Try.prog 60 #[s.v] w (Ret r60 fun x w' => x = ⟨s.a, s.len, s.len⟩ ∧ w = w') := by
 apply s60_calls
 refine ⟨⟨by omega, by omega, by omega, by omega⟩, ?_, rfl⟩
 simp [Sl.cut, Addr.add]
theorem Own.slAt {w' : World} {B e sz : Nat} {s : Sl} {xs : List Value} (ho : Own w' B e sz s xs) (hb : ∀ k, B ≤ k → base k) (h1 : pd < B) (h2 : bb < B) : SlAt w' base pd bb sz s xs := by
 refine ⟨ho.length, ho.cap, ?_, ho.at, ?_⟩
 ·intro hn
  obtain ⟨a, l, c⟩ := s
  simp only at hn
  subst hn
  rcases ho.2 with ⟨h1, h2⟩ | ⟨g, cap, cur, h1, _⟩
  ·simp only [Value.slice.injEq] at h1
   obtain ⟨_, rfl, rfl⟩ := h1
   rfl
  ·simp at h1
 ·intro a ha
  obtain ⟨sa, l, c⟩ := s
  simp only at ha
  subst ha
  rcases ho.2 with ⟨h1, h2⟩ | ⟨g, cap, cur, h1, h3, h5, _⟩
  ·simp at h1
  ·simp only [Value.slice.injEq, Option.some.injEq] at h1
   obtain ⟨rfl, _, _⟩ := h1
   exact ⟨hb _ h3, (Array.getElem?_eq_some_iff.1 h5).1, by rintro (e | e) <;> simp only at e <;> omega⟩
theorem write_ok (h : DAt w base pd bb D) (hch : D.changes < 1000000000) (hpn : D.pend.length < 1000000) (hB : ∀ k, w.heap.size ≤ k → base k) (i : Int) (p : Sl) (bs : List UInt8) (hp : Bytes w p bs) :
  Calls Try.prog 33 #[.pointer (dp pd), .int .i64 i, p.v] w (Ret r33 fun x w' => x = (D.write i bs).2 ∧ DAt w' base pd bb (D.write i bs).1 ∧ Fr (Foot pd bb) w w') := by
 apply s33_calls
 refine cR_of (has_ok h i) ?_
 rintro x w' ⟨rfl, rfl⟩
 unfold Dk.write
 refine ⟨fun hne => ?_, fun he => ?_⟩
 ·rw [if_pos (nd_t hne)]; exact ⟨rfl, h, Fr.refl _⟩
 have he := nd_f he
 rw [if_neg (by rw [he]; simp)]
 have hpl := hp.1
 refine ⟨fun hne => ?_, fun hl => ?_⟩
 ·have hne := nd_t hne
  rw [if_pos (by omega)]; exact ⟨rfl, h, Fr.refl _⟩
 have hl := nd_f hl
 have h512 : bs.length = 512 := by omega
 rw [if_neg (by omega)]
 obtain ⟨hd, hi0, hi1⟩ := why_zero he
 obtain ⟨n, rfl⟩ := Int.eq_ofNat_of_zero_le hi0
 have hn : n < D.bl.length := by omega
 rw [Int.toNat_natCast]
 obtain ⟨c, r, sp, sf, h⟩ := h
 have hwf := h.wf
 refine ⟨by rw [List.length_append, List.length_replicate]; rfl, ?_, ?_⟩
 ·intro v hv
  rcases List.mem_append.1 hv with hv | hv
  ·obtain rfl : v = _ := by simpa using hv
   rfl
  ·rw [List.eq_of_mem_replicate hv]; rfl
 intro b5 w6 hb5 hw6
 have hx6 : Ext w w6 := Ext.new hw6
 have hB6 : Blk w6 b5 116 ([.int .i64 (n : Int)] ++ List.replicate 512 (Value.int .u8 0)) := Blk.new hb5 hw6
 have hpdl := h.disk.lt
 have hbbl := h.rows.lt
 have hb5n : ¬ Foot pd bb b5 := by rintro (e | e) <;> omega
 have e1 : Sl.cut ⟨some (Addr.add ⟨b5, 0, none⟩ 1), 512, 512⟩ 1 0 512 512 = ⟨some ⟨b5, 1, none⟩, 512, 512⟩ := by rw [add_plain]; exact cut_to _ 512 512 (by decide)
 rw [e1]
 have hp6 := hp.ext hx6
 refine cpy_blk (g := b5) (e := 116) (cs := u8s bs) mk_39 hB6 (by rw [u8s_len]; show bs.length = min p.len 512; omega) hp6.2 (by rw [u8s_len, List.length_append, List.length_replicate, List.length_singleton]; omega) (u8s_one _) ?_ fun w8 hb8 hf8 => ?_
 ·intro hn
  have := hp.2
  rw [hn] at this
  have h0 : u8s bs = [] := this
  have := congrArg List.length h0
  rw [u8s_len] at this
  simp at this
  rw [this] at h512; cases h512
 have ecell : splice ([.int .i64 (n : Int)] ++ List.replicate 512 (Value.int .u8 0)) 1 (u8s bs) = .int .i64 (n : Int) :: u8s bs := by
  have := splice_mid [.int .i64 (n : Int)] (List.replicate 512 (Value.int .u8 0)) (u8s bs) [] 1 rfl (by rw [List.length_replicate, u8s_len, h512])
  rw [List.append_nil, List.append_nil] at this
  exact this
 rw [ecell] at hb8
 have hx8 : Ext w w8 := hf8.ext hx6 fun k _ e => by rw [e, hb5]; exact Nat.le_refl _
 have h8 := h.ext hx8
 intro w9 hw9
 have hx9 : Ext w8 w9 := by subst hw9; exact Ext.drew _
 refine ⟨_, rfl, ⟨some ⟨bb, 0, none⟩, D.bl.length, c⟩, by rw [add_plain]; exact h8.disk.cell rfl, ?_⟩
 refine ⟨u8s bs, by rw [u8s_len, h512], by rw [add_plain]; exact hb8.at (by rw [List.drop_succ_cons, List.drop_zero, List.take_length]), ?_⟩
 refine ⟨⟨bb, 0, none⟩, _, rfl, by omega, by simpa using hn, rfl, ?_⟩
 show stA _ _ _ _ _
 simp only [add_plain, Nat.zero_add, Int.toNat_natCast, Nat.mul_comm _ 1024, Nat.add_zero]
 have hsz : (u8s (flatB D.bl) ++ r).length ≥ 1024 * n + 1024 := by
  rw [List.length_append, u8s_len, flat_len hwf.bl]
  omega
 have h9 := h8.ext hx9
 refine stA_blk h9.rows (by rw [u8s_len, h512]) (by omega) (u8s_one _) fun w17 hb17 hf17 => ?_
 rw [splice_now hwf.bl hn h512] at hb17
 have h17 := h9.setRows hb17 hf17 (setNow_len _ _ _) (setNow_wf hwf.bl hn h512)
 have hB17 := (hb8.ext hx9).fr hf17 fun e => hb5n (.inr e)
 intro w18 hw18
 have hx18 : Ext w17 w18 := by subst hw18; exact Ext.drew _
 refine ⟨_, rfl, sp, by rw [add_plain]; exact h17.disk.cell rfl, ?_⟩
 have hcl : (Value.int .i64 (n : Int) :: u8s bs).length = 513 := by rw [List.length_cons, u8s_len, h512]
 refine ⟨.int .i64 (n : Int) :: u8s bs, hcl, hB17.at (by rw [List.drop_zero, List.take_length]), ?_⟩
 refine ⟨fun _ x v => x = ⟨sp.a, sp.len, sp.len⟩, fun _ _ _ _ _ h => h, fun _ v hv _ => ?_, ?_⟩
 ·refine cR_of (clip_ok sp h.pend.cap) ?_
  rintro x v' ⟨rfl, rfl⟩
  exact ⟨Ext.refl _, rfl⟩
 refine ⟨fun _ x v => ∃ b, x = ⟨some ⟨b, 0, none⟩, 1, 1⟩ ∧ At v ⟨b, 0, none⟩ (.int .i64 (n : Int) :: u8s bs), fun _ _ _ _ hx ⟨b, h1, h2⟩ => ⟨b, h1, Ext.at hx h2⟩,
  fun _ v hv _ => ⟨hcl, one_pend, fun b v' hb hv' => ⟨Ext.new hv', b, rfl, At.new hb hv'⟩⟩, ?_⟩
 rintro x24 x25 w38 hx38 h24 ⟨b, h25, hat⟩
 have h24 : x24 = ⟨sp.a, sp.len, sp.len⟩ := h24
 subst h24; subst h25
 have h18 := (h17.ext hx18).ext hx38
 have hpl' := pend_len h.pend fun p hp => (hwf.pend p hp).2
 have hsz38 : w.heap.size ≤ w38.heap.size := Nat.le_trans (Nat.le_trans (hx8.trans hx9).size hf17.size) (hx18.trans hx38).size
 refine app_full (base := w.heap.size) mkz_91 (by rw [List.length_append, List.length_replicate, List.length_singleton]) rfl (fun hna => by have := h.pend.nil hna; rw [this]) h.pend.len h18.pend.cells (by rw [hcl]; exact (Nat.one_mul 513).symm) hat (by simp) Nat.zero_lt_one
  (by simp only [maxLen]; omega) (by simp only; omega) hsz38 fun s' w41 hl' ho' hx41 => ?_
 have h41 := h18.ext hx41
 refine ⟨_, rfl, ?_⟩
 show st1 _ _ _ _
 rw [add_plain]
 refine st1_blk h41.disk (Nat.succ_lt_succ (Nat.zero_lt_succ _)) fun w44 hb44 hf44 => ?_
 have hfin : DX w44 base pd bb c r s' sf (D.put n bs) := by
  have hz := h41.wf
  have hsl := Own.slAt ho' (base := base) (pd := pd) (bb := bb) hB hpdl hbbl
  refine ⟨⟨hz.pos, hz.few, hz.bl, ?_, ?_, hz.keep, hz.flen, hz.ch⟩, h.hpd, h.hbb, h.hne, h41.hcap, hb44, h41.rows.fr hf44 h.hne.symm, ?_, h41.falls.fr hf44 fun k _ hk e => hk (.inl e)⟩
  ·intro p hp
   rcases List.mem_append.1 hp with hp | hp
   ·exact hz.pend p hp
   ·obtain rfl : p = (n, bs) := by simpa using hp
    exact ⟨by show n < (setNow D.bl n bs).length; rw [setNow_len]; exact hn, h512⟩
  ·show (D.pend ++ [(n, bs)]).length ≤ _
   rw [List.length_append]
   simp only [List.length_cons, List.length_nil]
   omega
  ·have ep : pendC (D.put n bs).pend = pendC D.pend ++ (.int .i64 (n : Int) :: u8s bs) := by
    show pendC (D.pend ++ [(n, bs)]) = _
    rw [pendC_append]
    simp [pendC]
   rw [ep]
   exact hsl.fr hf44 fun k _ hk e => hk (.inl e)
 refine cR_of (strike_ok ⟨c, r, s', sf, hfin⟩ hch) ?_
 rintro x w46 ⟨rfl, h46, hf46⟩
 refine ⟨rfl, h46, Fr.trans ?_ hf46⟩
 exact ((((Fr.of (hx8.trans hx9)).trans (footFr_bb hf17)).trans (Fr.of (hx18.trans hx38))).trans (Fr.of hx41)).trans (footFr_pd hf44)
end
end Go.Proofs.Ytagkcbbbdlmcjaa
end
section
/- How disks come to be: new ones, clones; a plan; a block to write; and a nil disk. -/
namespace Go.Proofs.Ytagkcbbbdlmcjaa
open Go.Lift Go.Lift.Disk Go.RowKit
def zero512 : List UInt8 := List.replicate 512 0
def fresh (n : Nat) : Dk := ⟨List.replicate n (zero512, zero512), [], [], 0, false⟩
theorem zeros_u8' (m : Nat) : List.replicate m (Value.int .u8 0) = u8s (List.replicate m 0) := by simp [u8s]
theorem flat_zeros (n : Nat) : flatB (List.replicate n (zero512, zero512)) = List.replicate (1024 * n) 0 := by
 induction n with
 | zero => rfl
 | succ n ih =>
  rw [List.replicate_succ]
  unfold flatB at ih ⊢
  rw [List.flatMap_cons, ih]
  unfold zero512
  simp only [List.replicate_append_replicate]
  congr 1
  omega
theorem fresh_wf {n : Nat} (h0 : 0 < n) (h1 : n ≤ 4096) : (fresh n).Wf := by
 refine ⟨by simp [fresh]; exact h0, by simp [fresh]; exact h1, ?_, by simp [fresh], by simp [fresh], by simp [fresh], by simp [fresh], by simp [fresh]⟩
 intro p hp
 rw [List.eq_of_mem_replicate hp]
 exact ⟨List.length_replicate .., List.length_replicate ..⟩
theorem new_ok (w : World) (n : Nat) (h0 : 0 < n) (h1 : n ≤ 4096) : Calls Try.prog 15 #[.int .i64 (n : Int)] w (Ret r15 fun x w' => ∃ pd bb, x = (dp pd, 0) ∧ DAt w' (Up w.heap.size) pd bb (fresh n) ∧ Ext w w') := by
 apply s15_calls
 refine jn_of fun k hk => ?_
 have key : k false w := by
  rw [hk]
  refine ⟨fun h => absurd h (by decide), fun _ => ?_⟩
  refine ⟨by omega, by omega, by omega, by omega, fun b9 w9 hb9 hw9 => ?_⟩
  rw [Int.toNat_natCast] at hw9 ⊢
  intro b11 w12 hb11 hw12
  have hx9 : Ext w w9 := Ext.new hw9
  have hx12 : Ext w9 w12 := Ext.new hw12
  rw [zeros_u8'] at hw9
  have hB := (Blk.new hb9 hw9).ext hx12
  have hD : Blk w12 b11 93 _ := Blk.new hb11 hw12
  have hlt := (Blk.new hb9 hw9).lt
  refine ⟨b11, b9, rfl, ⟨n, [], nilSl, nilSl, ?_⟩, hx9.trans hx12⟩
  have hfl : flatB (fresh n).bl = List.replicate (n * 1024) 0 := by
   show flatB (List.replicate n (zero512, zero512)) = _
   rw [flat_zeros, Nat.mul_comm]
  refine ⟨fresh_wf h0 h1, (by show w.heap.size ≤ b11; have := hx9.size; omega), (by show w.heap.size ≤ b9; omega), by omega, by simp [fresh], ?_, by rw [hfl, List.append_nil]; exact hB, SlAt.nilAt _ _ _ _ _, SlAt.nilAt _ _ _ _ _⟩
  have hbl : (fresh n).bl.length = n := by simp [fresh]
  rw [hbl]
  exact hD
 refine ⟨fun h => absurd (of_decide_eq_true h) (by omega), fun _ => ?_⟩
 have : (decide (4096 < (n : Int))) = false := decide_eq_false (by omega)
 rw [this]; exact key
theorem new_bad (w : World) (n : Int) (h : n < 1 ∨ 4096 < n) : Calls Try.prog 15 #[.int .i64 n] w (Ret r15 fun x w' => x = (none, 1) ∧ w = w') := by
 apply s15_calls
 refine jn_of fun k hk => ?_
 have key : k true w := by
  rw [hk]
  exact ⟨fun _ => ⟨rfl, rfl⟩, fun h => absurd h (by decide)⟩
 refine ⟨fun _ => key, fun h1 => ?_⟩
 have h1 := of_decide_eq_false h1
 rw [decide_eq_true (show 4096 < n by omega)]; exact key

/-! ### a block to write -/
def fillOf (c : UInt8) (s : List UInt8) : List UInt8 := s.take 512 ++ List.replicate (512 - s.length) c
theorem fillOf_len (c : UInt8) (s : List UInt8) : (fillOf c s).length = 512 := by unfold fillOf; simp; omega
theorem Own.ofBlk {w : World} {base g n e size : Nat} {xs : List Value} (h : Blk w g e xs) (hl : xs.length = n * size) (hb : base ≤ g) (hm : n ≤ maxLen) : Own w base e size ⟨some ⟨g, 0, none⟩, n, n⟩ xs :=
 ⟨hl, .inr ⟨g, n, xs.toArray, rfl, hb, h, Nat.le_refl _, hm, by simpa using hl, by simp [← hl]⟩⟩
theorem fill_ok (w : World) (c : UInt8) (s : List UInt8) : Calls Try.prog 32 #[.int .u8 (c.toNat : Int), str s] w (Ret r32 fun x w' => Own w' w.heap.size 5 1 x (u8s (fillOf c s)) ∧ Ext w w') := by
 apply s32_calls
 refine ⟨by decide, by decide, by decide, by decide, fun b2 w2 hb2 hw2 => ?_⟩
 have hx2 : Ext w w2 := Ext.new hw2
 have hB2 : Blk w2 b2 5 (u8s (List.replicate 512 0)) := by
  rw [← zeros_u8']
  exact Blk.new hb2 hw2
 show LoopS _ _ _
 refine ⟨fun st w' => ∃ i : Nat, i ≤ 512 ∧ st = (i : Int) ∧ Blk w' b2 5 (u8s (List.replicate i c ++ List.replicate (512 - i) 0)) ∧ Ext w w', fun st _ => 512 - st.toNat, ⟨0, by omega, rfl, by rw [List.replicate_zero, List.nil_append]; exact hB2, hx2⟩, ?_⟩
 rintro st w5 ⟨i, hi, rfl, hB, hx⟩
 refine ⟨fun hlt => ?_, fun hge => ?_⟩
 ·have hlt : i < 512 := by
   have := of_decide_eq_true hlt
   have h2 : (i : Int) < ((512 : Nat) : Int) := this
   omega
  refine ⟨⟨b2, 0, none⟩, _, rfl, by omega, ?_, rfl, ?_⟩
  ·show (i : Int) < ((512 : Nat) : Int); omega
  show st1 _ _ _ _
  rw [add_plain, Nat.zero_add, Int.toNat_natCast, Nat.mul_one]
  refine st1_blk hB (by rw [u8s_len, List.length_append, List.length_replicate, List.length_replicate]; omega) fun w' hB' hf' => ?_
  rw [w64_eq (by omega) (by omega)]
  refine ⟨⟨i + 1, by omega, by omega, ?_, hf'.ext hx fun k _ e => by rw [e, hb2]; exact Nat.le_refl _⟩, by simp only; omega⟩
  have e : (u8s (List.replicate i c ++ List.replicate (512 - i) 0)).set i (.int .u8 (c.toNat : Int)) = u8s (List.replicate (i + 1) c ++ List.replicate (512 - (i + 1)) 0) := by
   rw [show 512 - i = (512 - (i + 1)) + 1 by omega, List.replicate_succ, u8s_append, List.set_append_right _ _ (by rw [u8s_len, List.length_replicate]; exact Nat.le_refl _), u8s_len, List.length_replicate, Nat.sub_self, List.replicate_succ', u8s_append, u8s_append]
   simp [u8s]
  rw [← e]; exact hB'
 ·have hge : i = 512 := by
   have := of_decide_eq_false hge
   have h2 : ¬ ((i : Int) < ((512 : Nat) : Int)) := this
   omega
  subst hge
  rw [Nat.sub_self, List.replicate_zero, List.append_nil] at hB
  refine cpy_blk_str (g := b2) (o := 0) (dLen := 512) (dCap := 512) mk_39 hB (by rw [u8s_len, List.length_replicate]; omega) fun w' hB' hf' => ?_
  have hx' : Ext w w' := hf'.ext hx fun k _ e => by rw [e, hb2]; exact Nat.le_refl _
  refine ⟨?_, hx'⟩
  have e : splice (u8s (List.replicate 512 c)) 0 (u8s (s.take (min s.length 512))) = u8s (fillOf c s) := by
   have hm : s.take (min s.length 512) = s.take 512 := by
    rcases Nat.le_total s.length 512 with h | h
    ·rw [Nat.min_eq_left h, List.take_of_length_le (Nat.le_refl _), List.take_of_length_le h]
    ·rw [Nat.min_eq_right h]
   rw [hm]
   unfold splice fillOf
   rw [List.take_zero, List.nil_append, u8s_len, Nat.zero_add, u8s_drop, u8s_append, List.drop_replicate, List.length_take]
   congr 3
   omega
  rw [e] at hB'
  exact Own.ofBlk hB' (by rw [u8s_len, fillOf_len]; rfl) (by rw [hb2]; exact Nat.le_refl _) (by decide)

/-! ### a plan -/
theorem cloneF_ok (w : World) (p : Sl) (l : List Fall) (hl : p.len = l.length) (hp : AtO w p.a (fallC l)) (hn : p.a = none → p = nilSl) (hle : l.length ≤ 1000000) :
  Calls Try.prog 64 #[p.v] w (Ret r64 fun x w' => Own w' w.heap.size 27 3 x (fallC l) ∧ Ext w w') := by
 apply s64_calls
 refine ⟨fun h => ?_, fun _ => ?_⟩
 ·have hna := Option.isNone_iff_eq_none.1 h
  have h0 := hn hna
  have : l = [] := by
   have h1 : p.len = 0 := by rw [h0]
   exact List.eq_nil_of_length_eq_zero (by omega)
  subst this
  exact ⟨Own.nil _ _ _ _, Ext.refl _⟩
 intro b2 w3 hb2 hw3
 have hx3 : Ext w w3 := Ext.new hw3
 have hone : ∀ u ∈ fallC l, u.oneCell' = true := by
  intro u hu
  obtain ⟨f, _, hf⟩ := List.mem_flatMap.1 hu
  exact fall_one f u hf
 refine app_ok (base := w.heap.size) mkz_47 rfl (by decide) (Own.made (e := 27) (size := 3) (c := 0) hb2 hw3 (Nat.le_refl _) rfl (by simp [maxLen])) (news := fallC l)
  (by rw [fallC_len, hl]) (Ext.atO hx3 hp) hone (by simp only [maxLen]; omega) (by simp only; omega) hx3.size ?_
 intro s' w' hl' ho' _ hB'
 exact ⟨by simpa using ho', hB' _ _ hx3 (Nat.le_refl _) hx3.size⟩
def Dk.plan (D : Dk) (l : List Fall) : Dk := { D with falls := l }
theorem plan_ok {w : World} {base : Nat → Prop} {pd bb : Nat} {D : Dk} (h : DAt w base pd bb D) (p : Sl) (l : List Fall) (hl : p.len = l.length) (hp : AtO w p.a (fallC l)) (hn : p.a = none → p = nilSl) (hle : l.length ≤ 1000000) (hB : ∀ k, w.heap.size ≤ k → base k)
  (hk : ∀ f ∈ l, 0 ≤ f.2.1 ∧ f.2.1 < 18446744073709551616) : Calls Try.prog 37 #[.pointer (dp pd), p.v] w (Ret r37 fun _ w' => DAt w' base pd bb (Dk.plan D l) ∧ Fr (Foot pd bb) w w') := by
 obtain ⟨c, r, sp, sf, h⟩ := h
 apply s37_calls
 refine ⟨fun _ => ?_, fun h => absurd h (by simp)⟩
 refine cR_of (cloneF_ok w p l hl hp hn hle) ?_
 rintro x w3 ⟨ho, hx⟩
 have h3 := h.ext hx
 refine ⟨_, rfl, ?_⟩
 show st1 _ _ _ _
 rw [add_plain]
 refine st1_blk h3.disk (Nat.succ_lt_succ (Nat.succ_lt_succ (Nat.zero_lt_succ _))) fun w6 hb hf => ?_
 refine ⟨⟨c, r, sp, x, ?_⟩, (Fr.of hx).trans (footFr_pd hf)⟩
 have hz := h.wf
 have hsl := Own.slAt ho (base := base) (pd := pd) (bb := bb) hB h.disk.lt h.rows.lt
 exact ⟨⟨hz.pos, hz.few, hz.bl, hz.pend, hz.plen, hk, hle, hz.ch⟩, h.hpd, h.hbb, h.hne, h.hcap, hb, h3.rows.fr hf h.hne.symm, h3.pend.fr hf fun k _ hk e => hk (.inl e), hsl.fr hf fun k _ hk e => hk (.inl e)⟩

/-! ### a clone -/
theorem oneCells_pend {l : List (Nat × List UInt8)} : ∀ u ∈ pendC l, u.oneCell' = true := by
 intro u hu
 obtain ⟨p, _, hp⟩ := List.mem_flatMap.1 hu
 exact one_pend u hp
def Dk.bare (D : Dk) : Dk := { D with falls := [] }
theorem clone_ok {w : World} {base : Nat → Prop} {pd bb : Nat} {D : Dk} (h : DAt w base pd bb D) : Calls Try.prog 36 #[.pointer (dp pd)] w (Ret r36 fun x w' => ∃ pd' bb', x = dp pd' ∧ DAt w' (Up w.heap.size) pd' bb' (Dk.bare D) ∧ Ext w w') := by
 obtain ⟨c, r, sp, sf, h⟩ := h
 have hwf := h.wf
 apply s36_calls
 refine ⟨fun h => absurd h (by simp), fun _ => ?_⟩
 refine ⟨_, rfl, [(⟨some ⟨bb, 0, none⟩, D.bl.length, c⟩ : Sl).v, sp.v, sf.v, .int .i64 D.changes, .bool D.down], rfl, h.disk.at rfl, rfl, ?_, ?_⟩
 ·intro v hv
  simp only [List.mem_cons, List.not_mem_nil, or_false] at hv
  rcases hv with rfl | rfl | rfl | rfl | rfl <;> rfl
 intro b5 w6 hb5 hw6
 have hx6 : Ext w w6 := Ext.new hw6
 have h6 := h.ext hx6
 have hC6 : Blk w6 b5 93 _ := Blk.new hb5 hw6
 intro w7 hw7
 have hx7 : Ext w6 w7 := by subst hw7; exact Ext.drew _
 refine ⟨_, rfl, ⟨some ⟨bb, 0, none⟩, D.bl.length, c⟩, by rw [add_plain]; exact h6.disk.cell rfl, _, rfl, sp, by rw [add_plain]; exact h6.disk.cell rfl, ?_⟩
 -- the blocks
 have hbl : Calls Try.prog 62 #[(⟨some ⟨bb, 0, none⟩, D.bl.length, c⟩ : Sl).v] w7 (Ret r62 fun x w' => Own w' w7.heap.size 112 1024 x (u8s (flatB D.bl)) ∧ x.len = D.bl.length ∧ Ext w7 w') := by
  apply s62_calls
  refine ⟨fun h => absurd h (by simp), fun _ => ?_⟩
  intro b2 w3 hb2 hw3
  have hx3 : Ext w7 w3 := Ext.new hw3
  have hfl := flat_len hwf.bl
  have hfew := hwf.few
  refine app_ok (base := w7.heap.size) mk_90 (List.length_replicate ..) (by decide) (Own.made (e := 112) (size := 1024) (c := 0) hb2 hw3 (Nat.le_refl _) rfl (by simp [maxLen])) (news := u8s (flatB D.bl))
   (by rw [u8s_len, hfl, Nat.mul_comm]) (Blk.at ((h6.rows.ext hx7).ext hx3) (by rw [List.drop_zero, List.take_left])) (u8s_one _) (by simp only [maxLen]; omega) (by simp only; omega) hx3.size ?_
  intro s' w' hl' ho' _ hB'
  exact ⟨by simpa using ho', by simpa using hl', hB' _ _ hx3 (Nat.le_refl _) hx3.size⟩
 refine cR_of hbl ?_
 rintro x15 w16 ⟨ho15, hl15, hx16⟩
 refine ⟨hx7.trans hx16, ?_⟩
 have hpl := pend_len h.pend fun p hp => (hwf.pend p hp).2
 have hpe : Calls Try.prog 63 #[sp.v] w16 (Ret r63 fun x w' => Own w' w16.heap.size 116 513 x (pendC D.pend) ∧ Ext w16 w') := by
  have hat := Ext.atO (hx7.trans hx16) h6.pend.cells
  apply s63_calls
  refine ⟨fun hn => ?_, fun _ => ?_⟩
  ·have h0 := h.pend.nil (Option.isNone_iff_eq_none.1 hn)
   have : D.pend = [] := by
    have h1 : sp.len = 0 := by rw [h0]
    exact List.eq_nil_of_length_eq_zero (by omega)
   rw [this]
   exact ⟨Own.nil _ _ _ _, Ext.refl _⟩
  intro b2 w3 hb2 hw3
  have hx3 : Ext w16 w3 := Ext.new hw3
  have hple := hwf.plen
  refine app_ok (base := w16.heap.size) mkz_91 (by rw [List.length_append, List.length_replicate, List.length_singleton]) (by decide) (Own.made (e := 116) (size := 513) (c := 0) hb2 hw3 (Nat.le_refl _) rfl (by simp [maxLen])) (news := pendC D.pend)
   h.pend.len (Ext.atO hx3 hat) oneCells_pend (by simp only [maxLen]; omega) (by simp only; omega) hx3.size ?_
  intro s' w' hl' ho' _ hB'
  exact ⟨by simpa using ho', hB' _ _ hx3 (Nat.le_refl _) hx3.size⟩
 refine cR_of hpe ?_
 rintro x18 w19 ⟨ho18, hx19⟩
 have hC19 := ((hC6.ext hx7).ext hx16).ext hx19
 rw [add_plain]
 refine st1_blk hC19 (Nat.zero_lt_succ _) fun w20 hb20 hf20 => ?_
 rw [add_plain]
 refine st1_blk hb20 (Nat.succ_lt_succ (Nat.zero_lt_succ _)) fun w21 hb21 hf21 => ?_
 rw [add_plain]
 refine st1_blk hb21 (Nat.succ_lt_succ (Nat.succ_lt_succ (Nat.zero_lt_succ _))) fun w22 hb22 hf22 => ?_
 have hf := (hf20.trans hf21).trans hf22
 obtain ⟨g, rest, hg, hgb, hgB, hgc⟩ := ho15.blk (by rw [hl15]; exact hwf.pos)
 have hsz6 : b5 < w7.heap.size := Nat.lt_of_lt_of_le hC6.lt hx7.size
 have hgne : g ≠ b5 := by omega
 have hx : Ext w w22 := hf.ext (((hx6.trans hx7).trans hx16).trans hx19) fun k _ e => by rw [e, hb5]; exact Nat.le_refl _
 refine ⟨b5, g, rfl, ⟨x15.cap, rest, x18, nilSl, ?_⟩, hx⟩
 have hw6s : w.heap.size ≤ w7.heap.size := (hx6.trans hx7).size
 have hg16 : g < w16.heap.size := hgB.lt
 refine ⟨⟨hwf.pos, hwf.few, hwf.bl, hwf.pend, hwf.plen, by simp [Dk.bare], by simp [Dk.bare], hwf.ch⟩, (by show w.heap.size ≤ b5; omega), (by show w.heap.size ≤ g; omega), fun e => hgne e.symm, by show D.bl.length ≤ _; rw [← hl15]; exact hgc, ?_, (hgB.ext hx19).fr hf (fun e => hgne e), ?_, SlAt.nilAt _ _ _ _ _⟩
 ·have e15 : (⟨some ⟨g, 0, none⟩, D.bl.length, x15.cap⟩ : Sl) = x15 := by rw [← hg, ← hl15]
  show Blk w22 b5 93 [(⟨some ⟨g, 0, none⟩, D.bl.length, x15.cap⟩ : Sl).v, _, _, _, _]
  rw [e15]
  exact hb22
 ·have hsl := Own.slAt ho18 (base := Up w.heap.size) (pd := b5) (bb := g) (fun k hk => by show w.heap.size ≤ k; have := hx16.size; omega) (by have := hx16.size; omega) hg16
  exact hsl.fr hf fun k _ hk e => hk (.inl e)
theorem footExt {w w0 w' : World} {pd bb : Nat} (hf : Fr (Foot pd bb) w w') (hx : Ext w0 w) (h1 : w0.heap.size ≤ pd) (h2 : w0.heap.size ≤ bb) : Ext w0 w' :=
 hf.ext hx fun k _ hk => by rcases hk with e | e <;> rw [e] <;> assumption
end Go.Proofs.Ytagkcbbbdlmcjaa
end
