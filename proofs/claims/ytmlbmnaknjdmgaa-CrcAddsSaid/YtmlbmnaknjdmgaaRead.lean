/- The typed readings of the functions, and that the program meets each: written by gen.py (a program of this session). -/
import Derived.Test.YtmlbmnaknjdmgaaLiftDraw
import Derived.Test.YtmlbmnaknjdmgaaFacts
set_option linter.unusedVariables false
set_option linter.unusedSimpArgs false
namespace Go.Proofs.Ytmlbmnaknjdmgaa
open Go.Lift
abbrev r3 : Bool → Value := fun (x : Bool) => .bool x
abbrev r4 : Bool → Value := fun (x : Bool) => .bool x
abbrev r5 : Bool → Value := fun (x : Bool) => .bool x
abbrev r6 : Bool → Value := fun (x : Bool) => .bool x
abbrev r7 : Bool → Value := fun (x : Bool) => .bool x
abbrev r8 : Bool → Value := fun (x : Bool) => .bool x
abbrev r9 : Bool → Value := fun (x : Bool) => .bool x
abbrev r10 : Int → Value := fun (x : Int) => .int .u32 x
abbrev r11 : Int → Value := fun (x : Int) => .int .u32 x
abbrev r12 : Sl → Value := fun (x : Sl) => Sl.v x
abbrev r13 : List UInt8 → Value := fun (x : List UInt8) => str x
abbrev r14 : Sl × Int → Value := fun (x : Sl × Int) => .tuple #[Sl.v x.1, .int .i64 x.2]
/-- dowser/dowserlaw02.CrcSums -/
def s3 (K : Bool → World → Prop) (p0 : Sl) (w : World) : Prop :=
  cR Try.prog 8 r8 #[] w fun x1 w2 =>
  jn (J := Bool → World → Prop) (fun J4 =>
    ifB (!x1) (
      J4 true w2) (
      cR Try.prog 9 r9 #[Sl.v p0] w2 fun x5 w6 =>
      J4 (!x5) w6)) fun s7 w8 =>
  ifB s7 (
    cR Try.prog 8 r8 #[] w8 fun x12 w13 =>
    K x12 w13) (
    LoopS (σ := List UInt8 × Int) (fun next16 s14 w15 =>
      ifB (decide (s14.2 < (p0.len : Int))) (
        ix p0 1 s14.2 fun a23 =>
        ldL a23 w15 fun x25 =>
        b2s x25 w15 fun x26 =>
        rq (s14.1.length + x26.length ≤ 9223372036854775807) <|
        next16 ((s14.1 ++ x26), (IntKind.i64.wrap (s14.2 + 1))) w15) (
        cR Try.prog 10 r10 #[Sl.v p0] w15 fun x27 w28 =>
        cR Try.prog 11 r11 #[str s14.1] w28 fun x29 w30 =>
        K (decide (x27 = x29)) w30)) ([], 0) w8)
/-- dowser/dowserlaw02.CrcAdds -/
def s4 (K : Bool → World → Prop) (p0 : Sl) (p1 : Sl) (p2 : Sl) (w : World) : Prop :=
  cR Try.prog 8 r8 #[] w fun x1 w2 =>
  ifB (!x1) (
    K false w2) (
    mkS 5 1 1 (Value.int .u8 0) (mn (mn (mn (p0.len : Int) (p1.len : Int)) (p2.len : Int)) 500) (mn (mn (mn (p0.len : Int) (p1.len : Int)) (p2.len : Int)) 500) w2 fun x6 w5 =>
    LoopS (σ := Int) (fun next9 s7 w8 =>
      ifB (decide (s7 < (x6.len : Int))) (
        drw w8 fun w18 =>
        ix p0 1 s7 fun a20 =>
        ldI .u8 a20 w8 fun x22 =>
        ix p1 1 s7 fun a23 =>
        ldI .u8 a23 w8 fun x25 =>
        ix p2 1 s7 fun a26 =>
        ldI .u8 a26 w8 fun x28 =>
        ix x6 1 s7 fun a29 =>
        st1 a29 (.int .u8 (xorI .u8 (xorI .u8 x22 x25) x28)) w18 fun w31 =>
        next9 (IntKind.i64.wrap (s7 + 1)) w31) (
        drw w8 fun w32 =>
        rq ((0 : Int) ≤ 0 ∧ 0 ≤ (mn (mn (mn (p0.len : Int) (p1.len : Int)) (p2.len : Int)) 500) ∧ (mn (mn (mn (p0.len : Int) (p1.len : Int)) (p2.len : Int)) 500) ≤ (p0.cap : Int)) <|
        rq ((0 : Int) ≤ 0 ∧ 0 ≤ (mn (mn (mn (p0.len : Int) (p1.len : Int)) (p2.len : Int)) 500) ∧ (mn (mn (mn (p0.len : Int) (p1.len : Int)) (p2.len : Int)) 500) ≤ (p1.cap : Int)) <|
        rq ((0 : Int) ≤ 0 ∧ 0 ≤ (mn (mn (mn (p0.len : Int) (p1.len : Int)) (p2.len : Int)) 500) ∧ (mn (mn (mn (p0.len : Int) (p1.len : Int)) (p2.len : Int)) 500) ≤ (p2.cap : Int)) <|
        nd (δ := Unit) (α := Sl) w32 (fun d41 v_ => True) (fun d41 K42 w43 =>
          newB 25 [Sl.v (p0.cut 1 0 (mn (mn (mn (p0.len : Int) (p1.len : Int)) (p2.len : Int)) 500) p0.cap)] w43 fun b45 w46 =>
          K42 ⟨some ⟨b45, 0, none⟩, 1, 1⟩ w46) fun F44 =>
        nd (δ := Sl) (α := Int) w32 (fun d47 v_ => F44 () d47 v_) (fun d47 K48 w49 =>
          cR Try.prog 10 r10 #[Sl.v d47] w49 fun x51 w52 =>
          K48 x51 w52) fun F50 =>
        nd (δ := Unit) (α := Sl) w32 (fun d53 v_ => True) (fun d53 K54 w55 =>
          newB 25 [Sl.v (p1.cut 1 0 (mn (mn (mn (p0.len : Int) (p1.len : Int)) (p2.len : Int)) 500) p1.cap)] w55 fun b57 w58 =>
          K54 ⟨some ⟨b57, 0, none⟩, 1, 1⟩ w58) fun F56 =>
        nd (δ := Sl × Int × Sl) (α := Int) w32 (fun d59 v_ => F44 () d59.1 v_ ∧ F50 d59.1 d59.2.1 v_ ∧ F56 () d59.2.2 v_) (fun d59 K60 w61 =>
          cR Try.prog 10 r10 #[Sl.v d59.2.2] w61 fun x63 w64 =>
          K60 x63 w64) fun F62 =>
        nd (δ := Unit) (α := Sl) w32 (fun d65 v_ => True) (fun d65 K66 w67 =>
          newB 25 [Sl.v (p2.cut 1 0 (mn (mn (mn (p0.len : Int) (p1.len : Int)) (p2.len : Int)) 500) p2.cap)] w67 fun b69 w70 =>
          K66 ⟨some ⟨b69, 0, none⟩, 1, 1⟩ w70) fun F68 =>
        nd (δ := Sl × Int × Sl × Int × Sl) (α := Int) w32 (fun d71 v_ => F44 () d71.1 v_ ∧ F50 d71.1 d71.2.1 v_ ∧ F56 () d71.2.2.1 v_ ∧ F62 (d71.1, d71.2.1, d71.2.2.1) d71.2.2.2.1 v_ ∧ F68 () d71.2.2.2.2 v_) (fun d71 K72 w73 =>
          cR Try.prog 10 r10 #[Sl.v d71.2.2.2.2] w73 fun x75 w76 =>
          K72 x75 w76) fun F74 =>
        nd (δ := Unit) (α := Sl) w32 (fun d77 v_ => True) (fun d77 K78 w79 =>
          newB 25 [Sl.v x6] w79 fun b81 w82 =>
          K78 ⟨some ⟨b81, 0, none⟩, 1, 1⟩ w82) fun F80 =>
        ∀ (x34 : Sl) (x35 : Int) (x36 : Sl) (x37 : Int) (x38 : Sl) (x39 : Int) (x40 : Sl) (w83 : World), Ext w32 w83 → F44 () x34 w83 → F50 x34 x35 w83 → F56 () x36 w83 → F62 (x34, x35, x36) x37 w83 → F68 () x38 w83 → F74 (x34, x35, x36, x37, x38) x39 w83 → F80 () x40 w83 →
        cR Try.prog 10 r10 #[Sl.v x40] w83 fun x85 w86 =>
        K (decide ((xorI .u32 (xorI .u32 x35 x37) x39) = x85)) w86)) 0 w5)
/-- dowser/dowserlaw02.CrcOpens -/
def s5 (K : Bool → World → Prop) (p0 : Sl) (p1 : Bool) (w : World) : Prop :=
  cR Try.prog 8 r8 #[] w fun x1 w2 =>
  jn (J := Bool → World → Prop) (fun J4 =>
    ifB (!x1) (
      J4 true w2) (
      J4 (decide (1000 < (p0.len : Int))) w2)) fun s5 w6 =>
  ifB s5 (
    cR Try.prog 8 r8 #[] w6 fun x11 w12 =>
    K x11 w12) (
    newB 5 [] w6 fun b13 w14 =>
    app Try.prog 25 ⟨some ⟨b13, 0, none⟩, 0, 0⟩ p0 w14 fun x15 w16 =>
    jn (J := Sl → World → Prop) (fun J17 =>
      ifB p1 (
        cR Try.prog 12 r12 #[Sl.v p0] w16 fun x19 w20 =>
        drw w20 fun w21 =>
        b2s x19 w20 fun x23 =>
        b2s p0 w20 fun x24 =>
        cR Try.prog 13 r13 #[str x24] w21 fun x25 w26 =>
        rq (Ext w20 w26) <|
        ifB (!decide (x23 = x25)) (
          K false w26) (
          J17 x19 w26)) (
        J17 x15 w16)) fun s29 w30 =>
    cR Try.prog 14 r14 #[Sl.v s29] w30 fun x32 w33 =>
    ifB (decide ((IntKind.i64.wrap ((s29.len : Int) - 4)) < 0)) (
      jn (J := Bool → World → Prop) (fun J36 =>
        ifB (decide (x32.2 = 10)) (
          J36 (decide ((x32.1.len : Int) = 0)) w33) (
          J36 false w33)) fun s37 w38 =>
      K s37 w38) (
      drw w33 fun w42 =>
      rq ((0 : Int) ≤ 0 ∧ 0 ≤ (IntKind.i64.wrap ((s29.len : Int) - 4)) ∧ (IntKind.i64.wrap ((s29.len : Int) - 4)) ≤ (s29.cap : Int)) <|
      b2s (s29.cut 1 0 (IntKind.i64.wrap ((s29.len : Int) - 4)) s29.cap) w33 fun x44 =>
      b2s s29 w33 fun x45 =>
      cR Try.prog 13 r13 #[str x44] w42 fun x46 w47 =>
      rq (Ext w33 w47) <|
      ifB (!decide (x46 = x45)) (
        jn (J := Bool → World → Prop) (fun J51 =>
          ifB (decide (x32.2 = 20)) (
            J51 (decide ((x32.1.len : Int) = 0)) w47) (
            J51 false w47)) fun s52 w53 =>
        K s52 w53) (
        drw w47 fun w57 =>
        jn (J := Bool → World → Prop) (fun J59 =>
          ifB (decide (x32.2 = 0)) (
            b2s x32.1 w47 fun x61 =>
            rq ((0 : Int) ≤ 0 ∧ 0 ≤ (IntKind.i64.wrap ((s29.len : Int) - 4)) ∧ (IntKind.i64.wrap ((s29.len : Int) - 4)) ≤ (s29.cap : Int)) <|
            b2s (s29.cut 1 0 (IntKind.i64.wrap ((s29.len : Int) - 4)) s29.cap) w47 fun x62 =>
            J59 (decide (x61 = x62)) w57) (
            J59 false w57)) fun s63 w64 =>
        K s63 w64)))
/-- dowser/dowserlaw02.CrcBursts -/
def s6 (K : Bool → World → Prop) (p0 : Sl) (p1 : Int) (p2 : Int) (w : World) : Prop :=
  cR Try.prog 8 r8 #[] w fun x1 w2 =>
  jn (J := Bool → World → Prop) (fun J4 =>
    ifB (!x1) (
      J4 true w2) (
      J4 (decide (1000 < (p0.len : Int))) w2)) fun s5 w6 =>
  jn (J := Bool → World → Prop) (fun J12 =>
    ifB s5 (
      J12 true w6) (
      J12 (decide (p2 = 0)) w6)) fun s13 w14 =>
  ifB s13 (
    cR Try.prog 8 r8 #[] w14 fun x20 w21 =>
    K x20 w21) (
    cR Try.prog 12 r12 #[Sl.v p0] w14 fun x22 w23 =>
    ifB (!decide ((x22.len : Int) = (IntKind.i64.wrap ((p0.len : Int) + 4)))) (
      K false w23) (
      rq ((IntKind.u64.wrap (IntKind.i64.wrap ((IntKind.i64.wrap (8 * (x22.len : Int))) - 31))) ≠ 0) <|
      LoopS (σ := Int) (fun next27 s25 w26 =>
        ifB (decide (s25 < 32)) (
          jn (J := Unit → World → Prop) (fun J33 =>
            rq (0 ≤ s25) <|
            ifB (decide ((andI .u32 (shrI .u32 p2 s25) 1) = 1)) (
              drw w26 fun w35 =>
              ix x22 1 (IntKind.i64.wrap (Int.tdiv (IntKind.i64.wrap ((IntKind.i64.wrap (Int.tmod (IntKind.u64.wrap p1) (IntKind.u64.wrap (IntKind.i64.wrap ((IntKind.i64.wrap (8 * (x22.len : Int))) - 31))))) + s25)) 8)) fun a37 =>
              ldI .u8 a37 w26 fun x39 =>
              rq (0 ≤ (Int.tmod (IntKind.i64.wrap ((IntKind.i64.wrap (Int.tmod (IntKind.u64.wrap p1) (IntKind.u64.wrap (IntKind.i64.wrap ((IntKind.i64.wrap (8 * (x22.len : Int))) - 31))))) + s25)) 8)) <|
              ix x22 1 (IntKind.i64.wrap (Int.tdiv (IntKind.i64.wrap ((IntKind.i64.wrap (Int.tmod (IntKind.u64.wrap p1) (IntKind.u64.wrap (IntKind.i64.wrap ((IntKind.i64.wrap (8 * (x22.len : Int))) - 31))))) + s25)) 8)) fun a40 =>
              st1 a40 (.int .u8 (xorI .u8 x39 (shlI .u8 1 (Int.tmod (IntKind.i64.wrap ((IntKind.i64.wrap (Int.tmod (IntKind.u64.wrap p1) (IntKind.u64.wrap (IntKind.i64.wrap ((IntKind.i64.wrap (8 * (x22.len : Int))) - 31))))) + s25)) 8)))) w35 fun w42 =>
              J33 () w42) (
              J33 () w26)) fun s43 w44 =>
          next27 (IntKind.i64.wrap (s25 + 1)) w44) (
          cR Try.prog 14 r14 #[Sl.v x22] w26 fun x51 w52 =>
          jn (J := Bool → World → Prop) (fun J54 =>
            ifB (decide (x51.2 = 20)) (
              J54 (decide ((x51.1.len : Int) = 0)) w52) (
              J54 false w52)) fun s55 w56 =>
          K s55 w56)) 0 w23))
/-- dowser/dowserlaw02.CrcOwn -/
def s7 (K : Bool → World → Prop) (p0 : Sl) (w : World) : Prop :=
  cR Try.prog 8 r8 #[] w fun x1 w2 =>
  jn (J := Bool → World → Prop) (fun J4 =>
    ifB (!x1) (
      J4 true w2) (
      J4 (decide (500 < (p0.len : Int))) w2)) fun s5 w6 =>
  ifB s5 (
    cR Try.prog 8 r8 #[] w6 fun x10 w11 =>
    K x10 w11) (
    mkS 5 1 1 (Value.int .u8 0) 0 (IntKind.i64.wrap ((p0.len : Int) + 8)) w6 fun x14 w13 =>
    app Try.prog 25 x14 p0 w13 fun x15 w16 =>
    newB 5 [.int .u8 1, .int .u8 2, .int .u8 3, .int .u8 4] w16 fun b17 w18 =>
    app Try.prog 25 x15 ⟨some ⟨b17, 0, none⟩, 4, 4⟩ w18 fun x19 w20 =>
    rq ((0 : Int) ≤ 0 ∧ 0 ≤ (p0.len : Int) ∧ (p0.len : Int) ≤ (x19.cap : Int)) <|
    cR Try.prog 12 r12 #[Sl.v (x19.cut 1 0 (p0.len : Int) x19.cap)] w20 fun x21 w22 =>
    cR Try.prog 14 r14 #[Sl.v x21] w22 fun x23 w24 =>
    LoopS (σ := Int) (fun next27 s25 w26 =>
      ifB (decide (s25 < (x21.len : Int))) (
        ix x21 1 s25 fun a37 =>
        ldI .u8 a37 w26 fun x39 =>
        ix x21 1 s25 fun a40 =>
        st1 a40 (.int .u8 (xorI .u8 x39 255)) w26 fun w42 =>
        next27 (IntKind.i64.wrap (s25 + 1)) w42) (
        jn (J := Bool → World → Prop) (fun J44 =>
          ifB (decide (x23.2 = 0)) (
            b2s (x19.cut 1 0 (p0.len : Int) x19.cap) w26 fun x45 =>
            b2s p0 w26 fun x46 =>
            J44 (decide (x45 = x46)) w26) (
            J44 false w26)) fun s47 w48 =>
        jn (J := Bool → World → Prop) (fun J54 =>
          ifB s47 (
            b2s x23.1 w48 fun x55 =>
            b2s p0 w48 fun x56 =>
            J54 (decide (x55 = x56)) w48) (
            J54 false w48)) fun s57 w58 =>
        jn (J := Bool → World → Prop) (fun J63 =>
          ifB s57 (
            rq ((0 : Int) ≤ (p0.len : Int) ∧ (p0.len : Int) ≤ (x19.len : Int)) <|
            b2s (x19.cut 1 (p0.len : Int) (x19.len : Int) x19.cap) w58 fun x64 =>
            J63 (decide (x64 = [1, 2, 3, 4])) w58) (
            J63 false w58)) fun s65 w66 =>
        K s65 w66)) 0 w24)
/-- dowser/dowserlaw02.lives -/
def s8 (K : Bool → World → Prop)  (w : World) : Prop :=
  newB 5 [.int .u8 49, .int .u8 50, .int .u8 51, .int .u8 52] w fun b1 w2 =>
  mkd ⟨some ⟨b1, 0, none⟩, 4, 4⟩ w2 fun w3 =>
  newB 5 [.int .u8 53, .int .u8 54, .int .u8 55, .int .u8 56, .int .u8 57] w3 fun b4 w5 =>
  mkd ⟨some ⟨b4, 0, none⟩, 5, 5⟩ w5 fun w6 =>
  newB 25 [Sl.v ⟨some ⟨b1, 0, none⟩, 4, 4⟩, Sl.v ⟨some ⟨b4, 0, none⟩, 5, 5⟩] w6 fun b7 w8 =>
  cR Try.prog 10 r10 #[Sl.v ⟨some ⟨b7, 0, none⟩, 2, 2⟩] w8 fun x9 w10 =>
  K (decide (x9 = 3421780262)) w10
/-- dowser/dowserlaw02.few -/
def s9 (K : Bool → World → Prop) (p0 : Sl) (w : World) : Prop :=
  ifB (decide (20 < (p0.len : Int))) (
    K false w) (
    LoopS (σ := Int) (fun next4 s2 w3 =>
      ifB (decide (s2 < (p0.len : Int))) (
        ix p0 1 s2 fun a9 =>
        ldL a9 w3 fun x11 =>
        ifB (decide (300 < (x11.len : Int))) (
          K false w3) (
          next4 (IntKind.i64.wrap (s2 + 1)) w3)) (
        K true w3)) 0 w)
/-- dowser/crc.Sum -/
def s10 (K : Int → World → Prop) (p0 : Sl) (w : World) : Prop :=
  LoopS (σ := Int × Int) (fun next3 s1 w2 =>
    ifB (decide (s1.2 < (p0.len : Int))) (
      ix p0 1 s1.2 fun a9 =>
      ldL a9 w2 fun x11 =>
      LoopS (σ := Int × Int) (fun next14 s12 w13 =>
        ifB (decide (s12.2 < (x11.len : Int))) (
          ix x11 1 s12.2 fun a23 =>
          ldI .u8 a23 w13 fun x25 =>
          LoopS (σ := Int × Int) (fun next28 s26 w27 =>
            ifB (decide (s26.2 < 8)) (
              jn (J := Int → World → Prop) (fun J38 =>
                ifB (decide ((andI .u32 s26.1 1) = 1)) (
                  J38 (xorI .u32 (shrI .u32 s26.1 1) 3988292384) w27) (
                  J38 (shrI .u32 s26.1 1) w27)) fun s40 w41 =>
              next28 (s40, (IntKind.i64.wrap (s26.2 + 1))) w41) (
              next14 (s26.1, (IntKind.i64.wrap (s12.2 + 1))) w27)) ((xorI .u32 s12.1 (IntKind.u32.wrap x25)), 0) w13) (
          next3 (s12.1, (IntKind.i64.wrap (s1.2 + 1))) w13)) (s1.1, 0) w2) (
      K (cmpl .u32 s1.1) w2)) (4294967295, 0) w
/-- dowser/dowserref02.Sum -/
def s11 (K : Int → World → Prop) (p0 : List UInt8) (w : World) : Prop :=
  LoopS (σ := Int × Int) (fun next3 s1 w2 =>
    ifB (decide (s1.2 < (IntKind.i64.wrap (8 * (p0.length : Int))))) (
      jn (J := Int → World → Prop) (fun J8 =>
        ixS p0 (IntKind.i64.wrap (Int.tdiv s1.2 8)) fun c9 =>
        rq (0 ≤ (IntKind.u64.wrap (Int.tmod s1.2 8))) <|
        ifB (!decide ((Int.tmod s1.1 2) = (Int.tmod (IntKind.u32.wrap (shrI .u8 (c9.toNat : Int) (IntKind.u64.wrap (Int.tmod s1.2 8)))) 2))) (
          J8 (xorI .u32 (IntKind.u32.wrap (Int.tdiv s1.1 2)) 3988292384) w2) (
          J8 (IntKind.u32.wrap (Int.tdiv s1.1 2)) w2)) fun s11 w12 =>
      next3 (s11, (IntKind.i64.wrap (s1.2 + 1))) w12) (
      K (IntKind.u32.wrap (4294967295 - s1.1)) w2)) (4294967295, 0) w
/-- dowser/crc.Seal -/
def s12 (K : Sl → World → Prop) (p0 : Sl) (w : World) : Prop :=
  newB 25 [Sl.v p0] w fun b1 w2 =>
  cR Try.prog 10 r10 #[Sl.v ⟨some ⟨b1, 0, none⟩, 1, 1⟩] w2 fun x3 w4 =>
  newB 5 [] w4 fun b5 w6 =>
  app Try.prog 25 ⟨some ⟨b5, 0, none⟩, 0, 0⟩ p0 w6 fun x7 w8 =>
  LoopS (σ := Int × Sl × Int) (fun next11 s9 w10 =>
    ifB (decide (s9.2.2 < 4)) (
      newB 5 [.int .u8 (IntKind.u8.wrap s9.1)] w10 fun b16 w17 =>
      app Try.prog 25 s9.2.1 ⟨some ⟨b16, 0, none⟩, 1, 1⟩ w17 fun x18 w19 =>
      next11 ((shrI .u32 s9.1 8), x18, (IntKind.i64.wrap (s9.2.2 + 1))) w19) (
      K s9.2.1 w10)) (x3, x7, 0) w8
/-- dowser/dowserref02.Seal -/
def s13 (K : List UInt8 → World → Prop) (p0 : List UInt8) (w : World) : Prop :=
  cR Try.prog 11 r11 #[str p0] w fun x1 w2 =>
  newB 5 [.int .u8 (IntKind.u8.wrap x1), .int .u8 (IntKind.u8.wrap (IntKind.u32.wrap (Int.tdiv x1 256))), .int .u8 (IntKind.u8.wrap (IntKind.u32.wrap (Int.tdiv x1 65536))), .int .u8 (IntKind.u8.wrap (IntKind.u32.wrap (Int.tdiv x1 16777216)))] w2 fun b3 w4 =>
  b2s ⟨some ⟨b3, 0, none⟩, 4, 4⟩ w4 fun x5 =>
  rq (p0.length + x5.length ≤ 9223372036854775807) <|
  K (p0 ++ x5) w4
/-- dowser/crc.Open -/
def s14 (K : Sl × Int → World → Prop) (p0 : Sl) (w : World) : Prop :=
  ifB (decide ((IntKind.i64.wrap ((p0.len : Int) - 4)) < 0)) (
    K (nilSl, 10) w) (
    drw w fun w2 =>
    rq ((0 : Int) ≤ 0 ∧ 0 ≤ (IntKind.i64.wrap ((p0.len : Int) - 4)) ∧ (IntKind.i64.wrap ((p0.len : Int) - 4)) ≤ (p0.cap : Int)) <|
    b2s p0 w fun x4 =>
    cR Try.prog 12 r12 #[Sl.v (p0.cut 1 0 (IntKind.i64.wrap ((p0.len : Int) - 4)) p0.cap)] w2 fun x5 w6 =>
    rq (Ext w w6) <|
    b2s x5 w6 fun x8 =>
    ifB (!decide (x8 = x4)) (
      K (nilSl, 20) w6) (
      newB 5 [] w6 fun b11 w12 =>
      rq ((0 : Int) ≤ 0 ∧ 0 ≤ (IntKind.i64.wrap ((p0.len : Int) - 4)) ∧ (IntKind.i64.wrap ((p0.len : Int) - 4)) ≤ (p0.cap : Int)) <|
      app Try.prog 25 ⟨some ⟨b11, 0, none⟩, 0, 0⟩ (p0.cut 1 0 (IntKind.i64.wrap ((p0.len : Int) - 4)) p0.cap) w12 fun x13 w14 =>
      K (x13, 0) w14))
end Go.Proofs.Ytmlbmnaknjdmgaa
