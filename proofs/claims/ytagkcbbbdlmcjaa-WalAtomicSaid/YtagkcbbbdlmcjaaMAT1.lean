/- Parts of a proof, one behind the other: readings of functions, what they do, and what follows. -/
import Derived.Test.YtagkcbbbdlmcjaaMAT0
section
/- The typed readings of the functions, and that the program meets each: written by gen.py (a program of this session). -/
set_option linter.unusedVariables false
set_option linter.unusedSimpArgs false
namespace Go.Proofs.Ytagkcbbbdlmcjaa
open Go.Lift
abbrev r3 : Bool → Value := fun (x : Bool) => .bool x
abbrev r4 : Bool → Value := fun (x : Bool) => .bool x
abbrev r5 : Bool → Value := fun (x : Bool) => .bool x
abbrev r6 : Bool → Value := fun (x : Bool) => .bool x
abbrev r7 : Bool → Value := fun (x : Bool) => .bool x
abbrev r8 : Bool → Value := fun (x : Bool) => .bool x
abbrev r9 : Bool → Value := fun (x : Bool) => .bool x
abbrev r10 : Bool → Value := fun (x : Bool) => .bool x
abbrev r11 : Bool → Value := fun (x : Bool) => .bool x
abbrev r12 : Bool → Value := fun (x : Bool) => .bool x
abbrev r13 : Bool → Value := fun (x : Bool) => .bool x
abbrev r14 : Bool → Value := fun (x : Bool) => .bool x
abbrev r15 : Option Addr × Int → Value := fun (x : Option Addr × Int) => .tuple #[.pointer x.1, .int .i64 x.2]
abbrev r16 : Option Addr × Sl × Int → Value := fun (x : Option Addr × Sl × Int) => .tuple #[.pointer x.1, Sl.v x.2.1, .int .i64 x.2.2]
abbrev r17 : Int → Value := fun (x : Int) => .int .i64 x
abbrev r18 : List UInt8 → Value := fun (x : List UInt8) => str x
abbrev r19 : Int → Value := fun (x : Int) => .int .i64 x
abbrev r20 : Int → Value := fun (x : Int) => .int .i64 x
abbrev r21 : Int → Value := fun (x : Int) => .int .i64 x
abbrev r22 : Int → Value := fun (x : Int) => .int .i64 x
abbrev r23 : Int → Value := fun (x : Int) => .int .i64 x
abbrev r24 : List Value → Value := fun (x : List Value) => aggv x
abbrev r25 : Bool → Value := fun (x : Bool) => .bool x
abbrev r26 : Bool → Value := fun (x : Bool) => .bool x
abbrev r27 : Bool → Value := fun (x : Bool) => .bool x
abbrev r28 : Sl × Int → Value := fun (x : Sl × Int) => .tuple #[Sl.v x.1, .int .i64 x.2]
abbrev r29 : List UInt8 → Value := fun (x : List UInt8) => str x
abbrev r30 : Bool → Value := fun (x : Bool) => .bool x
abbrev r31 : Bool → Value := fun (x : Bool) => .bool x
abbrev r32 : Sl → Value := fun (x : Sl) => Sl.v x
abbrev r33 : Int → Value := fun (x : Int) => .int .i64 x
abbrev r34 : Int → Value := fun (x : Int) => .int .i64 x
abbrev r35 : Unit → Value := fun (_ : Unit) => .tuple #[]
abbrev r36 : Option Addr → Value := fun (x : Option Addr) => .pointer x
abbrev r37 : Unit → Value := fun (_ : Unit) => .tuple #[]
abbrev r38 : Bool → Value := fun (x : Bool) => .bool x
abbrev r39 : Int → Value := fun (x : Int) => .int .i64 x
abbrev r40 : List Value × Bool → Value := fun (x : List Value × Bool) => .tuple #[aggv x.1, .bool x.2]
abbrev r41 : List UInt8 → Value := fun (x : List UInt8) => str x
abbrev r42 : List Value × Int → Value := fun (x : List Value × Int) => .tuple #[aggv x.1, .int .i64 x.2]
abbrev r43 : Bool → Value := fun (x : Bool) => .bool x
abbrev r44 : Sl → Value := fun (x : Sl) => Sl.v x
abbrev r45 : Bool → Value := fun (x : Bool) => .bool x
abbrev r46 : Bool → Value := fun (x : Bool) => .bool x
abbrev r47 : Int × Int → Value := fun (x : Int × Int) => .tuple #[.int .u64 x.1, .int .i64 x.2]
abbrev r48 : Int → Value := fun (x : Int) => .int .i64 x
abbrev r49 : Sl → Value := fun (x : Sl) => Sl.v x
abbrev r50 : Sl × Int → Value := fun (x : Sl × Int) => .tuple #[Sl.v x.1, .int .i64 x.2]
abbrev r51 : List UInt8 → Value := fun (x : List UInt8) => str x
abbrev r52 : List UInt8 → Value := fun (x : List UInt8) => str x
abbrev r53 : Sl → Value := fun (x : Sl) => Sl.v x
abbrev r54 : Sl → Value := fun (x : Sl) => Sl.v x
abbrev r55 : List Value × Sl × Int → Value := fun (x : List Value × Sl × Int) => .tuple #[aggv x.1, Sl.v x.2.1, .int .i64 x.2.2]
abbrev r56 : List Value × Int → Value := fun (x : List Value × Int) => .tuple #[aggv x.1, .int .i64 x.2]
abbrev r57 : List Value × Int → Value := fun (x : List Value × Int) => .tuple #[aggv x.1, .int .i64 x.2]
abbrev r58 : List Value → Value := fun (x : List Value) => aggv x
abbrev r59 : Int → Value := fun (x : Int) => .int .i64 x
abbrev r60 : Sl → Value := fun (x : Sl) => Sl.v x
abbrev r61 : Int → Value := fun (x : Int) => .int .i64 x
abbrev r62 : Sl → Value := fun (x : Sl) => Sl.v x
abbrev r63 : Sl → Value := fun (x : Sl) => Sl.v x
abbrev r64 : Sl → Value := fun (x : Sl) => Sl.v x
abbrev r65 : List Value × Int → Value := fun (x : List Value × Int) => .tuple #[aggv x.1, .int .i64 x.2]
abbrev r66 : Int → Value := fun (x : Int) => .int .i64 x
abbrev r67 : List UInt8 → Value := fun (x : List UInt8) => str x
abbrev r68 : List Value × Int → Value := fun (x : List Value × Int) => .tuple #[aggv x.1, .int .i64 x.2]
abbrev r69 : Int → Value := fun (x : Int) => .int .u64 x
abbrev r70 : Sl → Value := fun (x : Sl) => Sl.v x
abbrev r71 : Sl → Value := fun (x : Sl) => Sl.v x
abbrev r72 : Option Addr → Value := fun (x : Option Addr) => .pointer x
abbrev r73 : Int → Value := fun (x : Int) => .int .u64 x
abbrev r74 : Int → Value := fun (x : Int) => .int .i64 x
abbrev r75 : Int → Value := fun (x : Int) => .int .i64 x
abbrev r76 : Int → Value := fun (x : Int) => .int .u32 x
abbrev r77 : Int → Value := fun (x : Int) => .int .u32 x
abbrev r78 : Sl → Value := fun (x : Sl) => Sl.v x
abbrev r79 : Int × Int → Value := fun (x : Int × Int) => .tuple #[.int .u64 x.1, .int .i64 x.2]
abbrev r80 : List Value × Int → Value := fun (x : List Value × Int) => .tuple #[aggv x.1, .int .i64 x.2]
abbrev r81 : Sl × Int → Value := fun (x : Sl × Int) => .tuple #[Sl.v x.1, .int .i64 x.2]
abbrev r82 : Sl → Value := fun (x : Sl) => Sl.v x
abbrev r83 : Sl → Value := fun (x : Sl) => Sl.v x
abbrev r84 : Sl → Value := fun (x : Sl) => Sl.v x
abbrev r85 : Int → Value := fun (x : Int) => .int .u64 x
abbrev r86 : Int → Value := fun (x : Int) => .int .u64 x
abbrev r87 : List Value × Int → Value := fun (x : List Value × Int) => .tuple #[aggv x.1, .int .u64 x.2]
/-- dowser/dowserlaw04.WalRoom -/
def s3 (K : Bool → World → Prop) (p0 : Int) (p1 : Sl) (w : World) : Prop :=
  cR Try.prog 13 r13 #[] w fun x1 w2 =>
  jn (J := Bool → World → Prop) (fun J4 =>
    ifB (!x1) (
      J4 true w2) (
      newA 5 29 [Value.int .i64 0, Sl.v p1, Value.int .i64 0, Value.int .u64 0, Value.int .i64 0] w2 fun b5 w6 =>
      cR Try.prog 14 r14 #[.int .i64 p0, Sl.v ⟨some ⟨b5, 0, none⟩, 1, 1⟩] w6 fun x7 w8 =>
      J4 (!x7) w8)) fun s9 w10 =>
  ifB s9 (
    cR Try.prog 13 r13 #[] w10 fun x15 w16 =>
    K x15 w16) (
    cR Try.prog 15 r15 #[.int .i64 p0] w10 fun x17 w18 =>
    cR Try.prog 16 r16 #[.pointer x17.1, .int .i64 0, .int .i64 p0] w18 fun x19 w20 =>
    jn (J := Bool → World → Prop) (fun J22 =>
      ifB (!decide (x19.2.2 = 0)) (
        J22 true w20) (
        cR Try.prog 17 r17 #[.pointer x19.1] w20 fun x23 w24 =>
        J22 (!decide (x23 = (IntKind.i64.wrap ((IntKind.i64.wrap (p0 - 2)) * 512)))) w24)) fun s25 w26 =>
    ifB s25 (
      K false w26) (
      LoopS (σ := Int) (fun next35 s33 w34 =>
        ifB (decide (s33 < (p1.len : Int))) (
          ix p1 1 s33 fun a43 =>
          ldL a43 w34 fun x45 =>
          b2s x45 w34 fun x46 =>
          cR Try.prog 18 r18 #[str x46] w34 fun x47 w48 =>
          cR Try.prog 17 r17 #[.pointer x19.1] w48 fun x49 w50 =>
          cR Try.prog 19 r19 #[.pointer x17.1] w50 fun x51 w52 =>
          newB 39 [Sl.v x45] w52 fun b53 w54 =>
          cR Try.prog 20 r20 #[.pointer x19.1, Sl.v ⟨some ⟨b53, 0, none⟩, 1, 1⟩] w54 fun x55 w56 =>
          jn (J := Bool → World → Prop) (fun J58 =>
            ifB (!((decide (x55 = 0)) == (decide ((x47.length : Int) ≤ x49)))) (
              J58 true w56) (
              jn (J := Bool → World → Prop) (fun J60 =>
                ifB (decide (x55 = 0)) (
                  cR Try.prog 17 r17 #[.pointer x19.1] w56 fun x61 w62 =>
                  J60 (!decide (x61 = (IntKind.i64.wrap (x49 - (x47.length : Int))))) w62) (
                  J60 false w56)) fun s63 w64 =>
              J58 s63 w64)) fun s78 w79 =>
          jn (J := Bool → World → Prop) (fun J91 =>
            ifB s78 (
              J91 true w79) (
              jn (J := Bool → World → Prop) (fun J93 =>
                ifB (!decide (x55 = 0)) (
                  jn (J := Bool → World → Prop) (fun J95 =>
                    ifB (!decide (x55 = 40)) (
                      J95 true w79) (
                      cR Try.prog 17 r17 #[.pointer x19.1] w79 fun x96 w97 =>
                      J95 (!decide (x96 = x49)) w97)) fun s98 w99 =>
                  jn (J := Bool → World → Prop) (fun J111 =>
                    ifB s98 (
                      J111 true w99) (
                      cR Try.prog 19 r19 #[.pointer x17.1] w99 fun x112 w113 =>
                      J111 (!decide (x112 = x51)) w113)) fun s114 w115 =>
                  J93 s114 w115) (
                  J93 false w79)) fun s129 w130 =>
              J91 s129 w130)) fun s141 w142 =>
          ifB s141 (
            K false w142) (
            next35 (IntKind.i64.wrap (s33 + 1)) w142)) (
          cR Try.prog 21 r21 #[.pointer x19.1] w34 fun x155 w156 =>
          jn (J := Bool → World → Prop) (fun J158 =>
            ifB (decide (x155 = 0)) (
              cR Try.prog 17 r17 #[.pointer x19.1] w156 fun x159 w160 =>
              J158 (decide (x159 = (IntKind.i64.wrap ((IntKind.i64.wrap (p0 - 2)) * 512)))) w160) (
              J158 false w156)) fun s161 w162 =>
          jn (J := Bool → World → Prop) (fun J167 =>
            ifB s161 (
              cR Try.prog 22 r22 #[.pointer x19.1] w162 fun x168 w169 =>
              J167 (decide (x168 = 0)) w169) (
              J167 false w162)) fun s170 w171 =>
          jn (J := Bool → World → Prop) (fun J175 =>
            ifB s170 (
              cR Try.prog 23 r23 #[.pointer x17.1] w171 fun x176 w177 =>
              J175 (decide (x176 = 0)) w177) (
              J175 false w171)) fun s178 w179 =>
          K s178 w179)) 0 w26))
/-- dowser/dowserlaw04.WalPlays -/
def s4 (K : Bool → World → Prop) (p0 : Int) (p1 : Bool) (p2 : Sl) (w : World) : Prop :=
  cR Try.prog 13 r13 #[] w fun x1 w2 =>
  jn (J := Bool → World → Prop) (fun J4 =>
    ifB (!x1) (
      J4 true w2) (
      cR Try.prog 14 r14 #[.int .i64 p0, Sl.v p2] w2 fun x5 w6 =>
      J4 (!x5) w6)) fun s7 w8 =>
  ifB s7 (
    cR Try.prog 13 r13 #[] w8 fun x14 w15 =>
    K x14 w15) (
    jn (J := Int → World → Prop) (fun J16 =>
      ifB p1 (
        J16 2 w8) (
        J16 0 w8)) fun s18 w19 =>
    cR Try.prog 15 r15 #[.int .i64 (IntKind.i64.wrap (p0 + s18))] w19 fun x23 w24 =>
    cR Try.prog 24 r24 #[.int .i64 (IntKind.i64.wrap (p0 + s18))] w24 fun x25 w26 =>
    rq (x25.length = 5) <|
    rq ((x25 ++ ([.int .i64 s18] : List Value) ++ ([Value.int .i64 0] : List Value) ++ ([Value.int .u64 0] : List Value) ++ ([str []] : List Value) ++ ([Value.int .i64 0] : List Value) ++ ([Value.bool false] : List Value)).length = 11) <|
    newB 54 (([.pointer x23.1] : List Value) ++ ([Value.pointer none] : List Value) ++ (x25 ++ ([.int .i64 s18] : List Value) ++ ([Value.int .i64 0] : List Value) ++ ([Value.int .u64 0] : List Value) ++ ([str []] : List Value) ++ ([Value.int .i64 0] : List Value) ++ ([Value.bool false] : List Value))) w26 fun b27 w28 =>
    cR Try.prog 25 r25 #[.pointer (some ⟨b27, 0, none⟩), .int .i64 p0] w28 fun x29 w30 =>
    ifB (!x29) (
      K false w30) (
      LoopS (σ := Int) (fun next34 s32 w33 =>
        ifB (decide (s32 < (p2.len : Int))) (
          ix p2 5 s32 fun a42 =>
          ldA 5 a42 w33 fun x44 =>
          newA 5 29 x44 w33 fun b45 w46 =>
          ldA 5 ⟨b45, 0, none⟩ w46 fun x47 =>
          cR Try.prog 26 r26 #[.pointer (some ⟨b27, 0, none⟩), aggv x47, .int .i64 p0] w46 fun x48 w49 =>
          ifB (!x48) (
            K false w49) (
            next34 (IntKind.i64.wrap (s32 + 1)) w49)) (
          ldP (Addr.add ⟨b27, 0, none⟩ 0) w33 fun x51 =>
          cR Try.prog 27 r27 #[.pointer x51] w33 fun x52 w53 =>
          st1 (Addr.add (Addr.add (Addr.add ⟨b27, 0, none⟩ 2) 0) 4) (.bool false) w53 fun w54 =>
          LoopS (σ := Int) (fun next57 s55 w56 =>
            ifB (decide (s55 < (IntKind.i64.wrap (p0 + s18)))) (
              ldP (Addr.add ⟨b27, 0, none⟩ 0) w56 fun x62 =>
              cR Try.prog 28 r28 #[.pointer x62, .int .i64 s55] w56 fun x63 w64 =>
              drw w64 fun w65 =>
              jn (J := Bool → World → Prop) (fun J67 =>
                ifB (!decide (x63.2 = 0)) (
                  J67 true w65) (
                  b2s x63.1 w64 fun x69 =>
                  ldA 5 (Addr.add (Addr.add ⟨b27, 0, none⟩ 2) 0) w64 fun x70 =>
                  cR Try.prog 29 r29 #[aggv x70, .int .i64 s55] w65 fun x71 w72 =>
                  rq (Ext w64 w72) <|
                  J67 (!decide (x69 = x71)) w72)) fun s74 w75 =>
              ifB s74 (
                K false w75) (
                next57 (IntKind.i64.wrap (s55 + 1)) w75)) (
              K true w56)) 0 w54)) 0 w30))
/-- dowser/dowserlaw03.DiskSure -/
def s5 (K : Bool → World → Prop) (p0 : Sl) (p1 : Sl) (p2 : List Value) (w : World) : Prop :=
  newB 27 p2 w fun b1 w2 =>
  cR Try.prog 30 r30 #[] w2 fun x3 w4 =>
  jn (J := Bool → World → Prop) (fun J6 =>
    ifB (!x3) (
      J6 true w4) (
      cR Try.prog 31 r31 #[.int .i64 1, Sl.v p0] w4 fun x7 w8 =>
      J6 (!x7) w8)) fun s9 w10 =>
  jn (J := Bool → World → Prop) (fun J16 =>
    ifB s9 (
      J16 true w10) (
      cR Try.prog 31 r31 #[.int .i64 1, Sl.v p1] w10 fun x17 w18 =>
      J16 (!x17) w18)) fun s19 w20 =>
  ifB s19 (
    cR Try.prog 30 r30 #[] w20 fun x26 w27 =>
    K x26 w27) (
    cR Try.prog 15 r15 #[.int .i64 8] w20 fun x28 w29 =>
    newB 63 [str [], str [], str [], str [], str [], str [], str [], str []] w29 fun b30 w31 =>
    LoopS (σ := Int) (fun next34 s32 w33 =>
      ifB (decide (s32 < 8)) (
        mkS 5 1 1 (Value.int .u8 0) 512 512 w33 fun x44 w43 =>
        b2s x44 w43 fun x45 =>
        ixA 8 1 ⟨b30, 0, none⟩ s32 fun a46 =>
        st1 a46 (str x45) w43 fun w48 =>
        next34 (IntKind.i64.wrap (s32 + 1)) w48) (
        LoopS (σ := Int) (fun next51 s49 w50 =>
          ifB (decide (s49 < (p0.len : Int))) (
            ix p0 9 s49 fun a60 =>
            ldA 9 a60 w50 fun x62 =>
            newA 9 65 x62 w50 fun b63 w64 =>
            ldI .i64 (Addr.add ⟨b63, 0, none⟩ 1) w64 fun x65 =>
            ldI .u8 (Addr.add ⟨b63, 0, none⟩ 2) w64 fun x66 =>
            ldS (Addr.add ⟨b63, 0, none⟩ 3) w64 fun x67 =>
            cR Try.prog 32 r32 #[.int .u8 x66, str x67] w64 fun x68 w69 =>
            cR Try.prog 33 r33 #[.pointer x28.1, .int .i64 (IntKind.i64.wrap (Int.tmod (IntKind.u64.wrap x65) 8)), Sl.v x68] w69 fun x70 w71 =>
            ifB (!decide (x70 = 0)) (
              K false w71) (
              b2s x68 w71 fun x73 =>
              ixA 8 1 ⟨b30, 0, none⟩ (IntKind.i64.wrap (Int.tmod (IntKind.u64.wrap x65) 8)) fun a74 =>
              st1 a74 (str x73) w71 fun w76 =>
              next51 (IntKind.i64.wrap (s49 + 1)) w76)) (
            cR Try.prog 34 r34 #[.pointer x28.1] w50 fun x77 w78 =>
            ifB (!decide (x77 = 0)) (
              K false w78) (
              newB 69 [Value.int .i64 0, Value.int .i64 0, Value.int .i64 0, Value.int .i64 0, Value.int .i64 0, Value.int .i64 0, Value.int .i64 0, Value.int .i64 0] w78 fun b80 w81 =>
              LoopS (σ := Int) (fun next84 s82 w83 =>
                ifB (decide (s82 < (p1.len : Int))) (
                  ix p1 9 s82 fun a93 =>
                  ldA 9 a93 w83 fun x95 =>
                  newA 9 65 x95 w83 fun b96 w97 =>
                  ldI .i64 (Addr.add ⟨b96, 0, none⟩ 1) w97 fun x98 =>
                  ldI .u8 (Addr.add ⟨b96, 0, none⟩ 2) w97 fun x99 =>
                  ldS (Addr.add ⟨b96, 0, none⟩ 3) w97 fun x100 =>
                  cR Try.prog 32 r32 #[.int .u8 x99, str x100] w97 fun x101 w102 =>
                  cR Try.prog 33 r33 #[.pointer x28.1, .int .i64 (IntKind.i64.wrap (Int.tmod (IntKind.u64.wrap x98) 8)), Sl.v x101] w102 fun x103 w104 =>
                  ifB (!decide (x103 = 0)) (
                    K false w104) (
                    ixA 8 1 ⟨b80, 0, none⟩ (IntKind.i64.wrap (Int.tmod (IntKind.u64.wrap x98) 8)) fun a106 =>
                    st1 a106 (.int .i64 1) w104 fun w108 =>
                    next84 (IntKind.i64.wrap (s82 + 1)) w108)) (
                  ldA 3 ⟨b1, 0, none⟩ w83 fun x109 =>
                  cR Try.prog 35 r35 #[.pointer x28.1, aggv x109] w83 fun x110 w111 =>
                  cR Try.prog 27 r27 #[.pointer x28.1] w111 fun x112 w113 =>
                  LoopS (σ := Int) (fun next116 s114 w115 =>
                    ifB (decide (s114 < 8)) (
                      cR Try.prog 28 r28 #[.pointer x28.1, .int .i64 s114] w115 fun x122 w123 =>
                      drw w123 fun w124 =>
                      jn (J := Bool → World → Prop) (fun J126 =>
                        ifB (!decide (x122.2 = 0)) (
                          J126 true w124) (
                          ixA 8 1 ⟨b80, 0, none⟩ s114 fun a128 =>
                          ldI .i64 a128 w123 fun x130 =>
                          jn (J := Bool → World → Prop) (fun J131 =>
                            ifB (decide (x130 = 0)) (
                              b2s x122.1 w123 fun x133 =>
                              ixA 8 1 ⟨b30, 0, none⟩ s114 fun a134 =>
                              ldS a134 w123 fun x136 =>
                              J131 (!decide (x133 = x136)) w124) (
                              J131 false w124)) fun s137 w138 =>
                          J126 s137 w138)) fun s148 w149 =>
                      ifB s148 (
                        K false w149) (
                        next116 (IntKind.i64.wrap (s114 + 1)) w149)) (
                      cR Try.prog 23 r23 #[.pointer x28.1] w115 fun x159 w160 =>
                      K (decide (x159 = 0)) w160)) 0 w113)) 0 w81))) 0 w33)) 0 w31)
/-- dowser/dowserlaw03.DiskWhole -/
def s6 (K : Bool → World → Prop) (p0 : Sl) (p1 : Bool) (w : World) : Prop :=
  cR Try.prog 30 r30 #[] w fun x1 w2 =>
  jn (J := Bool → World → Prop) (fun J4 =>
    ifB (!x1) (
      J4 true w2) (
      cR Try.prog 31 r31 #[.int .i64 1, Sl.v p0] w2 fun x5 w6 =>
      J4 (!x5) w6)) fun s7 w8 =>
  ifB s7 (
    cR Try.prog 30 r30 #[] w8 fun x13 w14 =>
    K x13 w14) (
    cR Try.prog 15 r15 #[.int .i64 8] w8 fun x15 w16 =>
    cR Try.prog 36 r36 #[.pointer x15.1] w16 fun x17 w18 =>
    LoopS (σ := Option Addr × Int) (fun next21 s19 w20 =>
      ifB (decide (s19.2 < (p0.len : Int))) (
        jn (J := Option Addr → World → Prop) (fun J29 =>
          ix p0 9 s19.2 fun a30 =>
          ldA 9 a30 w20 fun x32 =>
          newA 9 65 x32 w20 fun b33 w34 =>
          drw w34 fun w35 =>
          ldI .i64 (Addr.add ⟨b33, 0, none⟩ 1) w34 fun x37 =>
          ldI .u8 (Addr.add ⟨b33, 0, none⟩ 2) w34 fun x38 =>
          ldS (Addr.add ⟨b33, 0, none⟩ 3) w34 fun x39 =>
          cR Try.prog 32 r32 #[.int .u8 x38, str x39] w35 fun x40 w41 =>
          rq (Ext w34 w41) <|
          cR Try.prog 33 r33 #[.pointer x15.1, .int .i64 (IntKind.i64.wrap (Int.tmod (IntKind.u64.wrap x37) 8)), Sl.v x40] w41 fun x43 w44 =>
          ifB (!decide (x43 = 0)) (
            K false w44) (
            ifB (decide ((Int.tmod s19.2 5) = 4)) (
              cR Try.prog 34 r34 #[.pointer x15.1] w44 fun x47 w48 =>
              ifB (!decide (x47 = 0)) (
                K false w48) (
                cR Try.prog 36 r36 #[.pointer x15.1] w48 fun x50 w51 =>
                J29 x50 w51)) (
              J29 s19.1 w44))) fun s52 w53 =>
        next21 (s52, (IntKind.i64.wrap (s19.2 + 1))) w53) (
        cR Try.prog 36 r36 #[.pointer x15.1] w20 fun x62 w63 =>
        newA 3 27 [Value.int .i64 0, Value.int .u64 0, Value.int .i64 0] w63 fun b64 w65 =>
        jn (J := Option Addr → World → Prop) (fun J66 =>
          ifB p1 (
            st1 (Addr.add ⟨b64, 0, none⟩ 1) (.int .u64 18446744073709551615) w65 fun w68 =>
            J66 x62 w68) (
            J66 s19.1 w65)) fun s69 w70 =>
        ldA 3 ⟨b64, 0, none⟩ w70 fun x74 =>
        cR Try.prog 35 r35 #[.pointer x15.1, aggv x74] w70 fun x75 w76 =>
        cR Try.prog 28 r28 #[.pointer x15.1, .int .i64 0] w76 fun x77 w78 =>
        ifB (!decide (x77.2 = 6)) (
          K false w78) (
          cR Try.prog 27 r27 #[.pointer x15.1] w78 fun x80 w81 =>
          LoopS (σ := Int) (fun next84 s82 w83 =>
            ifB (decide (s82 < 8)) (
              cR Try.prog 28 r28 #[.pointer x15.1, .int .i64 s82] w83 fun x89 w90 =>
              cR Try.prog 28 r28 #[.pointer s69, .int .i64 s82] w90 fun x91 w92 =>
              jn (J := Bool → World → Prop) (fun J94 =>
                ifB (!decide (x91.2 = 0)) (
                  J94 true w92) (
                  b2s x89.1 w92 fun x95 =>
                  b2s x91.1 w92 fun x96 =>
                  J94 (!decide (x95 = x96)) w92)) fun s97 w98 =>
              ifB s97 (
                K false w98) (
                next84 (IntKind.i64.wrap (s82 + 1)) w98)) (
              K true w83)) 0 w81))) (x17, 0) w18)
/-- dowser/dowserlaw03.DiskFalls -/
def s7 (K : Bool → World → Prop) (p0 : Int) (p1 : Int) (p2 : Int) (w : World) : Prop :=
  cR Try.prog 30 r30 #[] w fun x1 w2 =>
  jn (J := Bool → World → Prop) (fun J4 =>
    ifB (!x1) (
      J4 true w2) (
      J4 (decide (p1 < 0)) w2)) fun s5 w6 =>
  jn (J := Bool → World → Prop) (fun J12 =>
    ifB s5 (
      J12 true w6) (
      J12 (decide (40 < p1)) w6)) fun s13 w14 =>
  ifB s13 (
    cR Try.prog 30 r30 #[] w14 fun x20 w21 =>
    K x20 w21) (
    cR Try.prog 15 r15 #[.int .i64 4] w14 fun x22 w23 =>
    newA 3 27 [.int .i64 p0, .int .u64 p2, Value.int .i64 0] w23 fun b24 w25 =>
    cR Try.prog 37 r37 #[.pointer x22.1, Sl.v ⟨some ⟨b24, 0, none⟩, 1, 1⟩] w25 fun x26 w27 =>
    LoopS (σ := Int) (fun next30 s28 w29 =>
      ifB (decide (s28 < p1)) (
        jn (J := Int → World → Prop) (fun J37 =>
          ifB (decide ((Int.tmod s28 3) = 2)) (
            cR Try.prog 34 r34 #[.pointer x22.1] w29 fun x39 w40 =>
            J37 x39 w40) (
            cR Try.prog 32 r32 #[.int .u8 (IntKind.u8.wrap s28), str []] w29 fun x41 w42 =>
            cR Try.prog 33 r33 #[.pointer x22.1, .int .i64 (Int.tmod s28 4), Sl.v x41] w42 fun x43 w44 =>
            J37 x43 w44)) fun s45 w46 =>
        jn (J := Bool → World → Prop) (fun J55 =>
          ifB (!((decide (s45 = 6)) == (decide (s28 = p0)))) (
            J55 true w46) (
            J55 (!((decide (s45 = 0)) == (!decide (s28 = p0)))) w46)) fun s56 w57 =>
        jn (J := Bool → World → Prop) (fun J66 =>
          ifB s56 (
            J66 true w57) (
            cR Try.prog 38 r38 #[.pointer x22.1] w57 fun x67 w68 =>
            J66 (!(x67 == (decide (s28 = p0)))) w68)) fun s69 w70 =>
        ifB s69 (
          K false w70) (
          cR Try.prog 27 r27 #[.pointer x22.1] w70 fun x78 w79 =>
          next30 (IntKind.i64.wrap (s28 + 1)) w79)) (
        cR Try.prog 19 r19 #[.pointer x22.1] w29 fun x86 w87 =>
        K (decide (x86 = p1)) w87)) 0 w27)
/-- dowser/dowserlaw03.DiskPlays -/
def s8 (K : Bool → World → Prop) (p0 : Int) (p1 : Sl) (w : World) : Prop :=
  cR Try.prog 30 r30 #[] w fun x1 w2 =>
  jn (J := Bool → World → Prop) (fun J4 =>
    ifB (!x1) (
      J4 true w2) (
      cR Try.prog 31 r31 #[.int .i64 p0, Sl.v p1] w2 fun x5 w6 =>
      J4 (!x5) w6)) fun s7 w8 =>
  ifB s7 (
    cR Try.prog 30 r30 #[] w8 fun x13 w14 =>
    K x13 w14) (
    cR Try.prog 15 r15 #[.int .i64 p0] w8 fun x15 w16 =>
    jn (J := Bool → World → Prop) (fun J18 =>
      ifB (!decide (x15.2 = 0)) (
        J18 true w16) (
        cR Try.prog 39 r39 #[.pointer x15.1] w16 fun x19 w20 =>
        J18 (!decide (x19 = p0)) w20)) fun s21 w22 =>
    ifB s21 (
      K false w22) (
      cR Try.prog 24 r24 #[.int .i64 p0] w22 fun x28 w29 =>
      newA 5 49 x28 w29 fun b30 w31 =>
      LoopS (σ := Int) (fun next34 s32 w33 =>
        ifB (decide (s32 < (p1.len : Int))) (
          ix p1 9 s32 fun a42 =>
          ldA 9 a42 w33 fun x44 =>
          newA 9 65 x44 w33 fun b45 w46 =>
          ldA 5 ⟨b30, 0, none⟩ w46 fun x47 =>
          ldA 9 ⟨b45, 0, none⟩ w46 fun x48 =>
          cR Try.prog 40 r40 #[.pointer x15.1, aggv x47, aggv x48] w46 fun x49 w50 =>
          newA 5 49 x49.1 w50 fun b51 w52 =>
          ldA 5 ⟨b51, 0, none⟩ w52 fun x53 =>
          stA 5 ⟨b30, 0, none⟩ x53 w52 fun w54 =>
          drw w54 fun w55 =>
          jn (J := Bool → World → Prop) (fun J57 =>
            ifB (!x49.2) (
              J57 true w55) (
              ldB (Addr.add ⟨b30, 0, none⟩ 4) w54 fun x59 =>
              cR Try.prog 38 r38 #[.pointer x15.1] w55 fun x60 w61 =>
              rq (Ext w54 w61) <|
              J57 (!(x60 == x59)) w61)) fun s63 w64 =>
          jn (J := Bool → World → Prop) (fun J73 =>
            ifB s63 (
              J73 true w64) (
              ldL (Addr.add ⟨b30, 0, none⟩ 1) w54 fun x75 =>
              cR Try.prog 23 r23 #[.pointer x15.1] w64 fun x76 w77 =>
              rq (Ext w54 w77) <|
              J73 (!decide (x76 = (x75.len : Int))) w77)) fun s79 w80 =>
          jn (J := Bool → World → Prop) (fun J89 =>
            ifB s79 (
              J89 true w80) (
              ldI .i64 (Addr.add ⟨b30, 0, none⟩ 3) w54 fun x91 =>
              cR Try.prog 19 r19 #[.pointer x15.1] w80 fun x92 w93 =>
              rq (Ext w54 w93) <|
              J89 (!decide (x92 = x91)) w93)) fun s95 w96 =>
          ifB s95 (
            K false w96) (
            next34 (IntKind.i64.wrap (s32 + 1)) w96)) (
          cR Try.prog 27 r27 #[.pointer x15.1] w33 fun x112 w113 =>
          st1 (Addr.add ⟨b30, 0, none⟩ 4) (.bool false) w113 fun w114 =>
          LoopS (σ := Int) (fun next117 s115 w116 =>
            ifB (decide (s115 < p0)) (
              cR Try.prog 28 r28 #[.pointer x15.1, .int .i64 s115] w116 fun x123 w124 =>
              drw w124 fun w125 =>
              jn (J := Bool → World → Prop) (fun J127 =>
                ifB (!decide (x123.2 = 0)) (
                  J127 true w125) (
                  b2s x123.1 w124 fun x129 =>
                  ldA 5 ⟨b30, 0, none⟩ w124 fun x130 =>
                  cR Try.prog 29 r29 #[aggv x130, .int .i64 s115] w125 fun x131 w132 =>
                  rq (Ext w124 w132) <|
                  J127 (!decide (x129 = x131)) w132)) fun s134 w135 =>
              ifB s134 (
                K false w135) (
                next117 (IntKind.i64.wrap (s115 + 1)) w135)) (
              K true w116)) 0 w114)) 0 w31))
/-- dowser/dowserlaw03.DiskArgs -/
def s9 (K : Bool → World → Prop) (p0 : Int) (p1 : Int) (w : World) : Prop :=
  cR Try.prog 30 r30 #[] w fun x1 w2 =>
  ifB (!x1) (
    K false w2) (
    cR Try.prog 15 r15 #[.int .i64 p0] w2 fun x4 w5 =>
    cR Try.prog 28 r28 #[.pointer none, .int .i64 p1] w5 fun x6 w7 =>
    jn (J := Bool → World → Prop) (fun J9 =>
      ifB (!decide (x6.2 = 6)) (
        J9 true w7) (
        J9 (!decide ((x6.1.len : Int) = 0)) w7)) fun s10 w11 =>
    jn (J := Bool → World → Prop) (fun J19 =>
      ifB s10 (
        J19 true w11) (
        cR Try.prog 32 r32 #[.int .u8 1, str []] w11 fun x20 w21 =>
        cR Try.prog 33 r33 #[.pointer none, .int .i64 p1, Sl.v x20] w21 fun x22 w23 =>
        J19 (!decide (x22 = 6)) w23)) fun s24 w25 =>
    jn (J := Bool → World → Prop) (fun J33 =>
      ifB s24 (
        J33 true w25) (
        cR Try.prog 34 r34 #[.pointer none] w25 fun x34 w35 =>
        J33 (!decide (x34 = 6)) w35)) fun s36 w37 =>
    jn (J := Bool → World → Prop) (fun J45 =>
      ifB s36 (
        J45 true w37) (
        cR Try.prog 27 r27 #[.pointer none] w37 fun x46 w47 =>
        J45 x46 w47)) fun s48 w49 =>
    jn (J := Bool → World → Prop) (fun J57 =>
      ifB s48 (
        J57 true w49) (
        cR Try.prog 38 r38 #[.pointer none] w49 fun x58 w59 =>
        J57 (!x58) w59)) fun s60 w61 =>
    jn (J := Bool → World → Prop) (fun J69 =>
      ifB s60 (
        J69 true w61) (
        cR Try.prog 23 r23 #[.pointer none] w61 fun x70 w71 =>
        J69 (!decide (x70 = 0)) w71)) fun s72 w73 =>
    jn (J := Bool → World → Prop) (fun J81 =>
      ifB s72 (
        J81 true w73) (
        cR Try.prog 19 r19 #[.pointer none] w73 fun x82 w83 =>
        J81 (!decide (x82 = 0)) w83)) fun s84 w85 =>
    jn (J := Bool → World → Prop) (fun J93 =>
      ifB s84 (
        J93 true w85) (
        cR Try.prog 39 r39 #[.pointer none] w85 fun x94 w95 =>
        J93 (!decide (x94 = 0)) w95)) fun s96 w97 =>
    jn (J := Bool → World → Prop) (fun J105 =>
      ifB s96 (
        J105 true w97) (
        cR Try.prog 36 r36 #[.pointer none] w97 fun x106 w107 =>
        J105 (!x106.isNone) w107)) fun s108 w109 =>
    ifB s108 (
      K false w109) (
      cR Try.prog 37 r37 #[.pointer none, Sl.v nilSl] w109 fun x117 w118 =>
      cR Try.prog 35 r35 #[.pointer none, aggv [Value.int .i64 0, Value.int .u64 0, Value.int .i64 0]] w118 fun x119 w120 =>
      jn (J := Bool → World → Prop) (fun J122 =>
        ifB (decide (p0 < 1)) (
          J122 true w120) (
          J122 (decide (4096 < p0)) w120)) fun s123 w124 =>
      ifB s123 (
        jn (J := Bool → World → Prop) (fun J132 =>
          ifB (x4.1.isNone) (
            J132 (decide (x4.2 = 1)) w124) (
            J132 false w124)) fun s133 w134 =>
        K s133 w134) (
        cR Try.prog 28 r28 #[.pointer x4.1, .int .i64 p1] w124 fun x138 w139 =>
        jn (J := Bool → World → Prop) (fun J141 =>
          ifB (decide (p1 < 0)) (
            J141 true w139) (
            J141 (decide (p0 ≤ p1)) w139)) fun s142 w143 =>
        ifB s142 (
          jn (J := Bool → World → Prop) (fun J152 =>
            ifB (decide (x4.2 = 0)) (
              J152 (decide (x138.2 = 2)) w143) (
              J152 false w143)) fun s153 w154 =>
          jn (J := Bool → World → Prop) (fun J160 =>
            ifB s153 (
              J160 (decide ((x138.1.len : Int) = 0)) w154) (
              J160 false w154)) fun s161 w162 =>
          jn (J := Bool → World → Prop) (fun J167 =>
            ifB s161 (
              cR Try.prog 32 r32 #[.int .u8 1, str []] w162 fun x168 w169 =>
              cR Try.prog 33 r33 #[.pointer x4.1, .int .i64 p1, Sl.v x168] w169 fun x170 w171 =>
              J167 (decide (x170 = 2)) w171) (
              J167 false w162)) fun s172 w173 =>
          jn (J := Bool → World → Prop) (fun J177 =>
            ifB s172 (
              cR Try.prog 19 r19 #[.pointer x4.1] w173 fun x178 w179 =>
              J177 (decide (x178 = 0)) w179) (
              J177 false w173)) fun s180 w181 =>
          K s180 w181) (
          drw w143 fun w191 =>
          jn (J := Bool → World → Prop) (fun J193 =>
            ifB (decide (x4.2 = 0)) (
              J193 (decide (x138.2 = 0)) w191) (
              J193 false w191)) fun s195 w196 =>
          jn (J := Bool → World → Prop) (fun J202 =>
            ifB s195 (
              b2s x138.1 w143 fun x204 =>
              mkS 5 1 1 (Value.int .u8 0) 512 512 w196 fun x207 w206 =>
              b2s x207 w206 fun x209 =>
              J202 (decide (x204 = x209)) w206) (
              J202 false w196)) fun s211 w212 =>
          jn (J := Bool → World → Prop) (fun J218 =>
            ifB s211 (
              rq ((0 : Int) ≤ 1 ∧ (1 : Int) ≤ (x138.1.len : Int)) <|
              cR Try.prog 33 r33 #[.pointer x4.1, .int .i64 p1, Sl.v (x138.1.cut 1 1 (x138.1.len : Int) x138.1.cap)] w212 fun x220 w221 =>
              J218 (decide (x220 = 1)) w221) (
              J218 false w212)) fun s222 w223 =>
          jn (J := Bool → World → Prop) (fun J228 =>
            ifB s222 (
              cR Try.prog 33 r33 #[.pointer x4.1, .int .i64 p1, Sl.v nilSl] w223 fun x230 w231 =>
              J228 (decide (x230 = 1)) w231) (
              J228 false w223)) fun s232 w233 =>
          jn (J := Bool → World → Prop) (fun J237 =>
            ifB s232 (
              cR Try.prog 19 r19 #[.pointer x4.1] w233 fun x239 w240 =>
              J237 (decide (x239 = 0)) w240) (
              J237 false w233)) fun s241 w242 =>
          K s241 w242))))
/-- dowser/dowserlaw04.WalOpens -/
def s10 (K : Bool → World → Prop) (p0 : List Value) (p1 : Sl) (p2 : Sl) (w : World) : Prop :=
  newB 81 p0 w fun b1 w2 =>
  cR Try.prog 13 r13 #[] w2 fun x3 w4 =>
  jn (J := Bool → World → Prop) (fun J6 =>
    ifB (!x3) (
      J6 true w4) (
      J6 (decide (1500 < (p1.len : Int))) w4)) fun s7 w8 =>
  jn (J := Bool → World → Prop) (fun J14 =>
    ifB s7 (
      J14 true w8) (
      newA 5 29 [Value.int .i64 0, Sl.v p2, Value.int .i64 0, Value.int .u64 0, Value.int .i64 0] w8 fun b15 w16 =>
      cR Try.prog 14 r14 #[.int .i64 3, Sl.v ⟨some ⟨b15, 0, none⟩, 1, 1⟩] w16 fun x17 w18 =>
      J14 (!x17) w18)) fun s19 w20 =>
  ifB s19 (
    cR Try.prog 13 r13 #[] w20 fun x26 w27 =>
    K x26 w27) (
    LoopS (σ := List UInt8 × Int) (fun next30 s28 w29 =>
      ifB (decide (s28.2 < (p2.len : Int))) (
        ix p2 1 s28.2 fun a38 =>
        ldL a38 w29 fun x40 =>
        b2s x40 w29 fun x41 =>
        cR Try.prog 18 r18 #[str x41] w29 fun x42 w43 =>
        rq (s28.1.length + x42.length ≤ 9223372036854775807) <|
        next30 ((s28.1 ++ x42), (IntKind.i64.wrap (s28.2 + 1))) w43) (
        drw w29 fun w44 =>
        rq ((0 : Int) ≤ 0 ∧ (0 : Int) ≤ (IntKind.i64.wrap (Int.tdiv (p1.len : Int) 2)) ∧ ((IntKind.i64.wrap (Int.tdiv (p1.len : Int) 2)) : Int) ≤ (p1.cap : Int)) <|
        b2s (p1.cut 1 0 (IntKind.i64.wrap (Int.tdiv (p1.len : Int) 2)) p1.cap) w29 fun x46 =>
        rq (x46.length + s28.1.length ≤ 9223372036854775807) <|
        rq ((0 : Int) ≤ (IntKind.i64.wrap (Int.tdiv (p1.len : Int) 2)) ∧ ((IntKind.i64.wrap (Int.tdiv (p1.len : Int) 2)) : Int) ≤ (p1.len : Int)) <|
        b2s (p1.cut 1 (IntKind.i64.wrap (Int.tdiv (p1.len : Int) 2)) (p1.len : Int) p1.cap) w29 fun x47 =>
        rq ((x46 ++ s28.1).length + x47.length ≤ 9223372036854775807) <|
        LoopS (σ := List UInt8) (fun next50 s48 w49 =>
          ifB (decide ((s48.length : Int) < 1536)) (
            rq (s48.length + [0].length ≤ 9223372036854775807) <|
            next50 (s48 ++ [0]) w49) (
            cR Try.prog 15 r15 #[.int .i64 5] w49 fun x54 w55 =>
            cR Try.prog 24 r24 #[.int .i64 5] w55 fun x56 w57 =>
            newA 5 49 x56 w57 fun b58 w59 =>
            LoopS (σ := Int) (fun next62 s60 w61 =>
              ifB (decide (s60 < 5)) (
                rq ((0 : Int) ≤ (IntKind.i64.wrap ((mx 0 (IntKind.i64.wrap (s60 - 2))) * 512)) ∧ ((IntKind.i64.wrap ((mx 0 (IntKind.i64.wrap (s60 - 2))) * 512)) : Int) ≤ (s48.length : Int) ∧ ((s48.length : Int) : Int) ≤ (s48.length : Int)) <|
                rq ((0 : Int) ≤ 0 ∧ (0 : Int) ≤ 512 ∧ (512 : Int) ≤ (((s48.take (Int.toNat (s48.length : Int))).drop (Int.toNat (IntKind.i64.wrap ((mx 0 (IntKind.i64.wrap (s60 - 2))) * 512)))).length : Int)) <|
                jn (J := List UInt8 → World → Prop) (fun J69 =>
                  ifB (decide (s60 < 2)) (
                    drw w61 fun w71 =>
                    ixA 2 3 ⟨b1, 0, none⟩ s60 fun a73 =>
                    ldI .u64 (Addr.add a73 0) w61 fun x75 =>
                    ixA 2 3 ⟨b1, 0, none⟩ s60 fun a76 =>
                    ldI .u64 (Addr.add a76 1) w61 fun x78 =>
                    cR Try.prog 41 r41 #[.int .u64 x75, .int .u64 x78] w71 fun x79 w80 =>
                    s2b x79 w80 fun x81 w82 =>
                    drw w82 fun w83 =>
                    ixA 2 3 ⟨b1, 0, none⟩ s60 fun a85 =>
                    ldI .u64 (Addr.add a85 0) w82 fun x87 =>
                    ix x81 1 (IntKind.i64.wrap (24 + (IntKind.i64.wrap (Int.tmod x87 24)))) fun a88 =>
                    ldI .u8 a88 w82 fun x90 =>
                    ixA 2 3 ⟨b1, 0, none⟩ s60 fun a91 =>
                    ldI .u8 (Addr.add a91 2) w82 fun x93 =>
                    ix x81 1 (IntKind.i64.wrap (24 + (IntKind.i64.wrap (Int.tmod x87 24)))) fun a94 =>
                    st1 a94 (.int .u8 (xorI .u8 x90 x93)) w83 fun w96 =>
                    b2s x81 w96 fun x97 =>
                    J69 x97 w96) (
                    J69 ((((s48.take (Int.toNat (s48.length : Int))).drop (Int.toNat (IntKind.i64.wrap ((mx 0 (IntKind.i64.wrap (s60 - 2))) * 512)))).take (Int.toNat 512)).drop (Int.toNat 0)) w61)) fun s98 w99 =>
                s2b s98 w99 fun x107 w108 =>
                cR Try.prog 33 r33 #[.pointer x54.1, .int .i64 s60, Sl.v x107] w108 fun x109 w110 =>
                ifB (!decide (x109 = 0)) (
                  K false w110) (
                  ldA 5 ⟨b58, 0, none⟩ w110 fun x112 =>
                  cR Try.prog 42 r42 #[aggv x112, .int .i64 s60, str s98] w110 fun x113 w114 =>
                  newA 5 49 x113.1 w114 fun b115 w116 =>
                  ldA 5 ⟨b115, 0, none⟩ w116 fun x117 =>
                  stA 5 ⟨b58, 0, none⟩ x117 w116 fun w118 =>
                  ifB (!decide (x113.2 = 0)) (
                    K false w118) (
                    next62 (IntKind.i64.wrap (s60 + 1)) w118))) (
                ldA 5 ⟨b58, 0, none⟩ w61 fun x122 =>
                rq (x122.length = 5) <|
                rq ((x122 ++ ([Value.int .i64 0] : List Value) ++ ([Value.int .i64 0] : List Value) ++ ([Value.int .u64 0] : List Value) ++ ([str []] : List Value) ++ ([Value.int .i64 0] : List Value) ++ ([Value.bool false] : List Value)).length = 11) <|
                newB 54 (([.pointer x54.1] : List Value) ++ ([Value.pointer none] : List Value) ++ (x122 ++ ([Value.int .i64 0] : List Value) ++ ([Value.int .i64 0] : List Value) ++ ([Value.int .u64 0] : List Value) ++ ([str []] : List Value) ++ ([Value.int .i64 0] : List Value) ++ ([Value.bool false] : List Value))) w61 fun b123 w124 =>
                cR Try.prog 25 r25 #[.pointer (some ⟨b123, 0, none⟩), .int .i64 5] w124 fun x125 w126 =>
                jn (J := Bool → World → Prop) (fun J128 =>
                  ifB x125 (
                    cR Try.prog 43 r43 #[.pointer (some ⟨b123, 0, none⟩)] w126 fun x129 w130 =>
                    J128 x129 w130) (
                    J128 false w126)) fun s131 w132 =>
                K s131 w132)) 0 w59)) ((x46 ++ s28.1) ++ x47) w44)) ([], 0) w20)
/-- dowser/dowserlaw04.WalAtomic -/
def s11 (K : Bool → World → Prop) (p0 : Sl) (p1 : Sl) (p2 : List Value) (w : World) : Prop :=
  newB 27 p2 w fun b1 w2 =>
  cR Try.prog 13 r13 #[] w2 fun x3 w4 =>
  jn (J := Bool → World → Prop) (fun J6 =>
    ifB (!x3) (
      J6 true w4) (
      newB 29 ([Value.int .i64 0, Sl.v p0, Value.int .i64 0, Value.int .u64 0, Value.int .i64 0] ++ [Value.int .i64 0, Sl.v p1, Value.int .i64 0, Value.int .u64 0, Value.int .i64 0]) w4 fun b7 w8 =>
      cR Try.prog 14 r14 #[.int .i64 3, Sl.v ⟨some ⟨b7, 0, none⟩, 2, 2⟩] w8 fun x9 w10 =>
      J6 (!x9) w10)) fun s11 w12 =>
  ifB s11 (
    cR Try.prog 13 r13 #[] w12 fun x18 w19 =>
    K x18 w19) (
    cR Try.prog 15 r15 #[.int .i64 40] w12 fun x20 w21 =>
    cR Try.prog 16 r16 #[.pointer x20.1, .int .i64 0, .int .i64 40] w21 fun x22 w23 =>
    ifB (!decide (x22.2.2 = 0)) (
      K false w23) (
      cR Try.prog 20 r20 #[.pointer x22.1, Sl.v p0] w23 fun x25 w26 =>
      ifB (!decide (x25 = 0)) (
        cR Try.prog 17 r17 #[.pointer x22.1] w26 fun x28 w29 =>
        K (decide (x28 < 20480)) w29) (
        drw w26 fun w30 =>
        ldI .i64 (Addr.add ⟨b1, 0, none⟩ 0) w26 fun x32 =>
        cR Try.prog 19 r19 #[.pointer x20.1] w30 fun x33 w34 =>
        rq (Ext w26 w34) <|
        st1 (Addr.add ⟨b1, 0, none⟩ 0) (.int .i64 (IntKind.i64.wrap (x33 + (IntKind.i64.wrap (Int.tmod (IntKind.u64.wrap x32) 45))))) w34 fun w36 =>
        ldA 3 ⟨b1, 0, none⟩ w36 fun x37 =>
        newA 3 27 x37 w36 fun b38 w39 =>
        cR Try.prog 37 r37 #[.pointer x20.1, Sl.v ⟨some ⟨b38, 0, none⟩, 1, 1⟩] w39 fun x40 w41 =>
        cR Try.prog 20 r20 #[.pointer x22.1, Sl.v p1] w41 fun x42 w43 =>
        ifB (decide (x42 = 40)) (
          K true w43) (
          ldA 3 ⟨b1, 0, none⟩ w43 fun x45 =>
          cR Try.prog 35 r35 #[.pointer x20.1, aggv x45] w43 fun x46 w47 =>
          cR Try.prog 27 r27 #[.pointer x20.1] w47 fun x48 w49 =>
          cR Try.prog 16 r16 #[.pointer x20.1, .int .i64 0, .int .i64 40] w49 fun x50 w51 =>
          cR Try.prog 44 r44 #[Sl.v p0] w51 fun x52 w53 =>
          cR Try.prog 44 r44 #[Sl.v p1] w53 fun x54 w55 =>
          app Try.prog 45 x52 x54 w55 fun x56 w57 =>
          jn (J := Bool → World → Prop) (fun J59 =>
            ifB (decide (x50.2.2 = 0)) (
              cR Try.prog 45 r45 #[Sl.v x50.2.1, Sl.v x56] w57 fun x60 w61 =>
              jn (J := Bool → World → Prop) (fun J63 =>
                ifB x60 (
                  J63 true w61) (
                  jn (J := Bool → World → Prop) (fun J65 =>
                    ifB (!decide (x42 = 0)) (
                      cR Try.prog 44 r44 #[Sl.v p0] w61 fun x66 w67 =>
                      cR Try.prog 45 r45 #[Sl.v x50.2.1, Sl.v x66] w67 fun x68 w69 =>
                      J65 x68 w69) (
                      J65 false w61)) fun s70 w71 =>
                  J63 s70 w71)) fun s77 w78 =>
              J59 s77 w78) (
              J59 false w57)) fun s83 w84 =>
          K s83 w84))))
/-- dowser/dowserlaw04.WalArgs -/
def s12 (K : Bool → World → Prop) (p0 : Int) (p1 : Int) (p2 : Int) (w : World) : Prop :=
  cR Try.prog 13 r13 #[] w fun x1 w2 =>
  jn (J := Bool → World → Prop) (fun J4 =>
    ifB (!x1) (
      J4 true w2) (
      J4 (decide (p0 < 1)) w2)) fun s5 w6 =>
  jn (J := Bool → World → Prop) (fun J12 =>
    ifB s5 (
      J12 true w6) (
      J12 (decide (40 < p0)) w6)) fun s13 w14 =>
  ifB s13 (
    cR Try.prog 13 r13 #[] w14 fun x20 w21 =>
    K x20 w21) (
    cR Try.prog 15 r15 #[.int .i64 p0] w14 fun x22 w23 =>
    cR Try.prog 16 r16 #[.pointer x22.1, .int .i64 p1, .int .i64 p2] w23 fun x24 w25 =>
    cR Try.prog 16 r16 #[.pointer none, .int .i64 p1, .int .i64 p2] w25 fun x26 w27 =>
    jn (J := Bool → World → Prop) (fun J29 =>
      ifB (!decide (x26.2.2 = 1)) (
        J29 true w27) (
        J29 (!decide ((x24.2.1.len : Int) = 0)) w27)) fun s30 w31 =>
    jn (J := Bool → World → Prop) (fun J41 =>
      ifB s30 (
        J41 true w31) (
        newB 39 [Sl.v nilSl] w31 fun b42 w43 =>
        cR Try.prog 20 r20 #[.pointer none, Sl.v ⟨some ⟨b42, 0, none⟩, 1, 1⟩] w43 fun x44 w45 =>
        J41 (!decide (x44 = 3)) w45)) fun s46 w47 =>
    jn (J := Bool → World → Prop) (fun J57 =>
      ifB s46 (
        J57 true w47) (
        cR Try.prog 21 r21 #[.pointer none] w47 fun x58 w59 =>
        J57 (!decide (x58 = 3)) w59)) fun s60 w61 =>
    jn (J := Bool → World → Prop) (fun J71 =>
      ifB s60 (
        J71 true w61) (
        cR Try.prog 17 r17 #[.pointer none] w61 fun x72 w73 =>
        J71 (!decide (x72 = 0)) w73)) fun s74 w75 =>
    jn (J := Bool → World → Prop) (fun J85 =>
      ifB s74 (
        J85 true w75) (
        cR Try.prog 22 r22 #[.pointer none] w75 fun x86 w87 =>
        J85 (!decide (x86 = 0)) w87)) fun s88 w89 =>
    jn (J := Bool → World → Prop) (fun J99 =>
      ifB s88 (
        J99 true w89) (
        cR Try.prog 46 r46 #[.pointer none] w89 fun x100 w101 =>
        J99 (!x100) w101)) fun s102 w103 =>
    ifB s102 (
      K false w103) (
      jn (J := Bool → World → Prop) (fun J113 =>
        ifB (decide (p1 < 0)) (
          J113 true w103) (
          J113 (decide (p2 < 3)) w103)) fun s114 w115 =>
      jn (J := Bool → World → Prop) (fun J124 =>
        ifB s114 (
          J124 true w115) (
          J124 (decide (p0 < p2)) w115)) fun s125 w126 =>
      jn (J := Bool → World → Prop) (fun J135 =>
        ifB s125 (
          J135 true w126) (
          J135 (decide ((IntKind.i64.wrap (p0 - p2)) < p1)) w126)) fun s136 w137 =>
      ifB s136 (
        jn (J := Bool → World → Prop) (fun J146 =>
          ifB (decide (x24.2.2 = 1)) (
            J146 (x24.1.isNone) w137) (
            J146 false w137)) fun s147 w148 =>
        jn (J := Bool → World → Prop) (fun J152 =>
          ifB s147 (
            cR Try.prog 19 r19 #[.pointer x22.1] w148 fun x153 w154 =>
            J152 (decide (x153 = 0)) w154) (
            J152 false w148)) fun s155 w156 =>
        K s155 w156) (
        jn (J := Bool → World → Prop) (fun J163 =>
          ifB (!decide (x24.2.2 = 0)) (
            J163 true w137) (
            cR Try.prog 20 r20 #[.pointer x24.1, Sl.v nilSl] w137 fun x164 w165 =>
            J163 (!decide (x164 = 0)) w165)) fun s166 w167 =>
        jn (J := Bool → World → Prop) (fun J174 =>
          ifB s166 (
            J174 true w167) (
            cR Try.prog 19 r19 #[.pointer x22.1] w167 fun x175 w176 =>
            J174 (!decide (x175 = 2)) w176)) fun s177 w178 =>
        ifB s177 (
          K false w178) (
          cR Try.prog 35 r35 #[.pointer x22.1, aggv [Value.int .i64 0, Value.int .u64 0, Value.int .i64 0]] w178 fun x185 w186 =>
          cR Try.prog 16 r16 #[.pointer x22.1, .int .i64 p1, .int .i64 p2] w186 fun x187 w188 =>
          jn (J := Bool → World → Prop) (fun J190 =>
            ifB (decide (x187.2.2 = 6)) (
              newB 39 [Sl.v nilSl] w188 fun b191 w192 =>
              cR Try.prog 20 r20 #[.pointer x24.1, Sl.v ⟨some ⟨b191, 0, none⟩, 1, 1⟩] w192 fun x193 w194 =>
              J190 (decide (x193 = 6)) w194) (
              J190 false w188)) fun s195 w196 =>
          jn (J := Bool → World → Prop) (fun J200 =>
            ifB s195 (
              cR Try.prog 46 r46 #[.pointer x24.1] w196 fun x201 w202 =>
              J200 x201 w202) (
              J200 false w196)) fun s203 w204 =>
          jn (J := Bool → World → Prop) (fun J208 =>
            ifB s203 (
              newB 39 [Sl.v nilSl] w204 fun b209 w210 =>
              cR Try.prog 20 r20 #[.pointer x24.1, Sl.v ⟨some ⟨b209, 0, none⟩, 1, 1⟩] w210 fun x211 w212 =>
              J208 (decide (x211 = 3)) w212) (
              J208 false w204)) fun s213 w214 =>
          jn (J := Bool → World → Prop) (fun J218 =>
            ifB s213 (
              cR Try.prog 21 r21 #[.pointer x24.1] w214 fun x219 w220 =>
              J218 (decide (x219 = 3)) w220) (
              J218 false w214)) fun s221 w222 =>
          K s221 w222))))
/-- dowser/dowserlaw04.lives -/
def s13 (K : Bool → World → Prop)  (w : World) : Prop :=
  cR Try.prog 15 r15 #[.int .i64 4] w fun x1 w2 =>
  cR Try.prog 16 r16 #[.pointer x1.1, .int .i64 1, .int .i64 3] w2 fun x3 w4 =>
  jn (J := Bool → World → Prop) (fun J6 =>
    ifB (x3.1.isNone) (
      J6 true w4) (
      J6 (!decide ((x3.2.1.len : Int) = 0)) w4)) fun s7 w8 =>
  jn (J := Bool → World → Prop) (fun J14 =>
    ifB s7 (
      J14 true w8) (
      J14 (!decide (x3.2.2 = 0)) w8)) fun s15 w16 =>
  jn (J := Bool → World → Prop) (fun J21 =>
    ifB s15 (
      J21 true w16) (
      newB 5 [.int .u8 97, .int .u8 98] w16 fun b22 w23 =>
      mkd ⟨some ⟨b22, 0, none⟩, 2, 2⟩ w23 fun w24 =>
      newB 39 [Sl.v ⟨some ⟨b22, 0, none⟩, 2, 2⟩, Sl.v nilSl] w24 fun b25 w26 =>
      cR Try.prog 20 r20 #[.pointer x3.1, Sl.v ⟨some ⟨b25, 0, none⟩, 2, 2⟩] w26 fun x27 w28 =>
      J21 (!decide (x27 = 0)) w28)) fun s29 w30 =>
  ifB s29 (
    K false w30) (
    cR Try.prog 16 r16 #[.pointer x1.1, .int .i64 1, .int .i64 3] w30 fun x35 w36 =>
    jn (J := Bool → World → Prop) (fun J38 =>
      ifB (decide (x35.2.2 = 0)) (
        J38 (decide ((x35.2.1.len : Int) = 2)) w36) (
        J38 false w36)) fun s39 w40 =>
    jn (J := Bool → World → Prop) (fun J45 =>
      ifB s39 (
        ix x35.2.1 1 0 fun a46 =>
        ldL a46 w40 fun x48 =>
        b2s x48 w40 fun x49 =>
        J45 (decide (x49 = [97, 98])) w40) (
        J45 false w40)) fun s50 w51 =>
    jn (J := Bool → World → Prop) (fun J56 =>
      ifB s50 (
        ix x35.2.1 1 1 fun a57 =>
        ldL a57 w51 fun x59 =>
        J56 (decide ((x59.len : Int) = 0)) w51) (
        J56 false w51)) fun s60 w61 =>
    jn (J := Bool → World → Prop) (fun J65 =>
      ifB s60 (
        cR Try.prog 17 r17 #[.pointer x3.1] w61 fun x66 w67 =>
        J65 (decide (x66 = 500)) w67) (
        J65 false w61)) fun s68 w69 =>
    jn (J := Bool → World → Prop) (fun J73 =>
      ifB s68 (
        cR Try.prog 22 r22 #[.pointer x3.1] w69 fun x74 w75 =>
        J73 (decide (x74 = 2)) w75) (
        J73 false w69)) fun s76 w77 =>
    K s76 w77)
/-- dowser/dowserlaw04.fits -/
def s14 (K : Bool → World → Prop) (p0 : Int) (p1 : Sl) (w : World) : Prop :=
  jn (J := Bool → World → Prop) (fun J2 =>
    ifB (decide (p0 < 3)) (
      J2 true w) (
      J2 (decide (7 < p0)) w)) fun s3 w4 =>
  jn (J := Bool → World → Prop) (fun J8 =>
    ifB s3 (
      J8 true w4) (
      J8 (decide (30 < (p1.len : Int))) w4)) fun s9 w10 =>
  ifB s9 (
    K false w10) (
    LoopS (σ := Int) (fun next16 s14 w15 =>
      ifB (decide (s14 < (p1.len : Int))) (
        ix p1 5 s14 fun a21 =>
        ldA 5 a21 w15 fun x23 =>
        newA 5 29 x23 w15 fun b24 w25 =>
        ldL (Addr.add ⟨b24, 0, none⟩ 1) w25 fun x26 =>
        ifB (decide (6 < (x26.len : Int))) (
          K false w25) (
          ldL (Addr.add ⟨b24, 0, none⟩ 1) w25 fun x28 =>
          LoopS (σ := Int) (fun next31 s29 w30 =>
            ifB (decide (s29 < (x28.len : Int))) (
              ix x28 1 s29 fun a39 =>
              ldL a39 w30 fun x41 =>
              ifB (decide (3000 < (x41.len : Int))) (
                K false w30) (
                next31 (IntKind.i64.wrap (s29 + 1)) w30)) (
              next16 (IntKind.i64.wrap (s14 + 1)) w30)) 0 w25)) (
        K true w15)) 0 w10)
/-- dowser/disk.New -/
def s15 (K : Option Addr × Int → World → Prop) (p0 : Int) (w : World) : Prop :=
  jn (J := Bool → World → Prop) (fun J2 =>
    ifB (decide (p0 < 1)) (
      J2 true w) (
      J2 (decide (4096 < p0)) w)) fun s3 w4 =>
  ifB s3 (
    K (none, 1) w4) (
    mkS 112 1024 1024 (Value.int .u8 0) p0 p0 w4 fun x10 w9 =>
    newB 93 [Sl.v x10, Value.slice none 0 0, Value.slice none 0 0, Value.int .i64 0, Value.bool false] w9 fun b11 w12 =>
    K (some ⟨b11, 0, none⟩, 0) w12)
/-- dowser/wal.Open -/
def s16 (K : Option Addr × Sl × Int → World → Prop) (p0 : Option Addr) (p1 : Int) (p2 : Int) (w : World) : Prop :=
  jn (J := Bool → World → Prop) (fun J2 =>
    ifB (p0.isNone) (
      J2 true w) (
      J2 (decide (p1 < 0)) w)) fun s3 w4 =>
  jn (J := Bool → World → Prop) (fun J10 =>
    ifB s3 (
      J10 true w4) (
      J10 (decide (p2 < 3)) w4)) fun s11 w12 =>
  jn (J := Bool → World → Prop) (fun J18 =>
    ifB s11 (
      J18 true w12) (
      cR Try.prog 39 r39 #[.pointer p0] w12 fun x19 w20 =>
      J18 (decide (x19 < p2)) w20)) fun s21 w22 =>
  jn (J := Bool → World → Prop) (fun J28 =>
    ifB s21 (
      J28 true w22) (
      cR Try.prog 39 r39 #[.pointer p0] w22 fun x29 w30 =>
      J28 (decide ((IntKind.i64.wrap (x29 - p2)) < p1)) w30)) fun s31 w32 =>
  ifB s31 (
    K (none, nilSl, 1) w32) (
    newB 95 [.pointer p0, .int .i64 p1, .int .i64 (IntKind.i64.wrap ((IntKind.i64.wrap (p2 - 2)) * 512)), Value.int .u64 0, Value.slice none 0 0, Value.int .i64 0, Value.bool false] w32 fun b38 w39 =>
    LoopS (σ := Int × Int) (fun next42 s40 w41 =>
      ifB (decide (s40.2 < 2)) (
        jn (J := Int → World → Prop) (fun J49 =>
          cR Try.prog 28 r28 #[.pointer p0, .int .i64 (IntKind.i64.wrap (p1 + s40.2))] w41 fun x50 w51 =>
          ifB (!decide (x50.2 = 0)) (
            K (none, nilSl, x50.2) w51) (
            ldI .i64 (Addr.add ⟨b38, 0, none⟩ 2) w51 fun x53 =>
            cR Try.prog 47 r47 #[Sl.v x50.1, .int .i64 x53] w51 fun x54 w55 =>
            ldI .u64 (Addr.add ⟨b38, 0, none⟩ 3) w55 fun x56 =>
            ifB (decide (x56 < x54.1)) (
              st1 (Addr.add ⟨b38, 0, none⟩ 3) (.int .u64 x54.1) w55 fun w58 =>
              J49 x54.2 w58) (
              J49 s40.1 w55))) fun s59 w60 =>
        next42 (s59, (IntKind.i64.wrap (s40.2 + 1))) w60) (
        ldI .u64 (Addr.add ⟨b38, 0, none⟩ 3) w41 fun x68 =>
        ifB (decide (x68 = 0)) (
          cR Try.prog 48 r48 #[.pointer (some ⟨b38, 0, none⟩), .int .u64 1, .int .i64 0] w41 fun x70 w71 =>
          ifB (!decide (x70 = 0)) (
            K (none, nilSl, x70) w71) (
            K (some ⟨b38, 0, none⟩, nilSl, 0) w71)) (
          LoopS (σ := Sl × Int) (fun next75 s73 w74 =>
            ifB (decide (s73.2 < s40.1)) (
              cR Try.prog 28 r28 #[.pointer p0, .int .i64 (IntKind.i64.wrap ((IntKind.i64.wrap (p1 + 2)) + (IntKind.i64.wrap (Int.tdiv s73.2 512))))] w74 fun x83 w84 =>
              ifB (!decide (x83.2 = 0)) (
                K (none, nilSl, x83.2) w84) (
                app Try.prog 39 s73.1 x83.1 w84 fun x86 w87 =>
                next75 (x86, (IntKind.i64.wrap (s73.2 + 512))) w87)) (
              rq ((0 : Int) ≤ 0 ∧ (0 : Int) ≤ s40.1 ∧ (s40.1 : Int) ≤ (s73.1.cap : Int)) <|
              cR Try.prog 49 r49 #[Sl.v (s73.1.cut 1 0 s40.1 s73.1.cap)] w74 fun x88 w89 =>
              st1 (Addr.add ⟨b38, 0, none⟩ 4) (Sl.v x88) w89 fun w90 =>
              ldL (Addr.add ⟨b38, 0, none⟩ 4) w90 fun x91 =>
              cR Try.prog 50 r50 #[Sl.v x91] w90 fun x92 w93 =>
              ifB (!decide (x92.2 = 0)) (
                K (none, nilSl, x92.2) w93) (
                st1 (Addr.add ⟨b38, 0, none⟩ 5) (.int .i64 (x92.1.len : Int)) w93 fun w95 =>
                K (some ⟨b38, 0, none⟩, x92.1, 0) w95))) (nilSl, 0) w41))) (0, 0) w39)
/-- (*dowser/wal.Log).Room -/
def s17 (K : Int → World → Prop) (p0 : Option Addr) (w : World) : Prop :=
  ifB (p0.isNone) (
    K 0 w) (
    drw w fun w2 =>
    nn p0 fun a4 =>
    ldI .i64 (Addr.add a4 2) w fun x6 =>
    nn p0 fun a7 =>
    ldL (Addr.add a7 4) w fun x9 =>
    K (IntKind.i64.wrap (x6 - (x9.len : Int))) w2)
/-- dowser/dowserref04.Frame -/
def s18 (K : List UInt8 → World → Prop) (p0 : List UInt8) (w : World) : Prop :=
  cR Try.prog 51 r51 #[.int .u64 (IntKind.u64.wrap (p0.length : Int))] w fun x1 w2 =>
  cR Try.prog 52 r52 #[str p0] w2 fun x3 w4 =>
  rq ((0 : Int) ≤ (p0.length : Int) ∧ ((p0.length : Int) : Int) ≤ (x3.length : Int) ∧ ((x3.length : Int) : Int) ≤ (x3.length : Int)) <|
  rq (x1.length + ((x3.take (Int.toNat (x3.length : Int))).drop (Int.toNat (p0.length : Int))).length ≤ 9223372036854775807) <|
  rq ((x1 ++ ((x3.take (Int.toNat (x3.length : Int))).drop (Int.toNat (p0.length : Int)))).length + p0.length ≤ 9223372036854775807) <|
  K ((x1 ++ ((x3.take (Int.toNat (x3.length : Int))).drop (Int.toNat (p0.length : Int)))) ++ p0) w4
/-- (*dowser/disk.Disk).Changes -/
def s19 (K : Int → World → Prop) (p0 : Option Addr) (w : World) : Prop :=
  ifB (p0.isNone) (
    K 0 w) (
    nn p0 fun a2 =>
    ldI .i64 (Addr.add a2 3) w fun x4 =>
    K x4 w)
/-- (*dowser/wal.Log).Add -/
def s20 (K : Int → World → Prop) (p0 : Option Addr) (p1 : Sl) (w : World) : Prop :=
  cR Try.prog 46 r46 #[.pointer p0] w fun x1 w2 =>
  ifB x1 (
    K 3 w2) (
    ifB (decide ((p1.len : Int) = 0)) (
      K 0 w2) (
      nn p0 fun a5 =>
      ldL (Addr.add a5 4) w2 fun x7 =>
      cR Try.prog 53 r53 #[Sl.v x7] w2 fun x8 w9 =>
      LoopS (σ := Sl × Int) (fun next12 s10 w11 =>
        ifB (decide (s10.2 < (p1.len : Int))) (
          ix p1 1 s10.2 fun a20 =>
          ldL a20 w11 fun x22 =>
          nn p0 fun a23 =>
          ldI .i64 (Addr.add a23 2) w11 fun x25 =>
          ifB (decide ((IntKind.i64.wrap (x25 - (s10.1.len : Int))) < (x22.len : Int))) (
            K 40 w11) (
            cR Try.prog 54 r54 #[Sl.v x22] w11 fun x27 w28 =>
            app Try.prog 39 s10.1 x27 w28 fun x29 w30 =>
            next12 (x29, (IntKind.i64.wrap (s10.2 + 1))) w30)) (
          nn p0 fun a31 =>
          ldI .i64 (Addr.add a31 2) w11 fun x33 =>
          jn (J := Bool → World → Prop) (fun J35 =>
            ifB (decide (x33 < (s10.1.len : Int))) (
              J35 true w11) (
              nn p0 fun a36 =>
              ldI .u64 (Addr.add a36 3) w11 fun x38 =>
              J35 (decide (x38 = 4611686018427387904)) w11)) fun s39 w40 =>
          ifB s39 (
            K 40 w40) (
            nn p0 fun a46 =>
            ldL (Addr.add a46 4) w40 fun x48 =>
            LoopS (σ := Int) (fun next51 s49 w50 =>
              ifB (decide ((IntKind.i64.wrap (s49 * 512)) < (s10.1.len : Int))) (
                mkS 5 1 1 (Value.int .u8 0) 512 512 w50 fun x59 w58 =>
                rq ((0 : Int) ≤ (IntKind.i64.wrap (s49 * 512)) ∧ ((IntKind.i64.wrap (s49 * 512)) : Int) ≤ (s10.1.len : Int)) <|
                cpy Try.prog #[39, 39] 3 #[Sl.v x59, Sl.v (s10.1.cut 1 (IntKind.i64.wrap (s49 * 512)) (s10.1.len : Int) s10.1.cap)] w58 fun x60 w61 =>
                drw w61 fun w62 =>
                nn p0 fun a64 =>
                ldP (Addr.add a64 0) w61 fun x66 =>
                nn p0 fun a67 =>
                ldI .i64 (Addr.add a67 1) w61 fun x69 =>
                cR Try.prog 33 r33 #[.pointer x66, .int .i64 (IntKind.i64.wrap ((IntKind.i64.wrap (x69 + 2)) + s49)), Sl.v x59] w62 fun x70 w71 =>
                ifB (!decide (x70 = 0)) (
                  nn p0 fun a73 =>
                  st1 (Addr.add a73 6) (.bool true) w71 fun w75 =>
                  K x70 w75) (
                  next51 (IntKind.i64.wrap (s49 + 1)) w71)) (
                nn p0 fun a76 =>
                ldP (Addr.add a76 0) w50 fun x78 =>
                cR Try.prog 34 r34 #[.pointer x78] w50 fun x79 w80 =>
                ifB (!decide (x79 = 0)) (
                  nn p0 fun a82 =>
                  st1 (Addr.add a82 6) (.bool true) w80 fun w84 =>
                  K x79 w84) (
                  nn p0 fun a85 =>
                  ldI .u64 (Addr.add a85 3) w80 fun x87 =>
                  cR Try.prog 48 r48 #[.pointer p0, .int .u64 (IntKind.u64.wrap (x87 + 1)), .int .i64 (s10.1.len : Int)] w80 fun x88 w89 =>
                  ifB (!decide (x88 = 0)) (
                    K x88 w89) (
                    nn p0 fun a91 =>
                    st1 (Addr.add a91 4) (Sl.v s10.1) w89 fun w93 =>
                    nn p0 fun a94 =>
                    ldI .i64 (Addr.add a94 5) w93 fun x96 =>
                    nn p0 fun a97 =>
                    st1 (Addr.add a97 5) (.int .i64 (IntKind.i64.wrap (x96 + (p1.len : Int)))) w93 fun w99 =>
                    K 0 w99)))) (IntKind.i64.wrap (Int.tdiv (x48.len : Int) 512)) w40))) (x8, 0) w9))
/-- (*dowser/wal.Log).Reset -/
def s21 (K : Int → World → Prop) (p0 : Option Addr) (w : World) : Prop :=
  cR Try.prog 46 r46 #[.pointer p0] w fun x1 w2 =>
  ifB x1 (
    K 3 w2) (
    nn p0 fun a4 =>
    ldI .u64 (Addr.add a4 3) w2 fun x6 =>
    ifB (decide (x6 = 4611686018427387904)) (
      K 40 w2) (
      nn p0 fun a8 =>
      ldI .u64 (Addr.add a8 3) w2 fun x10 =>
      cR Try.prog 48 r48 #[.pointer p0, .int .u64 (IntKind.u64.wrap (x10 + 1)), .int .i64 0] w2 fun x11 w12 =>
      ifB (!decide (x11 = 0)) (
        K x11 w12) (
        nn p0 fun a14 =>
        st1 (Addr.add a14 4) (Sl.v nilSl) w12 fun w16 =>
        nn p0 fun a17 =>
        st1 (Addr.add a17 5) (.int .i64 0) w16 fun w19 =>
        K 0 w19)))
/-- (*dowser/wal.Log).Len -/
def s22 (K : Int → World → Prop) (p0 : Option Addr) (w : World) : Prop :=
  ifB (p0.isNone) (
    K 0 w) (
    nn p0 fun a2 =>
    ldI .i64 (Addr.add a2 5) w fun x4 =>
    K x4 w)
/-- (*dowser/disk.Disk).Pending -/
def s23 (K : Int → World → Prop) (p0 : Option Addr) (w : World) : Prop :=
  ifB (p0.isNone) (
    K 0 w) (
    nn p0 fun a2 =>
    ldL (Addr.add a2 1) w fun x4 =>
    K (x4.len : Int) w)
/-- dowser/dowserref03.New -/
def s24 (K : List Value → World → Prop) (p0 : Int) (w : World) : Prop :=
  newB 49 [Value.slice none 0 0, Value.slice none 0 0, Value.slice none 0 0, Value.int .i64 0, Value.bool false] w fun b1 w2 =>
  mkS 5 1 1 (Value.int .u8 0) 512 512 w2 fun x5 w4 =>
  b2s x5 w4 fun x6 =>
  LoopS (σ := Sl × Int) (fun next9 s7 w8 =>
    ifB (decide (s7.2 < p0)) (
      newB 9 [str x6] w8 fun b16 w17 =>
      app Try.prog 45 s7.1 ⟨some ⟨b16, 0, none⟩, 1, 1⟩ w17 fun x18 w19 =>
      next9 (x18, (IntKind.i64.wrap (s7.2 + 1))) w19) (
      stA 5 ⟨b1, 0, none⟩ [Sl.v s7.1, Value.slice none 0 0, Value.slice none 0 0, Value.int .i64 0, Value.bool false] w8 fun w20 =>
      ldA 5 ⟨b1, 0, none⟩ w20 fun x21 =>
      K x21 w20)) (nilSl, 0) w4
/-- (*dowser/dowserlaw04.both).open -/
def s25 (K : Bool → World → Prop) (p0 : Option Addr) (p1 : Int) (w : World) : Prop :=
  drw w fun w1 =>
  nn p0 fun a3 =>
  ldP (Addr.add a3 0) w fun x5 =>
  nn p0 fun a6 =>
  ldI .i64 (Addr.add (Addr.add a6 2) 5) w fun x8 =>
  cR Try.prog 16 r16 #[.pointer x5, .int .i64 x8, .int .i64 p1] w1 fun x9 w10 =>
  drw w10 fun w11 =>
  nn p0 fun a13 =>
  ldA 5 (Addr.add (Addr.add a13 2) 0) w10 fun x15 =>
  nn p0 fun a16 =>
  ldI .i64 (Addr.add (Addr.add a16 2) 5) w10 fun x18 =>
  nd (δ := Unit) (α := (List Value × Sl × Int)) w11 (fun d21 v_ => True) (fun d21 K22 w23 =>
    cR Try.prog 55 r55 #[aggv x15, .int .i64 x18, .int .i64 p1] w23 fun x25 w26 =>
    K22 (x25.1, x25.2.1, x25.2.2) w26) fun F24 =>
  nd (δ := Unit) (α := Addr) w11 (fun d27 v_ => True) (fun d27 K28 w29 =>
    newB 52 [Value.slice none 0 0, Value.slice none 0 0, Value.slice none 0 0, Value.int .i64 0, Value.bool false, Value.int .i64 0, Value.int .i64 0, Value.int .u64 0, str [], Value.int .i64 0, Value.bool false] w29 fun b31 w32 =>
    K28 ⟨b31, 0, none⟩ w32) fun F30 =>
  ∀ (x19 : (List Value × Sl × Int)) (x20 : Addr) (w33 : World), Ext w11 w33 → F24 () x19 w33 → F30 () x20 w33 →
  stA 11 x20 x19.1 w33 fun w35 =>
  drw w35 fun w36 =>
  rq (some (Addr.block x20) ≠ (Option.map Addr.block p0)) <|
  ldA 11 x20 w35 fun x38 =>
  nn p0 fun a40 =>
  st1 (Addr.add a40 1) (.pointer x9.1) w36 fun w42 =>
  nn p0 fun a44 =>
  stA 11 (Addr.add a44 2) x38 w42 fun w46 =>
  ifB (!decide (x19.2.2 = 0)) (
    nn p0 fun a48 =>
    st1 (Addr.add (Addr.add a48 2) 10) (.bool true) w46 fun w50 =>
    jn (J := Bool → World → Prop) (fun J52 =>
      ifB (decide (x9.2.2 = x19.2.2)) (
        J52 (x9.1.isNone) w50) (
        J52 false w50)) fun s53 w54 =>
    jn (J := Bool → World → Prop) (fun J58 =>
      ifB s53 (
        J58 (decide ((x9.2.1.len : Int) = 0)) w54) (
        J58 false w54)) fun s59 w60 =>
    K s59 w60) (
    jn (J := Bool → World → Prop) (fun J67 =>
      ifB (decide (x9.2.2 = 0)) (
        cR Try.prog 45 r45 #[Sl.v x9.2.1, Sl.v x19.2.1] w46 fun x68 w69 =>
        J67 x68 w69) (
        J67 false w46)) fun s70 w71 =>
    K s70 w71)
/-- (*dowser/dowserlaw04.both).step -/
def s26 (K : Bool → World → Prop) (p0 : Option Addr) (p1 : List Value) (p2 : Int) (w : World) : Prop :=
  newB 29 p1 w fun b1 w2 =>
  jn (J := Int × Int → World → Prop) (fun J3 =>
    ldI .i64 (Addr.add ⟨b1, 0, none⟩ 0) w2 fun x4 =>
    ifB (decide ((Int.tmod (IntKind.u64.wrap x4) 5) = 0)) (
      drw w2 fun w6 =>
      nn p0 fun a8 =>
      ldP (Addr.add a8 1) w2 fun x10 =>
      ldL (Addr.add ⟨b1, 0, none⟩ 1) w2 fun x11 =>
      cR Try.prog 20 r20 #[.pointer x10, Sl.v x11] w6 fun x12 w13 =>
      drw w13 fun w14 =>
      nn p0 fun a16 =>
      ldA 11 (Addr.add a16 2) w13 fun x18 =>
      ldL (Addr.add ⟨b1, 0, none⟩ 1) w13 fun x19 =>
      cR Try.prog 44 r44 #[Sl.v x19] w14 fun x20 w21 =>
      rq (Ext w13 w21) <|
      cR Try.prog 56 r56 #[aggv x18, Sl.v x20] w21 fun x23 w24 =>
      nn p0 fun a25 =>
      stA 11 (Addr.add a25 2) x23.1 w24 fun w27 =>
      J3 (x12, x23.2) w27) (
      ifB (decide ((Int.tmod (IntKind.u64.wrap x4) 5) = 1)) (
        nn p0 fun a29 =>
        ldP (Addr.add a29 1) w2 fun x31 =>
        cR Try.prog 21 r21 #[.pointer x31] w2 fun x32 w33 =>
        nn p0 fun a34 =>
        ldA 11 (Addr.add a34 2) w33 fun x36 =>
        cR Try.prog 57 r57 #[aggv x36] w33 fun x37 w38 =>
        nn p0 fun a39 =>
        stA 11 (Addr.add a39 2) x37.1 w38 fun w41 =>
        J3 (x32, x37.2) w41) (
        ifB (decide ((Int.tmod (IntKind.u64.wrap x4) 5) = 2)) (
          drw w2 fun w43 =>
          nn p0 fun a45 =>
          ldP (Addr.add a45 0) w2 fun x47 =>
          ldA 3 (Addr.add ⟨b1, 0, none⟩ 2) w2 fun x48 =>
          cR Try.prog 35 r35 #[.pointer x47, aggv x48] w43 fun x49 w50 =>
          nn p0 fun a51 =>
          ldP (Addr.add a51 0) w50 fun x53 =>
          cR Try.prog 27 r27 #[.pointer x53] w50 fun x54 w55 =>
          drw w55 fun w56 =>
          nn p0 fun a58 =>
          ldA 5 (Addr.add (Addr.add a58 2) 0) w55 fun x60 =>
          ldA 3 (Addr.add ⟨b1, 0, none⟩ 2) w55 fun x61 =>
          cR Try.prog 58 r58 #[aggv x60, aggv x61] w56 fun x62 w63 =>
          nn p0 fun a64 =>
          stA 5 (Addr.add (Addr.add a64 2) 0) x62 w63 fun w66 =>
          nn p0 fun a67 =>
          st1 (Addr.add (Addr.add (Addr.add a67 2) 0) 4) (.bool false) w66 fun w69 =>
          cR Try.prog 25 r25 #[.pointer p0, .int .i64 p2] w69 fun x70 w71 =>
          K x70 w71) (
          ifB (decide ((Int.tmod (IntKind.u64.wrap x4) 5) = 3)) (
            ldA 3 (Addr.add ⟨b1, 0, none⟩ 2) w2 fun x73 =>
            newA 3 27 x73 w2 fun b74 w75 =>
            drw w75 fun w76 =>
            nn p0 fun a78 =>
            ldP (Addr.add a78 0) w75 fun x80 =>
            ldI .i64 (Addr.add ⟨b74, 0, none⟩ 0) w75 fun x81 =>
            cR Try.prog 19 r19 #[.pointer x80] w76 fun x82 w83 =>
            rq (Ext w75 w83) <|
            st1 (Addr.add ⟨b74, 0, none⟩ 0) (.int .i64 (IntKind.i64.wrap (x82 + (IntKind.i64.wrap (Int.tmod (IntKind.u64.wrap x81) 9))))) w83 fun w85 =>
            drw w85 fun w86 =>
            nn p0 fun a88 =>
            ldP (Addr.add a88 0) w85 fun x90 =>
            ldA 3 ⟨b74, 0, none⟩ w85 fun x91 =>
            newA 3 27 x91 w86 fun b92 w93 =>
            cR Try.prog 37 r37 #[.pointer x90, Sl.v ⟨some ⟨b92, 0, none⟩, 1, 1⟩] w93 fun x95 w96 =>
            ldA 3 ⟨b74, 0, none⟩ w96 fun x97 =>
            newA 3 27 x97 w96 fun b98 w99 =>
            nn p0 fun a100 =>
            st1 (Addr.add (Addr.add (Addr.add a100 2) 0) 2) (Sl.v ⟨some ⟨b98, 0, none⟩, 1, 1⟩) w99 fun w102 =>
            J3 (0, 0) w102) (
            nn p0 fun a103 =>
            ldP (Addr.add a103 0) w2 fun x105 =>
            cR Try.prog 27 r27 #[.pointer x105] w2 fun x106 w107 =>
            nn p0 fun a108 =>
            st1 (Addr.add (Addr.add (Addr.add a108 2) 0) 4) (.bool false) w107 fun w110 =>
            cR Try.prog 25 r25 #[.pointer p0, .int .i64 p2] w110 fun x111 w112 =>
            K x111 w112))))) fun s113 w114 =>
  jn (J := Bool → World → Prop) (fun J119 =>
    ifB (decide (s113.1 = s113.2)) (
      cR Try.prog 43 r43 #[.pointer p0] w114 fun x120 w121 =>
      J119 x120 w121) (
      J119 false w114)) fun s122 w123 =>
  K s122 w123
/-- (*dowser/disk.Disk).Up -/
def s27 (K : Bool → World → Prop) (p0 : Option Addr) (w : World) : Prop :=
  jn (J := Bool → World → Prop) (fun J2 =>
    ifB (p0.isNone) (
      J2 true w) (
      nn p0 fun a3 =>
      ldB (Addr.add a3 4) w fun x5 =>
      J2 (!x5) w)) fun s6 w7 =>
  ifB s6 (
    K false w7) (
    nn p0 fun a11 =>
    st1 (Addr.add a11 4) (.bool false) w7 fun w13 =>
    K true w13)
/-- (*dowser/disk.Disk).Read -/
def s28 (K : Sl × Int → World → Prop) (p0 : Option Addr) (p1 : Int) (w : World) : Prop :=
  cR Try.prog 59 r59 #[.pointer p0, .int .i64 p1] w fun x1 w2 =>
  ifB (!decide (x1 = 0)) (
    K (nilSl, x1) w2) (
    nn p0 fun a4 =>
    ldL (Addr.add a4 0) w2 fun x6 =>
    ix x6 1024 p1 fun a7 =>
    cR Try.prog 53 r53 #[Sl.v (Sl.cut ⟨some (Addr.add a7 0), 512, 512⟩ 1 0 512 512)] w2 fun x9 w10 =>
    K (x9, 0) w10)
/-- dowser/dowserref03.Now -/
def s29 (K : List UInt8 → World → Prop) (p0 : List Value) (p1 : Int) (w : World) : Prop :=
  newB 49 p0 w fun b1 w2 =>
  ldL (Addr.add ⟨b1, 0, none⟩ 0) w2 fun x3 =>
  ix x3 1 p1 fun a4 =>
  ldS a4 w2 fun x6 =>
  LoopS (σ := List UInt8 × Int) (fun next9 s7 w8 =>
    ldL (Addr.add ⟨b1, 0, none⟩ 1) w8 fun x14 =>
    ifB (decide (s7.2 < (x14.len : Int))) (
      jn (J := List UInt8 → World → Prop) (fun J16 =>
        ldL (Addr.add ⟨b1, 0, none⟩ 1) w8 fun x17 =>
        ix x17 2 s7.2 fun a18 =>
        ldI .i64 (Addr.add a18 0) w8 fun x20 =>
        ifB (decide (x20 = p1)) (
          ldL (Addr.add ⟨b1, 0, none⟩ 1) w8 fun x22 =>
          ix x22 2 s7.2 fun a23 =>
          ldS (Addr.add a23 1) w8 fun x25 =>
          J16 x25 w8) (
          J16 s7.1 w8)) fun s26 w27 =>
      next9 (s26, (IntKind.i64.wrap (s7.2 + 1))) w27) (
      K s7.1 w8)) (x6, 0) w2
/-- dowser/dowserlaw03.lives -/
def s30 (K : Bool → World → Prop)  (w : World) : Prop :=
  cR Try.prog 15 r15 #[.int .i64 2] w fun x1 w2 =>
  jn (J := Bool → World → Prop) (fun J4 =>
    ifB (x1.1.isNone) (
      J4 true w2) (
      J4 (!decide (x1.2 = 0)) w2)) fun s5 w6 =>
  jn (J := Bool → World → Prop) (fun J10 =>
    ifB s5 (
      J10 true w6) (
      cR Try.prog 32 r32 #[.int .u8 120, str []] w6 fun x11 w12 =>
      cR Try.prog 33 r33 #[.pointer x1.1, .int .i64 1, Sl.v x11] w12 fun x13 w14 =>
      J10 (!decide (x13 = 0)) w14)) fun s15 w16 =>
  jn (J := Bool → World → Prop) (fun J20 =>
    ifB s15 (
      J20 true w16) (
      cR Try.prog 34 r34 #[.pointer x1.1] w16 fun x21 w22 =>
      J20 (!decide (x21 = 0)) w22)) fun s23 w24 =>
  jn (J := Bool → World → Prop) (fun J28 =>
    ifB s23 (
      J28 true w24) (
      cR Try.prog 32 r32 #[.int .u8 121, str []] w24 fun x29 w30 =>
      cR Try.prog 33 r33 #[.pointer x1.1, .int .i64 1, Sl.v x29] w30 fun x31 w32 =>
      J28 (!decide (x31 = 0)) w32)) fun s33 w34 =>
  ifB s33 (
    K false w34) (
    cR Try.prog 35 r35 #[.pointer x1.1, aggv [Value.int .i64 0, Value.int .u64 0, .int .i64 2]] w34 fun x38 w39 =>
    cR Try.prog 38 r38 #[.pointer x1.1] w39 fun x40 w41 =>
    jn (J := Bool → World → Prop) (fun J43 =>
      ifB (!x40) (
        J43 true w41) (
        cR Try.prog 27 r27 #[.pointer x1.1] w41 fun x44 w45 =>
        J43 (!x44) w45)) fun s46 w47 =>
    ifB s46 (
      K false w47) (
      cR Try.prog 28 r28 #[.pointer x1.1, .int .i64 1] w47 fun x51 w52 =>
      drw w52 fun w53 =>
      jn (J := Bool → World → Prop) (fun J55 =>
        ifB (decide (x51.2 = 0)) (
          b2s x51.1 w52 fun x57 =>
          cR Try.prog 32 r32 #[.int .u8 120, str [121, 121]] w53 fun x58 w59 =>
          rq (Ext w52 w59) <|
          b2s x58 w59 fun x61 =>
          J55 (decide (x57 = x61)) w59) (
          J55 false w53)) fun s63 w64 =>
      K s63 w64))
/-- dowser/dowserlaw03.fits -/
def s31 (K : Bool → World → Prop) (p0 : Int) (p1 : Sl) (w : World) : Prop :=
  jn (J := Bool → World → Prop) (fun J2 =>
    ifB (decide (p0 < 1)) (
      J2 true w) (
      J2 (decide (12 < p0)) w)) fun s3 w4 =>
  jn (J := Bool → World → Prop) (fun J8 =>
    ifB s3 (
      J8 true w4) (
      J8 (decide (60 < (p1.len : Int))) w4)) fun s9 w10 =>
  ifB s9 (
    K false w10) (
    LoopS (σ := Int) (fun next16 s14 w15 =>
      ifB (decide (s14 < (p1.len : Int))) (
        ix p1 9 s14 fun a21 =>
        ldA 9 a21 w15 fun x23 =>
        newA 9 65 x23 w15 fun b24 w25 =>
        ldS (Addr.add ⟨b24, 0, none⟩ 3) w25 fun x26 =>
        jn (J := Bool → World → Prop) (fun J28 =>
          ifB (decide (600 < (x26.length : Int))) (
            J28 true w25) (
            ldL (Addr.add ⟨b24, 0, none⟩ 8) w25 fun x29 =>
            J28 (decide (20 < (x29.len : Int))) w25)) fun s30 w31 =>
        ifB s30 (
          K false w31) (
          next16 (IntKind.i64.wrap (s14 + 1)) w31)) (
        K true w15)) 0 w10)
/-- dowser/dowserlaw03.fill -/
def s32 (K : Sl → World → Prop) (p0 : Int) (p1 : List UInt8) (w : World) : Prop :=
  mkS 5 1 1 (Value.int .u8 0) 512 512 w fun x3 w2 =>
  LoopS (σ := Int) (fun next6 s4 w5 =>
    ifB (decide (s4 < (x3.len : Int))) (
      ix x3 1 s4 fun a13 =>
      st1 a13 (.int .u8 p0) w5 fun w15 =>
      next6 (IntKind.i64.wrap (s4 + 1)) w15) (
      cpy Try.prog #[39, 9] 3 #[Sl.v x3, str p1] w5 fun x16 w17 =>
      K x3 w17)) 0 w2
/-- (*dowser/disk.Disk).Write -/
def s33 (K : Int → World → Prop) (p0 : Option Addr) (p1 : Int) (p2 : Sl) (w : World) : Prop :=
  cR Try.prog 59 r59 #[.pointer p0, .int .i64 p1] w fun x1 w2 =>
  ifB (!decide (x1 = 0)) (
    K x1 w2) (
    ifB (!decide ((p2.len : Int) = 512)) (
      K 1 w2) (
      newA 513 116 ([.int .i64 p1] ++ List.replicate 512 (Value.int .u8 0)) w2 fun b5 w6 =>
      cpy Try.prog #[39, 39] 3 #[Sl.v (Sl.cut ⟨some (Addr.add ⟨b5, 0, none⟩ 1), 512, 512⟩ 1 0 512 512), Sl.v p2] w6 fun x7 w8 =>
      drw w8 fun w9 =>
      nn p0 fun a11 =>
      ldL (Addr.add a11 0) w8 fun x13 =>
      ldA 512 (Addr.add ⟨b5, 0, none⟩ 1) w8 fun x14 =>
      ix x13 1024 p1 fun a15 =>
      stA 512 (Addr.add a15 0) x14 w9 fun w17 =>
      drw w17 fun w18 =>
      nn p0 fun a20 =>
      ldL (Addr.add a20 1) w17 fun x22 =>
      ldA 513 ⟨b5, 0, none⟩ w17 fun x23 =>
      nd (δ := Unit) (α := Sl) w18 (fun d26 v_ => True) (fun d26 K27 w28 =>
        cR Try.prog 60 r60 #[Sl.v x22] w28 fun x30 w31 =>
        K27 x30 w31) fun F29 =>
      nd (δ := Unit) (α := Sl) w18 (fun d32 v_ => True) (fun d32 K33 w34 =>
        newA 513 116 x23 w34 fun b36 w37 =>
        K33 ⟨some ⟨b36, 0, none⟩, 1, 1⟩ w37) fun F35 =>
      ∀ (x24 : Sl) (x25 : Sl) (w38 : World), Ext w18 w38 → F29 () x24 w38 → F35 () x25 w38 →
      app Try.prog 91 x24 x25 w38 fun x40 w41 =>
      nn p0 fun a42 =>
      st1 (Addr.add a42 1) (Sl.v x40) w41 fun w44 =>
      cR Try.prog 61 r61 #[.pointer p0] w44 fun x45 w46 =>
      K x45 w46))
/-- (*dowser/disk.Disk).Flush -/
def s34 (K : Int → World → Prop) (p0 : Option Addr) (w : World) : Prop :=
  cR Try.prog 38 r38 #[.pointer p0] w fun x1 w2 =>
  ifB x1 (
    K 6 w2) (
    cR Try.prog 61 r61 #[.pointer p0] w2 fun x4 w5 =>
    ifB (!decide (x4 = 0)) (
      K x4 w5) (
      nn p0 fun a7 =>
      ldL (Addr.add a7 1) w5 fun x9 =>
      LoopS (σ := Int) (fun next12 s10 w11 =>
        ifB (decide (s10 < (x9.len : Int))) (
          ix x9 513 s10 fun a18 =>
          ldA 513 a18 w11 fun x20 =>
          newA 513 116 x20 w11 fun b21 w22 =>
          drw w22 fun w23 =>
          nn p0 fun a25 =>
          ldL (Addr.add a25 0) w22 fun x27 =>
          ldI .i64 (Addr.add ⟨b21, 0, none⟩ 0) w22 fun x28 =>
          ldA 512 (Addr.add ⟨b21, 0, none⟩ 1) w22 fun x29 =>
          ix x27 1024 x28 fun a30 =>
          stA 512 (Addr.add a30 512) x29 w23 fun w32 =>
          next12 (IntKind.i64.wrap (s10 + 1)) w32) (
          nn p0 fun a33 =>
          st1 (Addr.add a33 1) (Sl.v nilSl) w11 fun w35 =>
          K 0 w35)) 0 w5))
/-- (*dowser/disk.Disk).Crash -/
def s35 (K : Unit → World → Prop) (p0 : Option Addr) (p1 : List Value) (w : World) : Prop :=
  newB 27 p1 w fun b1 w2 =>
  cR Try.prog 38 r38 #[.pointer p0] w2 fun x3 w4 =>
  ifB x3 (
    K () w4) (
    nn p0 fun a6 =>
    ldL (Addr.add a6 1) w4 fun x8 =>
    nn p0 fun a9 =>
    ldL (Addr.add a9 1) w4 fun x11 =>
    LoopS (σ := Int) (fun next14 s12 w13 =>
      ifB (decide (s12 < (x11.len : Int))) (
        jn (J := Unit → World → Prop) (fun J22 =>
          ix x11 513 s12 fun a23 =>
          ldA 513 a23 w13 fun x25 =>
          newA 513 116 x25 w13 fun b26 w27 =>
          drw w27 fun w28 =>
          nn p0 fun a30 =>
          ldL (Addr.add a30 0) w27 fun x32 =>
          ldI .i64 (Addr.add ⟨b26, 0, none⟩ 0) w27 fun x33 =>
          ix x32 1024 x33 fun a34 =>
          jn (J := Bool → World → Prop) (fun J37 =>
            ifB (decide (s12 < 64)) (
              ldI .u64 (Addr.add ⟨b1, 0, none⟩ 1) w28 fun x38 =>
              rq (0 ≤ s12) <|
              J37 (decide ((andI .u64 (shrI .u64 x38 s12) 1) = 1)) w28) (
              J37 false w28)) fun s39 w40 =>
          ifB s39 (
            ldA 512 (Addr.add ⟨b26, 0, none⟩ 1) w40 fun x52 =>
            stA 512 (Addr.add a34 512) x52 w40 fun w53 =>
            J22 () w53) (
            ifB (decide (s12 = (IntKind.i64.wrap ((x8.len : Int) - 1)))) (
              drw w40 fun w55 =>
              ldI .i64 (Addr.add ⟨b1, 0, none⟩ 2) w40 fun x57 =>
              rq ((0 : Int) ≤ 0 ∧ (0 : Int) ≤ (mx 0 (mn x57 512)) ∧ ((mx 0 (mn x57 512)) : Int) ≤ 512) <|
              cpy Try.prog #[39, 39] 3 #[Sl.v (Sl.cut ⟨some (Addr.add a34 512), 512, 512⟩ 1 0 (mx 0 (mn x57 512)) 512), Sl.v (Sl.cut ⟨some (Addr.add ⟨b26, 0, none⟩ 1), 512, 512⟩ 1 0 512 512)] w55 fun x58 w59 =>
              J22 () w59) (
              J22 () w40))) fun s62 w63 =>
        next14 (IntKind.i64.wrap (s12 + 1)) w63) (
        nn p0 fun a72 =>
        ldL (Addr.add a72 0) w13 fun x74 =>
        LoopS (σ := Int) (fun next77 s75 w76 =>
          ifB (decide (s75 < (x74.len : Int))) (
            drw w76 fun w82 =>
            nn p0 fun a84 =>
            ldL (Addr.add a84 0) w76 fun x86 =>
            nn p0 fun a87 =>
            ldL (Addr.add a87 0) w76 fun x89 =>
            ix x89 1024 s75 fun a90 =>
            ldA 512 (Addr.add a90 512) w76 fun x92 =>
            ix x86 1024 s75 fun a93 =>
            stA 512 (Addr.add a93 0) x92 w82 fun w95 =>
            next77 (IntKind.i64.wrap (s75 + 1)) w95) (
            nn p0 fun a96 =>
            st1 (Addr.add a96 1) (Sl.v nilSl) w76 fun w98 =>
            nn p0 fun a99 =>
            st1 (Addr.add a99 4) (.bool true) w98 fun w101 =>
            K () w101)) 0 w13)) 0 w4)
/-- (*dowser/disk.Disk).Clone -/
def s36 (K : Option Addr → World → Prop) (p0 : Option Addr) (w : World) : Prop :=
  ifB (p0.isNone) (
    K none w) (
    nn p0 fun a2 =>
    ldA 5 a2 w fun x4 =>
    newA 5 93 x4 w fun b5 w6 =>
    drw w6 fun w7 =>
    nn p0 fun a9 =>
    ldL (Addr.add a9 0) w6 fun x11 =>
    nn p0 fun a12 =>
    ldL (Addr.add a12 1) w6 fun x14 =>
    cR Try.prog 62 r62 #[Sl.v x11] w7 fun x15 w16 =>
    rq (Ext w6 w16) <|
    cR Try.prog 63 r63 #[Sl.v x14] w16 fun x18 w19 =>
    st1 (Addr.add ⟨b5, 0, none⟩ 0) (Sl.v x15) w19 fun w20 =>
    st1 (Addr.add ⟨b5, 0, none⟩ 1) (Sl.v x18) w20 fun w21 =>
    st1 (Addr.add ⟨b5, 0, none⟩ 2) (Sl.v nilSl) w21 fun w22 =>
    K (some ⟨b5, 0, none⟩) w22)
/-- (*dowser/disk.Disk).Plan -/
def s37 (K : Unit → World → Prop) (p0 : Option Addr) (p1 : Sl) (w : World) : Prop :=
  ifB (!p0.isNone) (
    cR Try.prog 64 r64 #[Sl.v p1] w fun x2 w3 =>
    nn p0 fun a4 =>
    st1 (Addr.add a4 2) (Sl.v x2) w3 fun w6 =>
    K () w6) (
    K () w)
/-- (*dowser/disk.Disk).Down -/
def s38 (K : Bool → World → Prop) (p0 : Option Addr) (w : World) : Prop :=
  jn (J := Bool → World → Prop) (fun J2 =>
    ifB (p0.isNone) (
      J2 true w) (
      nn p0 fun a3 =>
      ldB (Addr.add a3 4) w fun x5 =>
      J2 x5 w)) fun s6 w7 =>
  K s6 w7
/-- (*dowser/disk.Disk).Blocks -/
def s39 (K : Int → World → Prop) (p0 : Option Addr) (w : World) : Prop :=
  ifB (p0.isNone) (
    K 0 w) (
    nn p0 fun a2 =>
    ldL (Addr.add a2 0) w fun x4 =>
    K (x4.len : Int) w)
/-- dowser/dowserlaw03.play -/
def s40 (K : List Value × Bool → World → Prop) (p0 : Option Addr) (p1 : List Value) (p2 : List Value) (w : World) : Prop :=
  newB 49 p1 w fun b1 w2 =>
  newB 65 p2 w2 fun b3 w4 =>
  newB 49 [Value.slice none 0 0, Value.slice none 0 0, Value.slice none 0 0, Value.int .i64 0, Value.bool false] w4 fun b5 w6 =>
  ldI .i64 (Addr.add ⟨b3, 0, none⟩ 0) w6 fun x7 =>
  ifB (decide ((Int.tmod (IntKind.u64.wrap x7) 7) = 0)) (
    ldI .u8 (Addr.add ⟨b3, 0, none⟩ 2) w6 fun x9 =>
    ldS (Addr.add ⟨b3, 0, none⟩ 3) w6 fun x10 =>
    cR Try.prog 32 r32 #[.int .u8 x9, str x10] w6 fun x11 w12 =>
    jn (J := Sl → World → Prop) (fun J13 =>
      ldB (Addr.add ⟨b3, 0, none⟩ 4) w12 fun x14 =>
      ifB x14 (
        newB 5 [.int .u8 0] w12 fun b16 w17 =>
        app Try.prog 39 x11 ⟨some ⟨b16, 0, none⟩, 1, 1⟩ w17 fun x18 w19 =>
        J13 x18 w19) (
        J13 x11 w12)) fun s20 w21 =>
    ldI .i64 (Addr.add ⟨b3, 0, none⟩ 1) w21 fun x27 =>
    cR Try.prog 33 r33 #[.pointer p0, .int .i64 x27, Sl.v s20] w21 fun x28 w29 =>
    ldA 5 ⟨b1, 0, none⟩ w29 fun x30 =>
    ldI .i64 (Addr.add ⟨b3, 0, none⟩ 1) w29 fun x31 =>
    b2s s20 w29 fun x32 =>
    cR Try.prog 42 r42 #[aggv x30, .int .i64 x31, str x32] w29 fun x33 w34 =>
    newA 5 49 x33.1 w34 fun b35 w36 =>
    LoopS (σ := Int) (fun next39 s37 w38 =>
      ifB (decide (s37 < (s20.len : Int))) (
        ix s20 1 s37 fun a48 =>
        ldI .u8 a48 w38 fun x50 =>
        ix s20 1 s37 fun a51 =>
        st1 a51 (.int .u8 (IntKind.u8.wrap (x50 + 1))) w38 fun w53 =>
        next39 (IntKind.i64.wrap (s37 + 1)) w53) (
        ldA 5 ⟨b35, 0, none⟩ w38 fun x54 =>
        stA 5 ⟨b5, 0, none⟩ x54 w38 fun w55 =>
        ldA 5 ⟨b5, 0, none⟩ w55 fun x56 =>
        K (x56, (decide (x28 = x33.2))) w55)) 0 w36) (
    ifB (decide ((Int.tmod (IntKind.u64.wrap x7) 7) = 1)) (
      cR Try.prog 34 r34 #[.pointer p0] w6 fun x62 w63 =>
      ldA 5 ⟨b1, 0, none⟩ w63 fun x64 =>
      cR Try.prog 65 r65 #[aggv x64] w63 fun x65 w66 =>
      newA 5 49 x65.1 w66 fun b67 w68 =>
      ldA 5 ⟨b67, 0, none⟩ w68 fun x69 =>
      stA 5 ⟨b5, 0, none⟩ x69 w68 fun w70 =>
      ldA 5 ⟨b5, 0, none⟩ w70 fun x71 =>
      K (x71, (decide (x62 = x65.2))) w70) (
      ifB (decide ((Int.tmod (IntKind.u64.wrap x7) 7) = 2)) (
        ldI .i64 (Addr.add ⟨b3, 0, none⟩ 1) w6 fun x73 =>
        cR Try.prog 28 r28 #[.pointer p0, .int .i64 x73] w6 fun x74 w75 =>
        ldA 5 ⟨b1, 0, none⟩ w75 fun x76 =>
        ldI .i64 (Addr.add ⟨b3, 0, none⟩ 1) w75 fun x77 =>
        cR Try.prog 66 r66 #[aggv x76, .int .i64 x77] w75 fun x78 w79 =>
        ifB (!decide (x78 = 0)) (
          ldA 5 ⟨b1, 0, none⟩ w79 fun x81 =>
          jn (J := Bool → World → Prop) (fun J83 =>
            ifB (decide (x74.2 = x78)) (
              J83 (decide ((x74.1.len : Int) = 0)) w79) (
              J83 false w79)) fun s84 w85 =>
          stA 5 ⟨b5, 0, none⟩ x81 w85 fun w89 =>
          ldA 5 ⟨b5, 0, none⟩ w89 fun x90 =>
          K (x90, s84) w89) (
          drw w79 fun w93 =>
          rq (some (Addr.block ⟨b1, 0, none⟩) ≠ (some (Addr.block ⟨b5, 0, none⟩))) <|
          ldA 5 ⟨b1, 0, none⟩ w79 fun x95 =>
          jn (J := Bool → World → Prop) (fun J97 =>
            ifB (decide (x74.2 = 0)) (
              rq (∀ a_, Sl.a x74.1 = some a_ → some (Addr.block a_) ≠ (some (Addr.block ⟨b5, 0, none⟩))) <|
              b2s x74.1 w79 fun x99 =>
              rq (some (Addr.block ⟨b1, 0, none⟩) ≠ (some (Addr.block ⟨b5, 0, none⟩))) <|
              ldA 5 ⟨b1, 0, none⟩ w79 fun x101 =>
              rq (some (Addr.block (Addr.add ⟨b3, 0, none⟩ 1)) ≠ (some (Addr.block ⟨b5, 0, none⟩))) <|
              ldI .i64 (Addr.add ⟨b3, 0, none⟩ 1) w79 fun x103 =>
              cR Try.prog 29 r29 #[aggv x101, .int .i64 x103] w93 fun x105 w106 =>
              rq (Ext w93 w106) <|
              J97 (decide (x99 = x105)) w106) (
              J97 false w93)) fun s108 w109 =>
          stA 5 ⟨b5, 0, none⟩ x95 w109 fun w114 =>
          ldA 5 ⟨b5, 0, none⟩ w114 fun x116 =>
          K (x116, s108) w114)) (
        ifB (decide ((Int.tmod (IntKind.u64.wrap x7) 7) = 3)) (
          ldA 3 (Addr.add ⟨b3, 0, none⟩ 5) w6 fun x120 =>
          cR Try.prog 35 r35 #[.pointer p0, aggv x120] w6 fun x121 w122 =>
          ldA 5 ⟨b1, 0, none⟩ w122 fun x123 =>
          ldA 3 (Addr.add ⟨b3, 0, none⟩ 5) w122 fun x124 =>
          cR Try.prog 58 r58 #[aggv x123, aggv x124] w122 fun x125 w126 =>
          stA 5 ⟨b5, 0, none⟩ x125 w126 fun w127 =>
          ldA 5 ⟨b5, 0, none⟩ w127 fun x128 =>
          K (x128, true) w127) (
          ifB (decide ((Int.tmod (IntKind.u64.wrap x7) 7) = 4)) (
            ldB (Addr.add ⟨b1, 0, none⟩ 4) w6 fun x130 =>
            st1 (Addr.add ⟨b1, 0, none⟩ 4) (.bool false) w6 fun w131 =>
            xr fun X132 =>
            drw w131 fun w133 =>
            rq (¬ X132 (Addr.block ⟨b1, 0, none⟩)) <|
            ldA 5 ⟨b1, 0, none⟩ w131 fun x135 =>
            cR Try.prog 27 r27 #[.pointer p0] w133 fun x137 w138 =>
            rq (ExtX X132 w133 w138) <|
            stA 5 ⟨b5, 0, none⟩ x135 w138 fun w140 =>
            ldA 5 ⟨b5, 0, none⟩ w140 fun x141 =>
            K (x141, (x137 == x130)) w140) (
            ifB (decide ((Int.tmod (IntKind.u64.wrap x7) 7) = 5)) (
              newB 27 [] w6 fun b143 w144 =>
              ldL (Addr.add ⟨b3, 0, none⟩ 8) w144 fun x145 =>
              app Try.prog 47 ⟨some ⟨b143, 0, none⟩, 0, 0⟩ x145 w144 fun x146 w147 =>
              cR Try.prog 37 r37 #[.pointer p0, Sl.v x146] w147 fun x148 w149 =>
              LoopS (σ := Int) (fun next152 s150 w151 =>
                ifB (decide (s150 < (x146.len : Int))) (
                  cR Try.prog 19 r19 #[.pointer p0] w151 fun x161 w162 =>
                  ix x146 3 s150 fun a163 =>
                  stA 3 a163 [.int .i64 x161, Value.int .u64 0, Value.int .i64 0] w162 fun w165 =>
                  next152 (IntKind.i64.wrap (s150 + 1)) w165) (
                  ldL (Addr.add ⟨b3, 0, none⟩ 8) w151 fun x166 =>
                  st1 (Addr.add ⟨b1, 0, none⟩ 2) (Sl.v x166) w151 fun w167 =>
                  ldA 5 ⟨b1, 0, none⟩ w167 fun x168 =>
                  stA 5 ⟨b5, 0, none⟩ x168 w167 fun w169 =>
                  ldA 5 ⟨b5, 0, none⟩ w169 fun x170 =>
                  K (x170, true) w169)) 0 w149) (
              cR Try.prog 36 r36 #[.pointer p0] w6 fun x173 w174 =>
              drw w174 fun w175 =>
              ldI .i64 (Addr.add ⟨b3, 0, none⟩ 1) w174 fun x177 =>
              ldI .u8 (Addr.add ⟨b3, 0, none⟩ 2) w174 fun x178 =>
              cR Try.prog 32 r32 #[.int .u8 x178, str [99, 108, 111, 110, 101]] w175 fun x179 w180 =>
              rq (Ext w174 w180) <|
              cR Try.prog 33 r33 #[.pointer x173, .int .i64 x177, Sl.v x179] w180 fun x182 w183 =>
              cR Try.prog 34 r34 #[.pointer x173] w183 fun x184 w185 =>
              drw w185 fun w186 =>
              rq (some (Addr.block ⟨b1, 0, none⟩) ≠ (some (Addr.block ⟨b5, 0, none⟩))) <|
              ldA 5 ⟨b1, 0, none⟩ w185 fun x188 =>
              rq (some (Addr.block ⟨b1, 0, none⟩) ≠ (some (Addr.block ⟨b5, 0, none⟩))) <|
              ldA 5 ⟨b1, 0, none⟩ w185 fun x190 =>
              rq (some (Addr.block (Addr.add ⟨b3, 0, none⟩ 1)) ≠ (some (Addr.block ⟨b5, 0, none⟩))) <|
              ldI .i64 (Addr.add ⟨b3, 0, none⟩ 1) w185 fun x192 =>
              cR Try.prog 66 r66 #[aggv x190, .int .i64 x192] w186 fun x194 w195 =>
              rq (Ext w186 w195) <|
              jn (J := Bool → World → Prop) (fun J197 =>
                ifB (decide (x182 = x194)) (
                  rq (some (Addr.block (Addr.add ⟨b1, 0, none⟩ 4)) ≠ (some (Addr.block ⟨b5, 0, none⟩))) <|
                  ldB (Addr.add ⟨b1, 0, none⟩ 4) w185 fun x199 =>
                  J197 ((decide (x184 = 0)) == (!x199)) w195) (
                  J197 false w195)) fun s201 w202 =>
              jn (J := Bool → World → Prop) (fun J209 =>
                ifB s201 (
                  rq (some (Addr.block (Addr.add ⟨b1, 0, none⟩ 4)) ≠ (some (Addr.block ⟨b5, 0, none⟩))) <|
                  ldB (Addr.add ⟨b1, 0, none⟩ 4) w185 fun x211 =>
                  cR Try.prog 38 r38 #[.pointer x173] w202 fun x213 w214 =>
                  rq (Ext w202 w214) <|
                  J209 (x213 == x211) w214) (
                  J209 false w202)) fun s216 w217 =>
              stA 5 ⟨b5, 0, none⟩ x188 w217 fun w222 =>
              ldA 5 ⟨b5, 0, none⟩ w222 fun x224 =>
              K (x224, s216) w222))))))
/-- dowser/dowserref04.Head -/
def s41 (K : List UInt8 → World → Prop) (p0 : Int) (p1 : Int) (w : World) : Prop :=
  drw w fun w1 =>
  nd (δ := Unit) (α := List UInt8) w1 (fun d9 v_ => True) (fun d9 K10 w11 =>
    cR Try.prog 67 r67 #[.int .u64 p0] w11 fun x13 w14 =>
    K10 x13 w14) fun F12 =>
  nd (δ := List UInt8) (α := List UInt8) w1 (fun d15 v_ => F12 () d15 v_) (fun d15 K16 w17 =>
    cR Try.prog 67 r67 #[.int .u64 p1] w17 fun x19 w20 =>
    K16 x19 w20) fun F18 =>
  nd (δ := List UInt8 × List UInt8) (α := List UInt8) w1 (fun d21 v_ => F12 () d21.1 v_ ∧ F18 d21.1 d21.2 v_) (fun d21 K22 w23 =>
    cR Try.prog 67 r67 #[.int .u64 p1] w23 fun x25 w26 =>
    K22 x25 w26) fun F24 =>
  nd (δ := List UInt8 × List UInt8 × List UInt8) (α := List UInt8) w1 (fun d27 v_ => F12 () d27.1 v_ ∧ F18 d27.1 d27.2.1 v_ ∧ F24 (d27.1, d27.2.1) d27.2.2 v_) (fun d27 K28 w29 =>
    cR Try.prog 67 r67 #[.int .u64 p0] w29 fun x31 w32 =>
    K28 x31 w32) fun F30 =>
  nd (δ := Unit) (α := Sl) w1 (fun d33 v_ => True) (fun d33 K34 w35 =>
    mkS 5 1 1 (Value.int .u8 0) 464 464 w35 fun x39 w38 =>
    K34 x39 w38) fun F36 =>
  nd (δ := Sl) (α := List UInt8) w1 (fun d40 v_ => F36 () d40 v_) (fun d40 K41 w42 =>
    b2s d40 w42 fun x44 =>
    K41 x44 w42) fun F43 =>
  rq (∀ (x3 : List UInt8) (v_ : World), Ext w1 v_ → F12 () x3 v_ → [100, 111, 119, 115, 101, 114, 32, 108].length + x3.length ≤ 9223372036854775807) <|
  rq (∀ (x3 : List UInt8) (x4 : List UInt8) (v_ : World), Ext w1 v_ → F12 () x3 v_ → F18 x3 x4 v_ → ([100, 111, 119, 115, 101, 114, 32, 108] ++ x3).length + x4.length ≤ 9223372036854775807) <|
  rq (∀ (x3 : List UInt8) (x4 : List UInt8) (v_ : World), Ext w1 v_ → F12 () x3 v_ → F18 x3 x4 v_ → (([100, 111, 119, 115, 101, 114, 32, 108] ++ x3) ++ x4).length + [100, 111, 119, 115, 101, 114, 32, 108].length ≤ 9223372036854775807) <|
  rq (∀ (x3 : List UInt8) (x4 : List UInt8) (x5 : List UInt8) (v_ : World), Ext w1 v_ → F12 () x3 v_ → F18 x3 x4 v_ → F24 (x3, x4) x5 v_ → ((([100, 111, 119, 115, 101, 114, 32, 108] ++ x3) ++ x4) ++ [100, 111, 119, 115, 101, 114, 32, 108]).length + x5.length ≤ 9223372036854775807) <|
  rq (∀ (x3 : List UInt8) (x4 : List UInt8) (x5 : List UInt8) (x6 : List UInt8) (v_ : World), Ext w1 v_ → F12 () x3 v_ → F18 x3 x4 v_ → F24 (x3, x4) x5 v_ → F30 (x3, x4, x5) x6 v_ → (((([100, 111, 119, 115, 101, 114, 32, 108] ++ x3) ++ x4) ++ [100, 111, 119, 115, 101, 114, 32, 108]) ++ x5).length + x6.length ≤ 9223372036854775807) <|
  rq (∀ (x3 : List UInt8) (x4 : List UInt8) (x5 : List UInt8) (x6 : List UInt8) (x7 : Sl) (x8 : List UInt8) (v_ : World), Ext w1 v_ → F12 () x3 v_ → F18 x3 x4 v_ → F24 (x3, x4) x5 v_ → F30 (x3, x4, x5) x6 v_ → F36 () x7 v_ → F43 x7 x8 v_ → ((((([100, 111, 119, 115, 101, 114, 32, 108] ++ x3) ++ x4) ++ [100, 111, 119, 115, 101, 114, 32, 108]) ++ x5) ++ x6).length + x8.length ≤ 9223372036854775807) <|
  ∀ (x3 : List UInt8) (x4 : List UInt8) (x5 : List UInt8) (x6 : List UInt8) (x7 : Sl) (x8 : List UInt8) (w51 : World), Ext w1 w51 → F12 () x3 w51 → F18 x3 x4 w51 → F24 (x3, x4) x5 w51 → F30 (x3, x4, x5) x6 w51 → F36 () x7 w51 → F43 x7 x8 w51 →
  K (((((([100, 111, 119, 115, 101, 114, 32, 108] ++ x3) ++ x4) ++ [100, 111, 119, 115, 101, 114, 32, 108]) ++ x5) ++ x6) ++ x8) w51
/-- dowser/dowserref03.Put -/
def s42 (K : List Value × Int → World → Prop) (p0 : List Value) (p1 : Int) (p2 : List UInt8) (w : World) : Prop :=
  newB 49 p0 w fun b1 w2 =>
  newB 49 [Value.slice none 0 0, Value.slice none 0 0, Value.slice none 0 0, Value.int .i64 0, Value.bool false] w2 fun b3 w4 =>
  ldA 5 ⟨b1, 0, none⟩ w4 fun x5 =>
  cR Try.prog 66 r66 #[aggv x5, .int .i64 p1] w4 fun x6 w7 =>
  ifB (!decide (x6 = 0)) (
    ldA 5 ⟨b1, 0, none⟩ w7 fun x9 =>
    stA 5 ⟨b3, 0, none⟩ x9 w7 fun w10 =>
    ldA 5 ⟨b3, 0, none⟩ w10 fun x11 =>
    K (x11, x6) w10) (
    ifB (!decide ((p2.length : Int) = 512)) (
      ldA 5 ⟨b1, 0, none⟩ w7 fun x13 =>
      stA 5 ⟨b3, 0, none⟩ x13 w7 fun w14 =>
      ldA 5 ⟨b3, 0, none⟩ w14 fun x15 =>
      K (x15, 1) w14) (
      newB 114 [] w7 fun b16 w17 =>
      ldL (Addr.add ⟨b1, 0, none⟩ 1) w17 fun x18 =>
      app Try.prog 46 ⟨some ⟨b16, 0, none⟩, 0, 0⟩ x18 w17 fun x19 w20 =>
      newA 2 114 [.int .i64 p1, str p2] w20 fun b21 w22 =>
      app Try.prog 46 x19 ⟨some ⟨b21, 0, none⟩, 1, 1⟩ w22 fun x23 w24 =>
      st1 (Addr.add ⟨b1, 0, none⟩ 1) (Sl.v x23) w24 fun w25 =>
      ldA 5 ⟨b1, 0, none⟩ w25 fun x26 =>
      cR Try.prog 68 r68 #[aggv x26] w25 fun x27 w28 =>
      stA 5 ⟨b3, 0, none⟩ x27.1 w28 fun w29 =>
      ldA 5 ⟨b3, 0, none⟩ w29 fun x30 =>
      K (x30, x27.2) w29))
/-- (*dowser/dowserlaw04.both).like -/
def s43 (K : Bool → World → Prop) (p0 : Option Addr) (w : World) : Prop :=
  nn p0 fun a1 =>
  ldP (Addr.add a1 1) w fun x3 =>
  ifB (x3.isNone) (
    K true w) (
    drw w fun w5 =>
    nn p0 fun a7 =>
    ldP (Addr.add a7 1) w fun x9 =>
    nn p0 fun a10 =>
    ldI .i64 (Addr.add (Addr.add a10 2) 6) w fun x12 =>
    nn p0 fun a13 =>
    ldS (Addr.add (Addr.add a13 2) 8) w fun x15 =>
    cR Try.prog 17 r17 #[.pointer x9] w5 fun x16 w17 =>
    rq (Ext w w17) <|
    jn (J := Bool → World → Prop) (fun J19 =>
      ifB (decide (x16 = (IntKind.i64.wrap (x12 - (x15.length : Int))))) (
        nn p0 fun a21 =>
        ldP (Addr.add a21 1) w fun x23 =>
        nn p0 fun a24 =>
        ldI .i64 (Addr.add (Addr.add a24 2) 9) w fun x26 =>
        cR Try.prog 22 r22 #[.pointer x23] w17 fun x27 w28 =>
        rq (Ext w w28) <|
        J19 (decide (x27 = x26)) w28) (
        J19 false w17)) fun s30 w31 =>
    jn (J := Bool → World → Prop) (fun J35 =>
      ifB s30 (
        nn p0 fun a37 =>
        ldP (Addr.add a37 1) w fun x39 =>
        nn p0 fun a40 =>
        ldB (Addr.add (Addr.add a40 2) 10) w fun x42 =>
        cR Try.prog 46 r46 #[.pointer x39] w31 fun x43 w44 =>
        rq (Ext w w44) <|
        J35 (x43 == x42) w44) (
        J35 false w31)) fun s46 w47 =>
    jn (J := Bool → World → Prop) (fun J51 =>
      ifB s46 (
        nn p0 fun a53 =>
        ldP (Addr.add a53 0) w fun x55 =>
        nn p0 fun a56 =>
        ldI .i64 (Addr.add (Addr.add (Addr.add a56 2) 0) 3) w fun x58 =>
        cR Try.prog 19 r19 #[.pointer x55] w47 fun x59 w60 =>
        rq (Ext w w60) <|
        J51 (decide (x59 = x58)) w60) (
        J51 false w47)) fun s62 w63 =>
    K s62 w63)
/-- dowser/dowserlaw04.texts -/
def s44 (K : Sl → World → Prop) (p0 : Sl) (w : World) : Prop :=
  LoopS (σ := Sl × Int) (fun next3 s1 w2 =>
    ifB (decide (s1.2 < (p0.len : Int))) (
      ix p0 1 s1.2 fun a9 =>
      ldL a9 w2 fun x11 =>
      b2s x11 w2 fun x12 =>
      newB 9 [str x12] w2 fun b13 w14 =>
      app Try.prog 45 s1.1 ⟨some ⟨b13, 0, none⟩, 1, 1⟩ w14 fun x15 w16 =>
      next3 (x15, (IntKind.i64.wrap (s1.2 + 1))) w16) (
      K s1.1 w2)) (nilSl, 0) w
/-- dowser/dowserlaw04.same -/
def s45 (K : Bool → World → Prop) (p0 : Sl) (p1 : Sl) (w : World) : Prop :=
  ifB (!decide ((p0.len : Int) = (p1.len : Int))) (
    K false w) (
    LoopS (σ := Int) (fun next4 s2 w3 =>
      ifB (decide (s2 < (p1.len : Int))) (
        ix p1 1 s2 fun a10 =>
        ldS a10 w3 fun x12 =>
        ix p0 1 s2 fun a13 =>
        ldL a13 w3 fun x15 =>
        b2s x15 w3 fun x16 =>
        ifB (!decide (x16 = x12)) (
          K false w3) (
          next4 (IntKind.i64.wrap (s2 + 1)) w3)) (
        K true w3)) 0 w)
/-- (*dowser/wal.Log).Broken -/
def s46 (K : Bool → World → Prop) (p0 : Option Addr) (w : World) : Prop :=
  jn (J := Bool → World → Prop) (fun J2 =>
    ifB (p0.isNone) (
      J2 true w) (
      nn p0 fun a3 =>
      ldB (Addr.add a3 6) w fun x5 =>
      J2 x5 w)) fun s6 w7 =>
  K s6 w7
/-- dowser/wal.right -/
def s47 (K : Int × Int → World → Prop) (p0 : Sl) (p1 : Int) (w : World) : Prop :=
  drw w fun w1 =>
  rq ((0 : Int) ≤ 8 ∧ (8 : Int) ≤ 16 ∧ (16 : Int) ≤ (p0.cap : Int)) <|
  rq ((0 : Int) ≤ 16 ∧ (16 : Int) ≤ 24 ∧ (24 : Int) ≤ (p0.cap : Int)) <|
  cR Try.prog 69 r69 #[Sl.v (p0.cut 1 8 16 p0.cap)] w1 fun x3 w4 =>
  cR Try.prog 69 r69 #[Sl.v (p0.cut 1 16 24 p0.cap)] w4 fun x5 w6 =>
  drw w6 fun w7 =>
  rq ((0 : Int) ≤ 0 ∧ (0 : Int) ≤ 24 ∧ (24 : Int) ≤ (p0.cap : Int)) <|
  b2s (p0.cut 1 0 24 p0.cap) w6 fun x9 =>
  cR Try.prog 70 r70 #[.int .u64 x3, .int .u64 x5] w7 fun x10 w11 =>
  rq (Ext w6 w11) <|
  b2s x10 w11 fun x13 =>
  jn (J := Bool → World → Prop) (fun J15 =>
    ifB (!decide (x9 = x13)) (
      J15 true w11) (
      rq ((0 : Int) ≤ 24 ∧ (24 : Int) ≤ 48 ∧ (48 : Int) ≤ (p0.cap : Int)) <|
      b2s (p0.cut 1 24 48 p0.cap) w6 fun x17 =>
      cR Try.prog 70 r70 #[.int .u64 x5, .int .u64 x3] w11 fun x18 w19 =>
      rq (Ext w6 w19) <|
      b2s x18 w19 fun x21 =>
      J15 (!decide (x17 = x21)) w19)) fun s23 w24 =>
  jn (J := Bool → World → Prop) (fun J30 =>
    ifB s23 (
      J30 true w24) (
      J30 (decide (x3 < 1)) w24)) fun s32 w33 =>
  jn (J := Bool → World → Prop) (fun J39 =>
    ifB s32 (
      J39 true w33) (
      J39 (decide (4611686018427387904 < x3)) w33)) fun s41 w42 =>
  jn (J := Bool → World → Prop) (fun J48 =>
    ifB s41 (
      J48 true w42) (
      J48 (decide ((IntKind.u64.wrap p1) < x5)) w42)) fun s50 w51 =>
  ifB s50 (
    K (0, 0) w51) (
    K (x3, (IntKind.i64.wrap x5)) w51)
/-- (*dowser/wal.Log).head -/
def s48 (K : Int → World → Prop) (p0 : Option Addr) (p1 : Int) (p2 : Int) (w : World) : Prop :=
  mkS 5 1 1 (Value.int .u8 0) 512 512 w fun x3 w2 =>
  cR Try.prog 70 r70 #[.int .u64 p1, .int .u64 (IntKind.u64.wrap p2)] w2 fun x4 w5 =>
  cR Try.prog 70 r70 #[.int .u64 (IntKind.u64.wrap p2), .int .u64 p1] w5 fun x6 w7 =>
  newB 39 [Sl.v x4, Sl.v x6] w7 fun b8 w9 =>
  cR Try.prog 71 r71 #[Sl.v ⟨some ⟨b8, 0, none⟩, 2, 2⟩] w9 fun x10 w11 =>
  cpy Try.prog #[39, 39] 3 #[Sl.v x3, Sl.v x10] w11 fun x12 w13 =>
  drw w13 fun w14 =>
  nn p0 fun a16 =>
  ldP (Addr.add a16 0) w13 fun x18 =>
  nn p0 fun a19 =>
  ldI .i64 (Addr.add a19 1) w13 fun x21 =>
  cR Try.prog 33 r33 #[.pointer x18, .int .i64 (IntKind.i64.wrap (x21 + (IntKind.i64.wrap (Int.tmod p1 2)))), Sl.v x3] w14 fun x22 w23 =>
  jn (J := Int → World → Prop) (fun J24 =>
    ifB (decide (x22 = 0)) (
      nn p0 fun a26 =>
      ldP (Addr.add a26 0) w23 fun x28 =>
      cR Try.prog 34 r34 #[.pointer x28] w23 fun x29 w30 =>
      J24 x29 w30) (
      J24 x22 w23)) fun s31 w32 =>
  ifB (!decide (s31 = 0)) (
    nn p0 fun a37 =>
    st1 (Addr.add a37 6) (.bool true) w32 fun w39 =>
    K s31 w39) (
    nn p0 fun a40 =>
    st1 (Addr.add a40 3) (.int .u64 p1) w32 fun w42 =>
    K 0 w42)
/-- slices.Clip[[]byte,byte] -/
def s49 (K : Sl → World → Prop) (p0 : Sl) (w : World) : Prop :=
  rq ((0 : Int) ≤ 0 ∧ (0 : Int) ≤ (p0.len : Int) ∧ ((p0.len : Int) : Int) ≤ (p0.len : Int) ∧ ((p0.len : Int) : Int) ≤ (p0.cap : Int)) <|
  K (p0.cut 1 0 (p0.len : Int) (p0.len : Int)) w
/-- dowser/wal.parse -/
def s50 (K : Sl × Int → World → Prop) (p0 : Sl) (w : World) : Prop :=
  LoopS (σ := Sl × Sl) (fun next3 s1 w2 =>
    ifB (decide (0 < (s1.1.len : Int))) (
      cR Try.prog 72 r72 #[Sl.v s1.1] w2 fun x7 w8 =>
      cR Try.prog 73 r73 #[.pointer x7] w8 fun x9 w10 =>
      cR Try.prog 74 r74 #[.pointer x7] w10 fun x11 w12 =>
      cR Try.prog 75 r75 #[.pointer x7] w12 fun x13 w14 =>
      jn (J := Bool → World → Prop) (fun J16 =>
        ifB (!decide (x13 = 0)) (
          J16 true w14) (
          cR Try.prog 74 r74 #[.pointer x7] w14 fun x17 w18 =>
          J16 (decide (x17 < 4)) w18)) fun s19 w20 =>
      jn (J := Bool → World → Prop) (fun J28 =>
        ifB s19 (
          J28 true w20) (
          cR Try.prog 74 r74 #[.pointer x7] w20 fun x29 w30 =>
          J28 (decide ((IntKind.u64.wrap (IntKind.i64.wrap (x29 - 4))) < x9)) w30)) fun s31 w32 =>
      ifB s31 (
        K (nilSl, 7) w32) (
        rq ((0 : Int) ≤ (IntKind.i64.wrap ((IntKind.i64.wrap ((s1.1.len : Int) - x11)) + 4)) ∧ ((IntKind.i64.wrap ((IntKind.i64.wrap ((s1.1.len : Int) - x11)) + 4)) : Int) ≤ (IntKind.i64.wrap ((IntKind.i64.wrap ((IntKind.i64.wrap ((s1.1.len : Int) - x11)) + 4)) + (IntKind.i64.wrap x9))) ∧ ((IntKind.i64.wrap ((IntKind.i64.wrap ((IntKind.i64.wrap ((s1.1.len : Int) - x11)) + 4)) + (IntKind.i64.wrap x9))) : Int) ≤ (s1.1.cap : Int)) <|
        drw w32 fun w39 =>
        rq ((0 : Int) ≤ 0 ∧ (0 : Int) ≤ (IntKind.i64.wrap ((IntKind.i64.wrap ((IntKind.i64.wrap ((s1.1.len : Int) - x11)) + 4)) + (IntKind.i64.wrap x9))) ∧ ((IntKind.i64.wrap ((IntKind.i64.wrap ((IntKind.i64.wrap ((s1.1.len : Int) - x11)) + 4)) + (IntKind.i64.wrap x9))) : Int) ≤ (s1.1.cap : Int)) <|
        b2s (s1.1.cut 1 0 (IntKind.i64.wrap ((IntKind.i64.wrap ((IntKind.i64.wrap ((s1.1.len : Int) - x11)) + 4)) + (IntKind.i64.wrap x9))) s1.1.cap) w32 fun x41 =>
        cR Try.prog 54 r54 #[Sl.v (s1.1.cut 1 (IntKind.i64.wrap ((IntKind.i64.wrap ((s1.1.len : Int) - x11)) + 4)) (IntKind.i64.wrap ((IntKind.i64.wrap ((IntKind.i64.wrap ((s1.1.len : Int) - x11)) + 4)) + (IntKind.i64.wrap x9))) s1.1.cap)] w39 fun x42 w43 =>
        rq (Ext w32 w43) <|
        b2s x42 w43 fun x45 =>
        ifB (!decide (x45 = x41)) (
          K (nilSl, 20) w43) (
          cR Try.prog 53 r53 #[Sl.v (s1.1.cut 1 (IntKind.i64.wrap ((IntKind.i64.wrap ((s1.1.len : Int) - x11)) + 4)) (IntKind.i64.wrap ((IntKind.i64.wrap ((IntKind.i64.wrap ((s1.1.len : Int) - x11)) + 4)) + (IntKind.i64.wrap x9))) s1.1.cap)] w43 fun x48 w49 =>
          newB 39 [Sl.v x48] w49 fun b50 w51 =>
          app Try.prog 22 s1.2 ⟨some ⟨b50, 0, none⟩, 1, 1⟩ w51 fun x52 w53 =>
          rq ((0 : Int) ≤ (IntKind.i64.wrap ((IntKind.i64.wrap ((IntKind.i64.wrap ((s1.1.len : Int) - x11)) + 4)) + (IntKind.i64.wrap x9))) ∧ ((IntKind.i64.wrap ((IntKind.i64.wrap ((IntKind.i64.wrap ((s1.1.len : Int) - x11)) + 4)) + (IntKind.i64.wrap x9))) : Int) ≤ (s1.1.len : Int)) <|
          next3 ((s1.1.cut 1 (IntKind.i64.wrap ((IntKind.i64.wrap ((IntKind.i64.wrap ((s1.1.len : Int) - x11)) + 4)) + (IntKind.i64.wrap x9))) (s1.1.len : Int) s1.1.cap), x52) w53))) (
      K (s1.2, 0) w2)) (p0, nilSl) w
/-- dowser/dowserref01.Num -/
def s51 (K : List UInt8 → World → Prop) (p0 : Int) (w : World) : Prop :=
  ifB (decide (p0 < 128)) (
    newB 5 [.int .u8 (IntKind.u8.wrap p0)] w fun b2 w3 =>
    b2s ⟨some ⟨b2, 0, none⟩, 1, 1⟩ w3 fun x4 =>
    K x4 w3) (
    drw w fun w5 =>
    nd (δ := Unit) (α := Sl) w5 (fun d10 v_ => True) (fun d10 K11 w12 =>
      newB 5 [.int .u8 (IntKind.u8.wrap ((IntKind.u8.wrap (Int.tmod p0 128)) + 128))] w12 fun b14 w15 =>
      K11 ⟨some ⟨b14, 0, none⟩, 1, 1⟩ w15) fun F13 =>
    nd (δ := Sl) (α := List UInt8) w5 (fun d16 v_ => F13 () d16 v_) (fun d16 K17 w18 =>
      b2s d16 w18 fun x20 =>
      K17 x20 w18) fun F19 =>
    nd (δ := Unit) (α := List UInt8) w5 (fun d21 v_ => True) (fun d21 K22 w23 =>
      cR Try.prog 51 r51 #[.int .u64 (IntKind.u64.wrap (Int.tdiv p0 128))] w23 fun x25 w26 =>
      K22 x25 w26) fun F24 =>
    rq (∀ (x7 : Sl) (x8 : List UInt8) (x9 : List UInt8) (v_ : World), Ext w5 v_ → F13 () x7 v_ → F19 x7 x8 v_ → F24 () x9 v_ → x8.length + x9.length ≤ 9223372036854775807) <|
    ∀ (x7 : Sl) (x8 : List UInt8) (x9 : List UInt8) (w28 : World), Ext w5 w28 → F13 () x7 w28 → F19 x7 x8 w28 → F24 () x9 w28 →
    K (x8 ++ x9) w28)
/-- dowser/dowserref02.Seal -/
def s52 (K : List UInt8 → World → Prop) (p0 : List UInt8) (w : World) : Prop :=
  cR Try.prog 76 r76 #[str p0] w fun x1 w2 =>
  newB 5 [.int .u8 (IntKind.u8.wrap x1), .int .u8 (IntKind.u8.wrap (IntKind.u32.wrap (Int.tdiv x1 256))), .int .u8 (IntKind.u8.wrap (IntKind.u32.wrap (Int.tdiv x1 65536))), .int .u8 (IntKind.u8.wrap (IntKind.u32.wrap (Int.tdiv x1 16777216)))] w2 fun b3 w4 =>
  b2s ⟨some ⟨b3, 0, none⟩, 4, 4⟩ w4 fun x5 =>
  rq (p0.length + x5.length ≤ 9223372036854775807) <|
  K (p0 ++ x5) w4
/-- slices.Clone[[]byte,byte] -/
def s53 (K : Sl → World → Prop) (p0 : Sl) (w : World) : Prop :=
  ifB (p0.a.isNone) (
    K nilSl w) (
    newB 5 [] w fun b2 w3 =>
    app Try.prog 39 ⟨some ⟨b2, 0, none⟩, 0, 0⟩ p0 w3 fun x4 w5 =>
    K x4 w5)
/-- dowser/wal.frame -/
def s54 (K : Sl → World → Prop) (p0 : Sl) (w : World) : Prop :=
  newB 39 [Sl.v p0] w fun b1 w2 =>
  cR Try.prog 77 r77 #[Sl.v ⟨some ⟨b1, 0, none⟩, 1, 1⟩] w2 fun x3 w4 =>
  cR Try.prog 78 r78 #[.int .u64 (IntKind.u64.wrap (p0.len : Int))] w4 fun x5 w6 =>
  LoopS (σ := Int × Sl × Int) (fun next9 s7 w8 =>
    ifB (decide (s7.2.2 < 4)) (
      newB 5 [.int .u8 (IntKind.u8.wrap s7.1)] w8 fun b15 w16 =>
      app Try.prog 39 s7.2.1 ⟨some ⟨b15, 0, none⟩, 1, 1⟩ w16 fun x17 w18 =>
      next9 ((shrI .u32 s7.1 8), x17, (IntKind.i64.wrap (s7.2.2 + 1))) w18) (
      app Try.prog 39 s7.2.1 p0 w8 fun x19 w20 =>
      K x19 w20)) (x3, x5, 0) w6
/-- dowser/dowserref04.Open -/
def s55 (K : List Value × Sl × Int → World → Prop) (p0 : List Value) (p1 : Int) (p2 : Int) (w : World) : Prop :=
  newB 49 p0 w fun b1 w2 =>
  newB 52 [Value.slice none 0 0, Value.slice none 0 0, Value.slice none 0 0, Value.int .i64 0, Value.bool false, Value.int .i64 0, Value.int .i64 0, Value.int .u64 0, str [], Value.int .i64 0, Value.bool false] w2 fun b3 w4 =>
  ldA 5 ⟨b1, 0, none⟩ w4 fun x5 =>
  rq (x5.length = 5) <|
  newA 11 52 (x5 ++ ([.int .i64 p1] : List Value) ++ ([.int .i64 (IntKind.i64.wrap ((IntKind.i64.wrap (p2 - 2)) * 512))] : List Value) ++ ([Value.int .u64 0] : List Value) ++ ([str []] : List Value) ++ ([Value.int .i64 0] : List Value) ++ ([Value.bool false] : List Value)) w4 fun b6 w7 =>
  ldB (Addr.add ⟨b1, 0, none⟩ 4) w7 fun x8 =>
  ifB x8 (
    ldA 11 ⟨b6, 0, none⟩ w7 fun x10 =>
    stA 11 ⟨b3, 0, none⟩ x10 w7 fun w11 =>
    ldA 11 ⟨b3, 0, none⟩ w11 fun x12 =>
    K (x12, nilSl, 6) w11) (
    LoopS (σ := Int × Int) (fun next15 s13 w14 =>
      ifB (decide (s13.2 < 2)) (
        jn (J := Int → World → Prop) (fun J23 =>
          drw w14 fun w24 =>
          ldA 5 ⟨b1, 0, none⟩ w14 fun x26 =>
          ldI .i64 (Addr.add ⟨b6, 0, none⟩ 6) w14 fun x27 =>
          cR Try.prog 29 r29 #[aggv x26, .int .i64 (IntKind.i64.wrap (p1 + s13.2))] w24 fun x28 w29 =>
          rq (Ext w14 w29) <|
          cR Try.prog 79 r79 #[str x28, .int .i64 x27] w29 fun x31 w32 =>
          ldI .u64 (Addr.add ⟨b6, 0, none⟩ 7) w32 fun x33 =>
          ifB (decide (x33 < x31.1)) (
            st1 (Addr.add ⟨b6, 0, none⟩ 7) (.int .u64 x31.1) w32 fun w35 =>
            J23 x31.2 w35) (
            J23 s13.1 w32)) fun s36 w37 =>
        next15 (s36, (IntKind.i64.wrap (s13.2 + 1))) w37) (
        ldI .u64 (Addr.add ⟨b6, 0, none⟩ 7) w14 fun x46 =>
        ifB (decide (x46 = 0)) (
          ldA 11 ⟨b6, 0, none⟩ w14 fun x48 =>
          cR Try.prog 80 r80 #[aggv x48, .int .u64 1, str []] w14 fun x49 w50 =>
          newA 11 52 x49.1 w50 fun b51 w52 =>
          ldA 11 ⟨b51, 0, none⟩ w52 fun x53 =>
          stA 11 ⟨b3, 0, none⟩ x53 w52 fun w54 =>
          ldA 11 ⟨b3, 0, none⟩ w54 fun x55 =>
          K (x55, nilSl, x49.2) w54) (
          LoopS (σ := List UInt8 × Int) (fun next58 s56 w57 =>
            ifB (decide ((s56.1.length : Int) < s13.1)) (
              ldA 5 ⟨b1, 0, none⟩ w57 fun x67 =>
              cR Try.prog 29 r29 #[aggv x67, .int .i64 (IntKind.i64.wrap (p1 + s56.2))] w57 fun x68 w69 =>
              rq (s56.1.length + x68.length ≤ 9223372036854775807) <|
              next58 ((s56.1 ++ x68), (IntKind.i64.wrap (s56.2 + 1))) w69) (
              rq ((0 : Int) ≤ 0 ∧ (0 : Int) ≤ s13.1 ∧ (s13.1 : Int) ≤ (s56.1.length : Int)) <|
              st1 (Addr.add ⟨b6, 0, none⟩ 8) (str ((s56.1.take (Int.toNat s13.1)).drop (Int.toNat 0))) w57 fun w70 =>
              ldS (Addr.add ⟨b6, 0, none⟩ 8) w70 fun x71 =>
              cR Try.prog 81 r81 #[str x71] w70 fun x72 w73 =>
              st1 (Addr.add ⟨b6, 0, none⟩ 9) (.int .i64 (x72.1.len : Int)) w73 fun w74 =>
              ldA 11 ⟨b6, 0, none⟩ w74 fun x75 =>
              stA 11 ⟨b3, 0, none⟩ x75 w74 fun w76 =>
              ldA 11 ⟨b3, 0, none⟩ w76 fun x77 =>
              K (x77, x72.1, x72.2) w76)) ([], 2) w14))) (0, 0) w7)
/-- dowser/dowserref04.Add -/
def s56 (K : List Value × Int → World → Prop) (p0 : List Value) (p1 : Sl) (w : World) : Prop :=
  newB 52 p0 w fun b1 w2 =>
  newB 52 [Value.slice none 0 0, Value.slice none 0 0, Value.slice none 0 0, Value.int .i64 0, Value.bool false, Value.int .i64 0, Value.int .i64 0, Value.int .u64 0, str [], Value.int .i64 0, Value.bool false] w2 fun b3 w4 =>
  ldB (Addr.add ⟨b1, 0, none⟩ 10) w4 fun x5 =>
  ifB x5 (
    ldA 11 ⟨b1, 0, none⟩ w4 fun x7 =>
    stA 11 ⟨b3, 0, none⟩ x7 w4 fun w8 =>
    ldA 11 ⟨b3, 0, none⟩ w8 fun x9 =>
    K (x9, 3) w8) (
    ifB (decide ((p1.len : Int) = 0)) (
      ldA 11 ⟨b1, 0, none⟩ w4 fun x11 =>
      stA 11 ⟨b3, 0, none⟩ x11 w4 fun w12 =>
      ldA 11 ⟨b3, 0, none⟩ w12 fun x13 =>
      K (x13, 0) w12) (
      ldS (Addr.add ⟨b1, 0, none⟩ 8) w4 fun x14 =>
      LoopS (σ := List UInt8 × Int) (fun next17 s15 w16 =>
        jn (J := Bool → World → Prop) (fun J24 =>
          ifB (decide (s15.2 < (p1.len : Int))) (
            ldI .i64 (Addr.add ⟨b1, 0, none⟩ 6) w16 fun x25 =>
            J24 (decide ((s15.1.length : Int) ≤ x25)) w16) (
            J24 false w16)) fun s26 w27 =>
        ifB s26 (
          ix p1 1 s15.2 fun a35 =>
          ldS a35 w27 fun x37 =>
          cR Try.prog 18 r18 #[str x37] w27 fun x38 w39 =>
          rq (s15.1.length + x38.length ≤ 9223372036854775807) <|
          next17 ((s15.1 ++ x38), (IntKind.i64.wrap (s15.2 + 1))) w39) (
          ldI .i64 (Addr.add ⟨b1, 0, none⟩ 6) w27 fun x40 =>
          jn (J := Bool → World → Prop) (fun J42 =>
            ifB (decide (x40 < (s15.1.length : Int))) (
              J42 true w27) (
              ldI .u64 (Addr.add ⟨b1, 0, none⟩ 7) w27 fun x43 =>
              J42 (decide (x43 = 4611686018427387904)) w27)) fun s44 w45 =>
          ifB s44 (
            ldA 11 ⟨b1, 0, none⟩ w45 fun x52 =>
            stA 11 ⟨b3, 0, none⟩ x52 w45 fun w53 =>
            ldA 11 ⟨b3, 0, none⟩ w53 fun x54 =>
            K (x54, 40) w53) (
            LoopS (σ := List UInt8) (fun next57 s55 w56 =>
              ifB (!decide ((Int.tmod (s55.length : Int) 512) = 0)) (
                rq (s55.length + [0].length ≤ 9223372036854775807) <|
                next57 (s55 ++ [0]) w56) (
                ldS (Addr.add ⟨b1, 0, none⟩ 8) w56 fun x64 =>
                LoopS (σ := Int) (fun next67 s65 w66 =>
                  ifB (decide (s65 < (IntKind.i64.wrap (Int.tdiv (s55.length : Int) 512)))) (
                    drw w66 fun w75 =>
                    ldA 5 (Addr.add ⟨b1, 0, none⟩ 0) w66 fun x77 =>
                    ldI .i64 (Addr.add ⟨b1, 0, none⟩ 5) w66 fun x78 =>
                    rq ((0 : Int) ≤ (IntKind.i64.wrap (s65 * 512)) ∧ ((IntKind.i64.wrap (s65 * 512)) : Int) ≤ (IntKind.i64.wrap ((IntKind.i64.wrap (s65 + 1)) * 512)) ∧ ((IntKind.i64.wrap ((IntKind.i64.wrap (s65 + 1)) * 512)) : Int) ≤ (s55.length : Int)) <|
                    nd (δ := Unit) (α := (List Value × Int)) w75 (fun d81 v_ => True) (fun d81 K82 w83 =>
                      cR Try.prog 42 r42 #[aggv x77, .int .i64 (IntKind.i64.wrap ((IntKind.i64.wrap (x78 + 2)) + s65)), str ((s55.take (Int.toNat (IntKind.i64.wrap ((IntKind.i64.wrap (s65 + 1)) * 512)))).drop (Int.toNat (IntKind.i64.wrap (s65 * 512))))] w83 fun x85 w86 =>
                      K82 (x85.1, x85.2) w86) fun F84 =>
                    nd (δ := Unit) (α := Addr) w75 (fun d87 v_ => True) (fun d87 K88 w89 =>
                      newB 49 [Value.slice none 0 0, Value.slice none 0 0, Value.slice none 0 0, Value.int .i64 0, Value.bool false] w89 fun b91 w92 =>
                      K88 ⟨b91, 0, none⟩ w92) fun F90 =>
                    ∀ (x79 : (List Value × Int)) (x80 : Addr) (w93 : World), Ext w75 w93 → F84 () x79 w93 → F90 () x80 w93 →
                    stA 5 x80 x79.1 w93 fun w95 =>
                    ldA 5 x80 w95 fun x96 =>
                    stA 5 (Addr.add ⟨b1, 0, none⟩ 0) x96 w95 fun w97 =>
                    ifB (!decide (x79.2 = 0)) (
                      st1 (Addr.add ⟨b1, 0, none⟩ 10) (.bool true) w97 fun w99 =>
                      ldA 11 ⟨b1, 0, none⟩ w99 fun x100 =>
                      stA 11 ⟨b3, 0, none⟩ x100 w99 fun w101 =>
                      ldA 11 ⟨b3, 0, none⟩ w101 fun x102 =>
                      K (x102, x79.2) w101) (
                      next67 (IntKind.i64.wrap (s65 + 1)) w97)) (
                    ldA 5 (Addr.add ⟨b1, 0, none⟩ 0) w66 fun x121 =>
                    cR Try.prog 65 r65 #[aggv x121] w66 fun x122 w123 =>
                    newA 5 49 x122.1 w123 fun b124 w125 =>
                    ldA 5 ⟨b124, 0, none⟩ w125 fun x126 =>
                    stA 5 (Addr.add ⟨b1, 0, none⟩ 0) x126 w125 fun w127 =>
                    ifB (!decide (x122.2 = 0)) (
                      st1 (Addr.add ⟨b1, 0, none⟩ 10) (.bool true) w127 fun w129 =>
                      ldA 11 ⟨b1, 0, none⟩ w129 fun x130 =>
                      stA 11 ⟨b3, 0, none⟩ x130 w129 fun w131 =>
                      ldA 11 ⟨b3, 0, none⟩ w131 fun x132 =>
                      K (x132, x122.2) w131) (
                      ldA 11 ⟨b1, 0, none⟩ w127 fun x133 =>
                      ldI .u64 (Addr.add ⟨b1, 0, none⟩ 7) w127 fun x134 =>
                      cR Try.prog 80 r80 #[aggv x133, .int .u64 (IntKind.u64.wrap (x134 + 1)), str s15.1] w127 fun x135 w136 =>
                      stA 11 ⟨b1, 0, none⟩ x135.1 w136 fun w137 =>
                      jn (J := Unit → World → Prop) (fun J138 =>
                        ifB (decide (x135.2 = 0)) (
                          ldI .i64 (Addr.add ⟨b1, 0, none⟩ 9) w137 fun x140 =>
                          st1 (Addr.add ⟨b1, 0, none⟩ 9) (.int .i64 (IntKind.i64.wrap (x140 + (p1.len : Int)))) w137 fun w141 =>
                          J138 () w141) (
                          J138 () w137)) fun s142 w143 =>
                      ldA 11 ⟨b1, 0, none⟩ w143 fun x147 =>
                      stA 11 ⟨b3, 0, none⟩ x147 w143 fun w148 =>
                      ldA 11 ⟨b3, 0, none⟩ w148 fun x149 =>
                      K (x149, x135.2) w148))) (IntKind.i64.wrap (Int.tdiv (x64.length : Int) 512)) w56)) s15.1 w45))) (x14, 0) w4))
/-- dowser/dowserref04.Reset -/
def s57 (K : List Value × Int → World → Prop) (p0 : List Value) (w : World) : Prop :=
  newB 52 p0 w fun b1 w2 =>
  newB 52 [Value.slice none 0 0, Value.slice none 0 0, Value.slice none 0 0, Value.int .i64 0, Value.bool false, Value.int .i64 0, Value.int .i64 0, Value.int .u64 0, str [], Value.int .i64 0, Value.bool false] w2 fun b3 w4 =>
  ldB (Addr.add ⟨b1, 0, none⟩ 10) w4 fun x5 =>
  ifB x5 (
    ldA 11 ⟨b1, 0, none⟩ w4 fun x7 =>
    stA 11 ⟨b3, 0, none⟩ x7 w4 fun w8 =>
    ldA 11 ⟨b3, 0, none⟩ w8 fun x9 =>
    K (x9, 3) w8) (
    ldI .u64 (Addr.add ⟨b1, 0, none⟩ 7) w4 fun x10 =>
    ifB (decide (x10 = 4611686018427387904)) (
      ldA 11 ⟨b1, 0, none⟩ w4 fun x12 =>
      stA 11 ⟨b3, 0, none⟩ x12 w4 fun w13 =>
      ldA 11 ⟨b3, 0, none⟩ w13 fun x14 =>
      K (x14, 40) w13) (
      ldA 11 ⟨b1, 0, none⟩ w4 fun x15 =>
      ldI .u64 (Addr.add ⟨b1, 0, none⟩ 7) w4 fun x16 =>
      cR Try.prog 80 r80 #[aggv x15, .int .u64 (IntKind.u64.wrap (x16 + 1)), str []] w4 fun x17 w18 =>
      stA 11 ⟨b1, 0, none⟩ x17.1 w18 fun w19 =>
      jn (J := Unit → World → Prop) (fun J20 =>
        ifB (decide (x17.2 = 0)) (
          st1 (Addr.add ⟨b1, 0, none⟩ 9) (.int .i64 0) w19 fun w22 =>
          J20 () w22) (
          J20 () w19)) fun s23 w24 =>
      ldA 11 ⟨b1, 0, none⟩ w24 fun x28 =>
      stA 11 ⟨b3, 0, none⟩ x28 w24 fun w29 =>
      ldA 11 ⟨b3, 0, none⟩ w29 fun x30 =>
      K (x30, x17.2) w29))
/-- dowser/dowserref03.Crash -/
def s58 (K : List Value → World → Prop) (p0 : List Value) (p1 : List Value) (w : World) : Prop :=
  newB 49 p0 w fun b1 w2 =>
  newB 27 p1 w2 fun b3 w4 =>
  newB 49 [Value.slice none 0 0, Value.slice none 0 0, Value.slice none 0 0, Value.int .i64 0, Value.bool false] w4 fun b5 w6 =>
  ldB (Addr.add ⟨b1, 0, none⟩ 4) w6 fun x7 =>
  ifB x7 (
    ldA 5 ⟨b1, 0, none⟩ w6 fun x9 =>
    stA 5 ⟨b5, 0, none⟩ x9 w6 fun w10 =>
    ldA 5 ⟨b5, 0, none⟩ w10 fun x11 =>
    K x11 w10) (
    ldI .u64 (Addr.add ⟨b3, 0, none⟩ 1) w6 fun x12 =>
    LoopS (σ := Int × Int) (fun next15 s13 w14 =>
      ldL (Addr.add ⟨b1, 0, none⟩ 1) w14 fun x21 =>
      ifB (decide (s13.2 < (x21.len : Int))) (
        ldL (Addr.add ⟨b1, 0, none⟩ 1) w14 fun x23 =>
        ix x23 2 s13.2 fun a24 =>
        ldA 2 a24 w14 fun x26 =>
        newA 2 114 x26 w14 fun b27 w28 =>
        jn (J := Int → World → Prop) (fun J29 =>
          ifB (decide ((Int.tmod s13.1 2) = 1)) (
            J29 512 w28) (
            ldL (Addr.add ⟨b1, 0, none⟩ 1) w28 fun x31 =>
            ifB (decide (s13.2 = (IntKind.i64.wrap ((x31.len : Int) - 1)))) (
              ldI .i64 (Addr.add ⟨b3, 0, none⟩ 2) w28 fun x33 =>
              J29 (mx 0 (mn x33 512)) w28) (
              J29 0 w28))) fun s34 w35 =>
        drw w35 fun w43 =>
        ldL (Addr.add ⟨b1, 0, none⟩ 0) w35 fun x45 =>
        ldI .i64 (Addr.add ⟨b27, 0, none⟩ 0) w35 fun x46 =>
        ldS (Addr.add ⟨b27, 0, none⟩ 1) w35 fun x47 =>
        rq ((0 : Int) ≤ 0 ∧ (0 : Int) ≤ s34 ∧ (s34 : Int) ≤ (x47.length : Int)) <|
        ldL (Addr.add ⟨b1, 0, none⟩ 0) w35 fun x48 =>
        ldI .i64 (Addr.add ⟨b27, 0, none⟩ 0) w35 fun x49 =>
        ix x48 1 x49 fun a50 =>
        ldS a50 w35 fun x52 =>
        rq ((0 : Int) ≤ s34 ∧ (s34 : Int) ≤ (x52.length : Int) ∧ ((x52.length : Int) : Int) ≤ (x52.length : Int)) <|
        rq (((x47.take (Int.toNat s34)).drop (Int.toNat 0)).length + ((x52.take (Int.toNat (x52.length : Int))).drop (Int.toNat s34)).length ≤ 9223372036854775807) <|
        cR Try.prog 82 r82 #[Sl.v x45, .int .i64 x46, str (((x47.take (Int.toNat s34)).drop (Int.toNat 0)) ++ ((x52.take (Int.toNat (x52.length : Int))).drop (Int.toNat s34)))] w43 fun x53 w54 =>
        st1 (Addr.add ⟨b1, 0, none⟩ 0) (Sl.v x53) w54 fun w55 =>
        next15 ((IntKind.u64.wrap (Int.tdiv s13.1 2)), (IntKind.i64.wrap (s13.2 + 1))) w55) (
        ldL (Addr.add ⟨b1, 0, none⟩ 0) w14 fun x58 =>
        ldL (Addr.add ⟨b1, 0, none⟩ 2) w14 fun x59 =>
        ldI .i64 (Addr.add ⟨b1, 0, none⟩ 3) w14 fun x60 =>
        stA 5 ⟨b5, 0, none⟩ [Sl.v x58, Value.slice none 0 0, Sl.v x59, .int .i64 x60, .bool true] w14 fun w61 =>
        ldA 5 ⟨b5, 0, none⟩ w61 fun x62 =>
        K x62 w61)) (x12, 0) w6)
/-- (*dowser/disk.Disk).has -/
def s59 (K : Int → World → Prop) (p0 : Option Addr) (p1 : Int) (w : World) : Prop :=
  cR Try.prog 38 r38 #[.pointer p0] w fun x1 w2 =>
  ifB x1 (
    K 6 w2) (
    jn (J := Bool → World → Prop) (fun J5 =>
      ifB (decide (p1 < 0)) (
        J5 true w2) (
        nn p0 fun a6 =>
        ldL (Addr.add a6 0) w2 fun x8 =>
        J5 (decide ((x8.len : Int) ≤ p1)) w2)) fun s9 w10 =>
    ifB s9 (
      K 2 w10) (
      K 0 w10))
/-- slices.Clip[[]dowser/disk.write,dowser/disk.write] -/
def s60 (K : Sl → World → Prop) (p0 : Sl) (w : World) : Prop :=
  rq ((0 : Int) ≤ 0 ∧ (0 : Int) ≤ (p0.len : Int) ∧ ((p0.len : Int) : Int) ≤ (p0.len : Int) ∧ ((p0.len : Int) : Int) ≤ (p0.cap : Int)) <|
  K (p0.cut 513 0 (p0.len : Int) (p0.len : Int)) w
/-- (*dowser/disk.Disk).strike -/
def s61 (K : Int → World → Prop) (p0 : Option Addr) (w : World) : Prop :=
  nn p0 fun a1 =>
  ldI .i64 (Addr.add a1 3) w fun x3 =>
  nn p0 fun a4 =>
  ldI .i64 (Addr.add a4 3) w fun x6 =>
  nn p0 fun a7 =>
  st1 (Addr.add a7 3) (.int .i64 (IntKind.i64.wrap (x6 + 1))) w fun w9 =>
  nn p0 fun a10 =>
  ldL (Addr.add a10 2) w9 fun x12 =>
  LoopS (σ := Int) (fun next15 s13 w14 =>
    ifB (decide (s13 < (x12.len : Int))) (
      ix x12 3 s13 fun a22 =>
      ldA 3 a22 w14 fun x24 =>
      newA 3 27 x24 w14 fun b25 w26 =>
      ldI .i64 (Addr.add ⟨b25, 0, none⟩ 0) w26 fun x27 =>
      ifB (decide (x27 = x3)) (
        ldA 3 ⟨b25, 0, none⟩ w26 fun x29 =>
        cR Try.prog 35 r35 #[.pointer p0, aggv x29] w26 fun x30 w31 =>
        K 6 w31) (
        next15 (IntKind.i64.wrap (s13 + 1)) w26)) (
      K 0 w14)) 0 w9
/-- slices.Clone[[]dowser/disk.block,dowser/disk.block] -/
def s62 (K : Sl → World → Prop) (p0 : Sl) (w : World) : Prop :=
  ifB (p0.a.isNone) (
    K nilSl w) (
    newB 112 [] w fun b2 w3 =>
    app Try.prog 90 ⟨some ⟨b2, 0, none⟩, 0, 0⟩ p0 w3 fun x4 w5 =>
    K x4 w5)
/-- slices.Clone[[]dowser/disk.write,dowser/disk.write] -/
def s63 (K : Sl → World → Prop) (p0 : Sl) (w : World) : Prop :=
  ifB (p0.a.isNone) (
    K nilSl w) (
    newB 116 [] w fun b2 w3 =>
    app Try.prog 91 ⟨some ⟨b2, 0, none⟩, 0, 0⟩ p0 w3 fun x4 w5 =>
    K x4 w5)
/-- slices.Clone[[]dowser/api.Fall,dowser/api.Fall] -/
def s64 (K : Sl → World → Prop) (p0 : Sl) (w : World) : Prop :=
  ifB (p0.a.isNone) (
    K nilSl w) (
    newB 27 [] w fun b2 w3 =>
    app Try.prog 47 ⟨some ⟨b2, 0, none⟩, 0, 0⟩ p0 w3 fun x4 w5 =>
    K x4 w5)
/-- dowser/dowserref03.Flush -/
def s65 (K : List Value × Int → World → Prop) (p0 : List Value) (w : World) : Prop :=
  newB 49 p0 w fun b1 w2 =>
  newB 49 [Value.slice none 0 0, Value.slice none 0 0, Value.slice none 0 0, Value.int .i64 0, Value.bool false] w2 fun b3 w4 =>
  ldB (Addr.add ⟨b1, 0, none⟩ 4) w4 fun x5 =>
  ifB x5 (
    ldA 5 ⟨b1, 0, none⟩ w4 fun x7 =>
    stA 5 ⟨b3, 0, none⟩ x7 w4 fun w8 =>
    ldA 5 ⟨b3, 0, none⟩ w8 fun x9 =>
    K (x9, 6) w8) (
    ldA 5 ⟨b1, 0, none⟩ w4 fun x10 =>
    cR Try.prog 68 r68 #[aggv x10] w4 fun x11 w12 =>
    newA 5 49 x11.1 w12 fun b13 w14 =>
    ifB (!decide (x11.2 = 0)) (
      ldA 5 ⟨b13, 0, none⟩ w14 fun x16 =>
      stA 5 ⟨b3, 0, none⟩ x16 w14 fun w17 =>
      ldA 5 ⟨b3, 0, none⟩ w17 fun x18 =>
      K (x18, x11.2) w17) (
      LoopS (σ := Int) (fun next21 s19 w20 =>
        ldL (Addr.add ⟨b13, 0, none⟩ 1) w20 fun x25 =>
        ifB (decide (s19 < (x25.len : Int))) (
          drw w20 fun w27 =>
          ldL (Addr.add ⟨b13, 0, none⟩ 0) w20 fun x29 =>
          ldL (Addr.add ⟨b13, 0, none⟩ 1) w20 fun x30 =>
          ix x30 2 s19 fun a31 =>
          ldI .i64 (Addr.add a31 0) w20 fun x33 =>
          ldL (Addr.add ⟨b13, 0, none⟩ 1) w20 fun x34 =>
          ix x34 2 s19 fun a35 =>
          ldS (Addr.add a35 1) w20 fun x37 =>
          cR Try.prog 82 r82 #[Sl.v x29, .int .i64 x33, str x37] w27 fun x38 w39 =>
          st1 (Addr.add ⟨b13, 0, none⟩ 0) (Sl.v x38) w39 fun w40 =>
          next21 (IntKind.i64.wrap (s19 + 1)) w40) (
          st1 (Addr.add ⟨b13, 0, none⟩ 1) (Sl.v nilSl) w20 fun w41 =>
          ldA 5 ⟨b13, 0, none⟩ w41 fun x42 =>
          stA 5 ⟨b3, 0, none⟩ x42 w41 fun w43 =>
          ldA 5 ⟨b3, 0, none⟩ w43 fun x44 =>
          K (x44, 0) w43)) 0 w14))
/-- dowser/dowserref03.Why -/
def s66 (K : Int → World → Prop) (p0 : List Value) (p1 : Int) (w : World) : Prop :=
  newB 49 p0 w fun b1 w2 =>
  ldB (Addr.add ⟨b1, 0, none⟩ 4) w2 fun x3 =>
  ifB x3 (
    K 6 w2) (
    jn (J := Bool → World → Prop) (fun J6 =>
      ifB (decide (p1 < 0)) (
        J6 true w2) (
        ldL (Addr.add ⟨b1, 0, none⟩ 0) w2 fun x7 =>
        J6 (decide ((x7.len : Int) ≤ p1)) w2)) fun s8 w9 =>
    ifB s8 (
      K 2 w9) (
      K 0 w9))
/-- dowser/dowserref04.high -/
def s67 (K : List UInt8 → World → Prop) (p0 : Int) (w : World) : Prop :=
  LoopS (σ := Int × List UInt8 × Int) (fun next3 s1 w2 =>
    ifB (decide (s1.2.2 < 8)) (
      newB 5 [.int .u8 (IntKind.u8.wrap (Int.tmod s1.1 256))] w2 fun b8 w9 =>
      b2s ⟨some ⟨b8, 0, none⟩, 1, 1⟩ w9 fun x10 =>
      rq (x10.length + s1.2.1.length ≤ 9223372036854775807) <|
      next3 ((IntKind.u64.wrap (Int.tdiv s1.1 256)), (x10 ++ s1.2.1), (IntKind.i64.wrap (s1.2.2 + 1))) w9) (
      K s1.2.1 w2)) (p0, [], 0) w
/-- dowser/dowserref03.strike -/
def s68 (K : List Value × Int → World → Prop) (p0 : List Value) (w : World) : Prop :=
  newB 49 p0 w fun b1 w2 =>
  newB 49 [Value.slice none 0 0, Value.slice none 0 0, Value.slice none 0 0, Value.int .i64 0, Value.bool false] w2 fun b3 w4 =>
  ldI .i64 (Addr.add ⟨b1, 0, none⟩ 3) w4 fun x5 =>
  ldI .i64 (Addr.add ⟨b1, 0, none⟩ 3) w4 fun x6 =>
  st1 (Addr.add ⟨b1, 0, none⟩ 3) (.int .i64 (IntKind.i64.wrap (x6 + 1))) w4 fun w7 =>
  LoopS (σ := Int) (fun next10 s8 w9 =>
    ldL (Addr.add ⟨b1, 0, none⟩ 2) w9 fun x15 =>
    ifB (decide (s8 < (x15.len : Int))) (
      ldL (Addr.add ⟨b1, 0, none⟩ 2) w9 fun x17 =>
      ix x17 3 s8 fun a18 =>
      ldI .i64 (Addr.add a18 0) w9 fun x20 =>
      ifB (decide (x20 = x5)) (
        drw w9 fun w22 =>
        ldA 5 ⟨b1, 0, none⟩ w9 fun x24 =>
        ldL (Addr.add ⟨b1, 0, none⟩ 2) w9 fun x25 =>
        ix x25 3 s8 fun a26 =>
        ldA 3 a26 w9 fun x28 =>
        cR Try.prog 58 r58 #[aggv x24, aggv x28] w22 fun x29 w30 =>
        stA 5 ⟨b3, 0, none⟩ x29 w30 fun w31 =>
        ldA 5 ⟨b3, 0, none⟩ w31 fun x32 =>
        K (x32, 6) w31) (
        next10 (IntKind.i64.wrap (s8 + 1)) w9)) (
      ldA 5 ⟨b1, 0, none⟩ w9 fun x33 =>
      stA 5 ⟨b3, 0, none⟩ x33 w9 fun w34 =>
      ldA 5 ⟨b3, 0, none⟩ w34 fun x35 =>
      K (x35, 0) w34)) 0 w7
/-- dowser/wal.low -/
def s69 (K : Int → World → Prop) (p0 : Sl) (w : World) : Prop :=
  LoopS (σ := Int × Int) (fun next3 s1 w2 =>
    ifB (decide (s1.2 < (p0.len : Int))) (
      ix p0 1 s1.2 fun a9 =>
      ldI .u8 a9 w2 fun x11 =>
      next3 ((orI .u64 (shlI .u64 s1.1 8) (IntKind.u64.wrap x11)), (IntKind.i64.wrap (s1.2 + 1))) w2) (
      K s1.1 w2)) (0, 0) w
/-- dowser/wal.half -/
def s70 (K : Sl → World → Prop) (p0 : Int) (p1 : Int) (w : World) : Prop :=
  newB 5 [.int .u8 100, .int .u8 111, .int .u8 119, .int .u8 115, .int .u8 101, .int .u8 114, .int .u8 32, .int .u8 108] w fun b1 w2 =>
  mkd ⟨some ⟨b1, 0, none⟩, 8, 8⟩ w2 fun w3 =>
  cR Try.prog 83 r83 #[.int .u64 p0] w3 fun x4 w5 =>
  cR Try.prog 83 r83 #[.int .u64 p1] w5 fun x6 w7 =>
  newB 39 [Sl.v ⟨some ⟨b1, 0, none⟩, 8, 8⟩, Sl.v x4, Sl.v x6] w7 fun b8 w9 =>
  cR Try.prog 71 r71 #[Sl.v ⟨some ⟨b8, 0, none⟩, 3, 3⟩] w9 fun x10 w11 =>
  K x10 w11
/-- slices.Concat[[]byte,byte] -/
def s71 (K : Sl → World → Prop) (p0 : Sl) (w : World) : Prop :=
  LoopS (σ := Int × Int) (fun next3 s1 w2 =>
    ifB (decide (s1.2 < (p0.len : Int))) (
      jn (J := Int → World → Prop) (fun J10 =>
        ix p0 1 s1.2 fun a11 =>
        ldL a11 w2 fun x13 =>
        ifB (decide ((IntKind.i64.wrap (s1.1 + (x13.len : Int))) < 0)) (
          False) (
          J10 (IntKind.i64.wrap (s1.1 + (x13.len : Int))) w2)) fun s15 w16 =>
      next3 (s15, (IntKind.i64.wrap (s1.2 + 1))) w16) (
      cR Try.prog 84 r84 #[Sl.v nilSl, .int .i64 s1.1] w2 fun x24 w25 =>
      LoopS (σ := Sl × Int) (fun next28 s26 w27 =>
        ifB (decide (s26.2 < (p0.len : Int))) (
          ix p0 1 s26.2 fun a34 =>
          ldL a34 w27 fun x36 =>
          app Try.prog 39 s26.1 x36 w27 fun x37 w38 =>
          next28 (x37, (IntKind.i64.wrap (s26.2 + 1))) w38) (
          K s26.1 w27)) (x24, 0) w25)) (0, 0) w
/-- dowser/wire.Read -/
def s72 (K : Option Addr → World → Prop) (p0 : Sl) (w : World) : Prop :=
  mkS 5 1 1 (Value.int .u8 0) (p0.len : Int) (p0.len : Int) w fun x3 w2 =>
  cpy Try.prog #[39, 39] 3 #[Sl.v x3, Sl.v p0] w2 fun x4 w5 =>
  newB 140 [Sl.v x3, Value.int .i64 0] w5 fun b6 w7 =>
  K (some ⟨b6, 0, none⟩) w7
/-- (*dowser/wire.Reader).Num -/
def s73 (K : Int → World → Prop) (p0 : Option Addr) (w : World) : Prop :=
  cR Try.prog 75 r75 #[.pointer p0] w fun x1 w2 =>
  ifB (!decide (x1 = 0)) (
    K 0 w2) (
    LoopS (σ := Int × Int × Int) (fun next6 s4 w5 =>
      ifB (decide (s4.2.2 < 10)) (
        nn p0 fun a12 =>
        ldL (Addr.add a12 0) w5 fun x14 =>
        ifB (decide (s4.2.2 = (x14.len : Int))) (
          cR Try.prog 85 r85 #[.pointer p0, .int .i64 10] w5 fun x16 w17 =>
          K x16 w17) (
          nn p0 fun a18 =>
          ldL (Addr.add a18 0) w5 fun x20 =>
          ix x20 1 s4.2.2 fun a21 =>
          ldI .u8 a21 w5 fun x23 =>
          jn (J := Bool → World → Prop) (fun J25 =>
            ifB (decide (s4.2.2 = 9)) (
              J25 (decide (1 < x23)) w5) (
              J25 false w5)) fun s26 w27 =>
          ifB s26 (
            cR Try.prog 85 r85 #[.pointer p0, .int .i64 7] w27 fun x36 w37 =>
            K x36 w37) (
            rq (0 ≤ s4.2.1) <|
            ifB (decide (128 ≤ x23)) (
              next6 ((orI .u64 s4.1 (shlI .u64 (IntKind.u64.wrap (Int.tmod x23 128)) s4.2.1)), (IntKind.i64.wrap (s4.2.1 + 7)), (IntKind.i64.wrap (s4.2.2 + 1))) w27) (
              jn (J := Bool → World → Prop) (fun J40 =>
                ifB (decide (x23 = 0)) (
                  J40 (decide (0 < s4.2.2)) w27) (
                  J40 false w27)) fun s41 w42 =>
              ifB s41 (
                cR Try.prog 85 r85 #[.pointer p0, .int .i64 7] w42 fun x48 w49 =>
                K x48 w49) (
                nn p0 fun a50 =>
                ldL (Addr.add a50 0) w42 fun x52 =>
                rq ((0 : Int) ≤ (IntKind.i64.wrap (s4.2.2 + 1)) ∧ ((IntKind.i64.wrap (s4.2.2 + 1)) : Int) ≤ (x52.len : Int)) <|
                nn p0 fun a53 =>
                st1 (Addr.add a53 0) (Sl.v (x52.cut 1 (IntKind.i64.wrap (s4.2.2 + 1)) (x52.len : Int) x52.cap)) w42 fun w55 =>
                K (orI .u64 s4.1 (shlI .u64 (IntKind.u64.wrap (Int.tmod x23 128)) s4.2.1)) w55))))) (
        cR Try.prog 85 r85 #[.pointer p0, .int .i64 7] w5 fun x60 w61 =>
        K x60 w61)) (0, 0, 0) w2)
/-- (*dowser/wire.Reader).Left -/
def s74 (K : Int → World → Prop) (p0 : Option Addr) (w : World) : Prop :=
  ifB (p0.isNone) (
    K 0 w) (
    nn p0 fun a2 =>
    ldL (Addr.add a2 0) w fun x4 =>
    K (x4.len : Int) w)
/-- (*dowser/wire.Reader).Err -/
def s75 (K : Int → World → Prop) (p0 : Option Addr) (w : World) : Prop :=
  ifB (p0.isNone) (
    K 1 w) (
    nn p0 fun a2 =>
    ldI .i64 (Addr.add a2 1) w fun x4 =>
    K x4 w)
/-- dowser/dowserref02.Sum -/
def s76 (K : Int → World → Prop) (p0 : List UInt8) (w : World) : Prop :=
  LoopS (σ := Int × Int) (fun next3 s1 w2 =>
    ifB (decide (s1.2 < (IntKind.i64.wrap (8 * (p0.length : Int))))) (
      jn (J := Int → World → Prop) (fun J8 =>
        ixS p0 (IntKind.i64.wrap (Int.tdiv s1.2 8)) fun c9 =>
        rq (0 ≤ (IntKind.u64.wrap (Int.tmod s1.2 8))) <|
        ifB (!decide ((Int.tmod s1.1 2) = (Int.tmod (IntKind.u32.wrap (shrI .u8 (c9.toNat : Int) (IntKind.u64.wrap (Int.tmod s1.2 8)))) 2))) (
          J8 (xorI .u32 (IntKind.u32.wrap (Int.tdiv s1.1 2)) 3988292384) w2) (
          J8 (IntKind.u32.wrap (Int.tdiv s1.1 2)) w2)) fun s11 w12 =>
      next3 (s11, (IntKind.i64.wrap (s1.2 + 1))) w12) (
      K (IntKind.u32.wrap (4294967295 - s1.1)) w2)) (4294967295, 0) w
/-- dowser/crc.Sum -/
def s77 (K : Int → World → Prop) (p0 : Sl) (w : World) : Prop :=
  LoopS (σ := Int × Int) (fun next3 s1 w2 =>
    ifB (decide (s1.2 < (p0.len : Int))) (
      ix p0 1 s1.2 fun a9 =>
      ldL a9 w2 fun x11 =>
      LoopS (σ := Int × Int) (fun next14 s12 w13 =>
        ifB (decide (s12.2 < (x11.len : Int))) (
          ix x11 1 s12.2 fun a23 =>
          ldI .u8 a23 w13 fun x25 =>
          LoopS (σ := Int × Int) (fun next28 s26 w27 =>
            ifB (decide (s26.2 < 8)) (
              jn (J := Int → World → Prop) (fun J38 =>
                ifB (decide ((andI .u32 s26.1 1) = 1)) (
                  J38 (xorI .u32 (shrI .u32 s26.1 1) 3988292384) w27) (
                  J38 (shrI .u32 s26.1 1) w27)) fun s40 w41 =>
              next28 (s40, (IntKind.i64.wrap (s26.2 + 1))) w41) (
              next14 (s26.1, (IntKind.i64.wrap (s12.2 + 1))) w27)) ((xorI .u32 s12.1 (IntKind.u32.wrap x25)), 0) w13) (
          next3 (s12.1, (IntKind.i64.wrap (s1.2 + 1))) w13)) (s1.1, 0) w2) (
      K (cmpl .u32 s1.1) w2)) (4294967295, 0) w
/-- dowser/wire.Num -/
def s78 (K : Sl → World → Prop) (p0 : Int) (w : World) : Prop :=
  LoopS (σ := Int × Sl) (fun next3 s1 w2 =>
    ifB (decide (128 ≤ s1.1)) (
      newB 5 [.int .u8 (IntKind.u8.wrap ((IntKind.u8.wrap (Int.tmod s1.1 128)) + 128))] w2 fun b7 w8 =>
      app Try.prog 39 s1.2 ⟨some ⟨b7, 0, none⟩, 1, 1⟩ w8 fun x9 w10 =>
      next3 ((IntKind.u64.wrap (Int.tdiv s1.1 128)), x9) w10) (
      newB 5 [.int .u8 (IntKind.u8.wrap s1.1)] w2 fun b11 w12 =>
      app Try.prog 39 s1.2 ⟨some ⟨b11, 0, none⟩, 1, 1⟩ w12 fun x13 w14 =>
      K x13 w14)) (p0, nilSl) w
/-- dowser/dowserref04.Right -/
def s79 (K : Int × Int → World → Prop) (p0 : List UInt8) (p1 : Int) (w : World) : Prop :=
  drw w fun w1 =>
  rq ((0 : Int) ≤ 8 ∧ (8 : Int) ≤ 16 ∧ (16 : Int) ≤ (p0.length : Int)) <|
  rq ((0 : Int) ≤ 16 ∧ (16 : Int) ≤ 24 ∧ (24 : Int) ≤ (p0.length : Int)) <|
  cR Try.prog 86 r86 #[str ((p0.take (Int.toNat 16)).drop (Int.toNat 8))] w1 fun x3 w4 =>
  cR Try.prog 86 r86 #[str ((p0.take (Int.toNat 24)).drop (Int.toNat 16))] w4 fun x5 w6 =>
  rq ((0 : Int) ≤ 0 ∧ (0 : Int) ≤ 8 ∧ (8 : Int) ≤ (p0.length : Int)) <|
  jn (J := Bool → World → Prop) (fun J8 =>
    ifB (!decide (((p0.take (Int.toNat 8)).drop (Int.toNat 0)) = [100, 111, 119, 115, 101, 114, 32, 108])) (
      J8 true w6) (
      rq ((0 : Int) ≤ 24 ∧ (24 : Int) ≤ 32 ∧ (32 : Int) ≤ (p0.length : Int)) <|
      J8 (!decide (((p0.take (Int.toNat 32)).drop (Int.toNat 24)) = [100, 111, 119, 115, 101, 114, 32, 108])) w6)) fun s9 w10 =>
  jn (J := Bool → World → Prop) (fun J17 =>
    ifB s9 (
      J17 true w10) (
      rq ((0 : Int) ≤ 32 ∧ (32 : Int) ≤ 40 ∧ (40 : Int) ≤ (p0.length : Int)) <|
      cR Try.prog 86 r86 #[str ((p0.take (Int.toNat 40)).drop (Int.toNat 32))] w10 fun x18 w19 =>
      J17 (!decide (x18 = x5)) w19)) fun s20 w21 =>
  jn (J := Bool → World → Prop) (fun J28 =>
    ifB s20 (
      J28 true w21) (
      rq ((0 : Int) ≤ 40 ∧ (40 : Int) ≤ 48 ∧ (48 : Int) ≤ (p0.length : Int)) <|
      cR Try.prog 86 r86 #[str ((p0.take (Int.toNat 48)).drop (Int.toNat 40))] w21 fun x29 w30 =>
      J28 (!decide (x29 = x3)) w30)) fun s31 w32 =>
  jn (J := Bool → World → Prop) (fun J38 =>
    ifB s31 (
      J38 true w32) (
      J38 (decide (x3 = 0)) w32)) fun s39 w40 =>
  jn (J := Bool → World → Prop) (fun J46 =>
    ifB s39 (
      J46 true w40) (
      J46 (decide (4611686018427387904 < x3)) w40)) fun s47 w48 =>
  jn (J := Bool → World → Prop) (fun J54 =>
    ifB s47 (
      J54 true w48) (
      J54 (decide ((IntKind.u64.wrap p1) < x5)) w48)) fun s55 w56 =>
  ifB s55 (
    K (0, 0) w56) (
    K (x3, (IntKind.i64.wrap x5)) w56)
/-- dowser/dowserref04.head -/
def s80 (K : List Value × Int → World → Prop) (p0 : List Value) (p1 : Int) (p2 : List UInt8) (w : World) : Prop :=
  newB 52 p0 w fun b1 w2 =>
  newB 52 [Value.slice none 0 0, Value.slice none 0 0, Value.slice none 0 0, Value.int .i64 0, Value.bool false, Value.int .i64 0, Value.int .i64 0, Value.int .u64 0, str [], Value.int .i64 0, Value.bool false] w2 fun b3 w4 =>
  drw w4 fun w5 =>
  ldA 5 (Addr.add ⟨b1, 0, none⟩ 0) w4 fun x7 =>
  ldI .i64 (Addr.add ⟨b1, 0, none⟩ 5) w4 fun x8 =>
  nd (δ := Unit) (α := List UInt8) w5 (fun d12 v_ => True) (fun d12 K13 w14 =>
    cR Try.prog 41 r41 #[.int .u64 p1, .int .u64 (IntKind.u64.wrap (p2.length : Int))] w14 fun x16 w17 =>
    K13 x16 w17) fun F15 =>
  nd (δ := List UInt8) (α := (List Value × Int)) w5 (fun d18 v_ => F15 () d18 v_) (fun d18 K19 w20 =>
    cR Try.prog 42 r42 #[aggv x7, .int .i64 (IntKind.i64.wrap (x8 + (IntKind.i64.wrap (Int.tmod p1 2)))), str d18] w20 fun x22 w23 =>
    K19 (x22.1, x22.2) w23) fun F21 =>
  nd (δ := Unit) (α := Addr) w5 (fun d24 v_ => True) (fun d24 K25 w26 =>
    newB 49 [Value.slice none 0 0, Value.slice none 0 0, Value.slice none 0 0, Value.int .i64 0, Value.bool false] w26 fun b28 w29 =>
    K25 ⟨b28, 0, none⟩ w29) fun F27 =>
  ∀ (x9 : List UInt8) (x10 : (List Value × Int)) (x11 : Addr) (w30 : World), Ext w5 w30 → F15 () x9 w30 → F21 x9 x10 w30 → F27 () x11 w30 →
  stA 5 x11 x10.1 w30 fun w32 =>
  jn (J := Int → World → Prop) (fun J33 =>
    ifB (decide (x10.2 = 0)) (
      ldA 5 x11 w32 fun x35 =>
      cR Try.prog 65 r65 #[aggv x35] w32 fun x36 w37 =>
      stA 5 x11 x36.1 w37 fun w38 =>
      J33 x36.2 w38) (
      J33 x10.2 w32)) fun s39 w40 =>
  ldA 5 x11 w40 fun x47 =>
  stA 5 (Addr.add ⟨b1, 0, none⟩ 0) x47 w40 fun w48 =>
  ifB (!decide (s39 = 0)) (
    st1 (Addr.add ⟨b1, 0, none⟩ 10) (.bool true) w48 fun w50 =>
    ldA 11 ⟨b1, 0, none⟩ w50 fun x51 =>
    stA 11 ⟨b3, 0, none⟩ x51 w50 fun w52 =>
    ldA 11 ⟨b3, 0, none⟩ w52 fun x53 =>
    K (x53, s39) w52) (
    st1 (Addr.add ⟨b1, 0, none⟩ 7) (.int .u64 p1) w48 fun w54 =>
    st1 (Addr.add ⟨b1, 0, none⟩ 8) (str p2) w54 fun w55 =>
    ldA 11 ⟨b1, 0, none⟩ w55 fun x56 =>
    stA 11 ⟨b3, 0, none⟩ x56 w55 fun w57 =>
    ldA 11 ⟨b3, 0, none⟩ w57 fun x58 =>
    K (x58, 0) w57)
/-- dowser/dowserref04.Records -/
def s81 (K : Sl × Int → World → Prop) (p0 : List UInt8) (w : World) : Prop :=
  LoopS (σ := List UInt8 × Sl) (fun next3 s1 w2 =>
    ifB (!decide (s1.1 = [])) (
      cR Try.prog 87 r87 #[aggv [str s1.1, Value.int .i64 0]] w2 fun x7 w8 =>
      newA 2 144 x7.1 w8 fun b9 w10 =>
      ldI .i64 (Addr.add ⟨b9, 0, none⟩ 1) w10 fun x11 =>
      jn (J := Bool → World → Prop) (fun J13 =>
        ifB (!decide (x11 = 0)) (
          J13 true w10) (
          ldS (Addr.add ⟨b9, 0, none⟩ 0) w10 fun x14 =>
          J13 (decide ((x14.length : Int) < 4)) w10)) fun s15 w16 =>
      jn (J := Bool → World → Prop) (fun J22 =>
        ifB s15 (
          J22 true w16) (
          ldS (Addr.add ⟨b9, 0, none⟩ 0) w16 fun x23 =>
          J22 (decide ((IntKind.u64.wrap (IntKind.i64.wrap ((x23.length : Int) - 4))) < x7.2)) w16)) fun s24 w25 =>
      ifB s24 (
        K (nilSl, 7) w25) (
        ldS (Addr.add ⟨b9, 0, none⟩ 0) w25 fun x31 =>
        rq ((0 : Int) ≤ 4 ∧ (4 : Int) ≤ (IntKind.i64.wrap (4 + (IntKind.i64.wrap x7.2))) ∧ ((IntKind.i64.wrap (4 + (IntKind.i64.wrap x7.2))) : Int) ≤ (x31.length : Int)) <|
        drw w25 fun w32 =>
        ldS (Addr.add ⟨b9, 0, none⟩ 0) w25 fun x34 =>
        rq ((0 : Int) ≤ 0 ∧ (0 : Int) ≤ 4 ∧ (4 : Int) ≤ (x34.length : Int)) <|
        cR Try.prog 52 r52 #[str ((x31.take (Int.toNat (IntKind.i64.wrap (4 + (IntKind.i64.wrap x7.2))))).drop (Int.toNat 4))] w32 fun x35 w36 =>
        rq (Ext w25 w36) <|
        rq ((0 : Int) ≤ (((x31.take (Int.toNat (IntKind.i64.wrap (4 + (IntKind.i64.wrap x7.2))))).drop (Int.toNat 4)).length : Int) ∧ ((((x31.take (Int.toNat (IntKind.i64.wrap (4 + (IntKind.i64.wrap x7.2))))).drop (Int.toNat 4)).length : Int) : Int) ≤ (x35.length : Int) ∧ ((x35.length : Int) : Int) ≤ (x35.length : Int)) <|
        ifB (!decide (((x35.take (Int.toNat (x35.length : Int))).drop (Int.toNat (((x31.take (Int.toNat (IntKind.i64.wrap (4 + (IntKind.i64.wrap x7.2))))).drop (Int.toNat 4)).length : Int))) = ((x34.take (Int.toNat 4)).drop (Int.toNat 0)))) (
          K (nilSl, 20) w36) (
          newB 9 [str ((x31.take (Int.toNat (IntKind.i64.wrap (4 + (IntKind.i64.wrap x7.2))))).drop (Int.toNat 4))] w36 fun b39 w40 =>
          app Try.prog 45 s1.2 ⟨some ⟨b39, 0, none⟩, 1, 1⟩ w40 fun x41 w42 =>
          ldS (Addr.add ⟨b9, 0, none⟩ 0) w42 fun x43 =>
          rq ((0 : Int) ≤ (IntKind.i64.wrap (4 + (IntKind.i64.wrap x7.2))) ∧ ((IntKind.i64.wrap (4 + (IntKind.i64.wrap x7.2))) : Int) ≤ (x43.length : Int) ∧ ((x43.length : Int) : Int) ≤ (x43.length : Int)) <|
          next3 (((x43.take (Int.toNat (x43.length : Int))).drop (Int.toNat (IntKind.i64.wrap (4 + (IntKind.i64.wrap x7.2))))), x41) w42))) (
      K (s1.2, 0) w2)) (p0, nilSl) w
/-- dowser/dowserref03.with -/
def s82 (K : Sl → World → Prop) (p0 : Sl) (p1 : Int) (p2 : List UInt8) (w : World) : Prop :=
  newB 9 [] w fun b1 w2 =>
  app Try.prog 45 ⟨some ⟨b1, 0, none⟩, 0, 0⟩ p0 w2 fun x3 w4 =>
  ix x3 1 p1 fun a5 =>
  st1 a5 (str p2) w4 fun w7 =>
  K x3 w7
/-- dowser/wal.high -/
def s83 (K : Sl → World → Prop) (p0 : Int) (w : World) : Prop :=
  mkS 5 1 1 (Value.int .u8 0) 8 8 w fun x3 w2 =>
  LoopS (σ := Int × Int) (fun next6 s4 w5 =>
    ifB (decide (s4.2 < 8)) (
      ix x3 1 (IntKind.i64.wrap (7 - s4.2)) fun a11 =>
      st1 a11 (.int .u8 (IntKind.u8.wrap s4.1)) w5 fun w13 =>
      next6 ((shrI .u64 s4.1 8), (IntKind.i64.wrap (s4.2 + 1))) w13) (
      K x3 w5)) (p0, 0) w2
/-- slices.Grow[[]byte,byte] -/
def s84 (K : Sl → World → Prop) (p0 : Sl) (p1 : Int) (w : World) : Prop :=
  jn (J := Unit → World → Prop) (fun J1 =>
    ifB (decide (p1 < 0)) (
      False) (
      J1 () w)) fun s3 w4 =>
  jn (J := Sl → World → Prop) (fun J7 =>
    ifB (decide (0 < (IntKind.i64.wrap (p1 - (IntKind.i64.wrap ((p0.cap : Int) - (p0.len : Int))))))) (
      rq ((0 : Int) ≤ 0 ∧ (0 : Int) ≤ (p0.cap : Int) ∧ ((p0.cap : Int) : Int) ≤ (p0.cap : Int)) <|
      appV Try.prog #[39, 3] 39 #[Sl.v (p0.cut 1 0 (p0.cap : Int) p0.cap), .int .i64 (IntKind.i64.wrap (p1 - (IntKind.i64.wrap ((p0.cap : Int) - (p0.len : Int)))))] w4 fun x9 w10 =>
      rq ((0 : Int) ≤ 0 ∧ (0 : Int) ≤ (p0.len : Int) ∧ ((p0.len : Int) : Int) ≤ (x9.cap : Int)) <|
      J7 (x9.cut 1 0 (p0.len : Int) x9.cap) w10) (
      J7 p0 w4)) fun s11 w12 =>
  K s11 w12
/-- (*dowser/wire.Reader).fail -/
def s85 (K : Int → World → Prop) (p0 : Option Addr) (p1 : Int) (w : World) : Prop :=
  nn p0 fun a1 =>
  st1 (Addr.add a1 1) (.int .i64 p1) w fun w3 =>
  K 0 w3
/-- dowser/dowserref04.number -/
def s86 (K : Int → World → Prop) (p0 : List UInt8) (w : World) : Prop :=
  LoopS (σ := Int × Int) (fun next3 s1 w2 =>
    ifB (decide (s1.2 < (p0.length : Int))) (
      ixS p0 s1.2 fun c8 =>
      next3 ((IntKind.u64.wrap ((IntKind.u64.wrap (s1.1 * 256)) + (IntKind.u64.wrap (c8.toNat : Int)))), (IntKind.i64.wrap (s1.2 + 1))) w2) (
      K s1.1 w2)) (0, 0) w
/-- dowser/dowserref01.Take -/
def s87 (K : List Value × Int → World → Prop) (p0 : List Value) (w : World) : Prop :=
  newB 144 p0 w fun b1 w2 =>
  newB 144 [str [], Value.int .i64 0] w2 fun b3 w4 =>
  ldI .i64 (Addr.add ⟨b1, 0, none⟩ 1) w4 fun x5 =>
  ifB (!decide (x5 = 0)) (
    ldA 2 ⟨b1, 0, none⟩ w4 fun x7 =>
    stA 2 ⟨b3, 0, none⟩ x7 w4 fun w8 =>
    ldA 2 ⟨b3, 0, none⟩ w8 fun x9 =>
    K (x9, 0) w8) (
    LoopS (σ := Int × Int × Int) (fun next12 s10 w11 =>
      ldS (Addr.add ⟨b1, 0, none⟩ 0) w11 fun x18 =>
      jn (J := Bool → World → Prop) (fun J20 =>
        ifB (decide (s10.2.2 < (x18.length : Int))) (
          J20 (decide (s10.2.2 < 10)) w11) (
          J20 false w11)) fun s21 w22 =>
      ifB s21 (
        ldS (Addr.add ⟨b1, 0, none⟩ 0) w22 fun x30 =>
        ixS x30 s10.2.2 fun c31 =>
        jn (J := Bool → World → Prop) (fun J33 =>
          ifB (decide (s10.2.2 = 9)) (
            J33 (decide (1 < (c31.toNat : Int))) w22) (
            J33 false w22)) fun s34 w35 =>
        ifB s34 (
          ldS (Addr.add ⟨b1, 0, none⟩ 0) w35 fun x44 =>
          stA 2 ⟨b3, 0, none⟩ [str x44, .int .i64 7] w35 fun w45 =>
          ldA 2 ⟨b3, 0, none⟩ w45 fun x46 =>
          K (x46, 0) w45) (
          ifB (decide ((c31.toNat : Int) < 128)) (
            jn (J := Bool → World → Prop) (fun J49 =>
              ifB (decide ((c31.toNat : Int) = 0)) (
                J49 (decide (0 < s10.2.2)) w35) (
                J49 false w35)) fun s50 w51 =>
            ifB s50 (
              ldS (Addr.add ⟨b1, 0, none⟩ 0) w51 fun x58 =>
              stA 2 ⟨b3, 0, none⟩ [str x58, .int .i64 7] w51 fun w59 =>
              ldA 2 ⟨b3, 0, none⟩ w59 fun x60 =>
              K (x60, 0) w59) (
              ldS (Addr.add ⟨b1, 0, none⟩ 0) w51 fun x61 =>
              rq ((0 : Int) ≤ (IntKind.i64.wrap (s10.2.2 + 1)) ∧ ((IntKind.i64.wrap (s10.2.2 + 1)) : Int) ≤ (x61.length : Int) ∧ ((x61.length : Int) : Int) ≤ (x61.length : Int)) <|
              stA 2 ⟨b3, 0, none⟩ [str ((x61.take (Int.toNat (x61.length : Int))).drop (Int.toNat (IntKind.i64.wrap (s10.2.2 + 1)))), .int .i64 0] w51 fun w62 =>
              ldA 2 ⟨b3, 0, none⟩ w62 fun x63 =>
              K (x63, (IntKind.u64.wrap (s10.1 + (IntKind.u64.wrap (s10.2.1 * (IntKind.u64.wrap (Int.tmod (c31.toNat : Int) 128))))))) w62)) (
            next12 ((IntKind.u64.wrap (s10.1 + (IntKind.u64.wrap (s10.2.1 * (IntKind.u64.wrap (Int.tmod (c31.toNat : Int) 128)))))), (IntKind.u64.wrap (s10.2.1 * 128)), (IntKind.i64.wrap (s10.2.2 + 1))) w35))) (
        ldS (Addr.add ⟨b1, 0, none⟩ 0) w22 fun x68 =>
        stA 2 ⟨b3, 0, none⟩ [str x68, .int .i64 10] w22 fun w69 =>
        ldA 2 ⟨b3, 0, none⟩ w69 fun x70 =>
        K (x70, 0) w69)) (0, 1, 0) w4)
end Go.Proofs.Ytagkcbbbdlmcjaa
end
section
/- The typed readings of the functions, and that the program meets each: written by gen.py (a program of this session). -/
set_option linter.unusedVariables false
set_option linter.unusedSimpArgs false
namespace Go.Proofs.Ytagkcbbbdlmcjaa
open Go.Lift
set_option maxRecDepth 100000 in
set_option maxHeartbeats 4000000 in
theorem s52_calls (K : List UInt8 → World → Prop) (p0 : List UInt8) (w : World) (h : s52 K p0 w) :
    Calls Try.prog 52 #[str p0] w (Ret r52 K) := by
  unfold s52 at h
  refine calls_of_CW (n := 21) Try.func52 rfl rfl rfl ?_
  refine CW.seq ?_
  refine CW.region ?_
  refine RL.opS trivial rfl (OpW.assign (v := str []) rfl ?_)
  refine RL.nil ?_
  refine CW.seq ?_
  refine CW.region ?_
  refine RL.opS trivial rfl (OpW.move (v := str p0) rfl ?_)
  refine RL.opS trivial rfl (OpW.callR (al := [str p0]) Try.func76 fb_76 fn_76 rfl h (fun x1 w2 h => ?_))
  refine RL.opS trivial rfl (OpW.assign (v := .int .u32 x1) rfl ?_)
  refine RL.nil ?_
  refine CW.seq ?_
  refine CW.region ?_
  refine RL.opS trivial rfl (OpW.move (v := str p0) rfl ?_)
  refine RL.opS trivial rfl (OpW.move (v := .int .u32 x1) rfl ?_)
  refine RL.opS trivial rfl (OpW.convInt (a := x1) int_129 int_5 rfl ?_)
  refine RL.opS trivial rfl (OpW.move (v := .int .u32 x1) rfl ?_)
  refine RL.opS trivial rfl (OpW.quo (a := x1) (b := 256) (v := .int .u32 (IntKind.u32.wrap (Int.tdiv x1 256))) rfl rfl (by decide) rfl ?_)
  refine RL.opS trivial rfl (OpW.convInt (a := (IntKind.u32.wrap (Int.tdiv x1 256))) int_129 int_5 rfl ?_)
  refine RL.opS trivial rfl (OpW.move (v := .int .u32 x1) rfl ?_)
  refine RL.opS trivial rfl (OpW.quo (a := x1) (b := 65536) (v := .int .u32 (IntKind.u32.wrap (Int.tdiv x1 65536))) rfl rfl (by decide) rfl ?_)
  refine RL.opS trivial rfl (OpW.convInt (a := (IntKind.u32.wrap (Int.tdiv x1 65536))) int_129 int_5 rfl ?_)
  refine RL.opS trivial rfl (OpW.move (v := .int .u32 x1) rfl ?_)
  refine RL.opS trivial rfl (OpW.quo (a := x1) (b := 16777216) (v := .int .u32 (IntKind.u32.wrap (Int.tdiv x1 16777216))) rfl rfl (by decide) rfl ?_)
  refine RL.opS trivial rfl (OpW.convInt (a := (IntKind.u32.wrap (Int.tdiv x1 16777216))) int_129 int_5 rfl ?_)
  obtain ⟨b3, hb3_⟩ : ∃ b_, b_ = w2.heap.size := ⟨_, rfl⟩
  obtain ⟨w4, hw4_⟩ : ∃ w_, w_ = w2.alloc (.cells (List.toArray [.int .u8 (IntKind.u8.wrap x1), .int .u8 (IntKind.u8.wrap (IntKind.u32.wrap (Int.tdiv x1 256))), .int .u8 (IntKind.u8.wrap (IntKind.u32.wrap (Int.tdiv x1 65536))), .int .u8 (IntKind.u8.wrap (IntKind.u32.wrap (Int.tdiv x1 16777216)))]) 5) := ⟨_, rfl⟩
  have h := h b3 w4 hb3_ hw4_
  refine RL.opS trivial rfl (OpW.buildSliceE (vs := [(0, .int .u8 (IntKind.u8.wrap x1)), (1, .int .u8 (IntKind.u8.wrap (IntKind.u32.wrap (Int.tdiv x1 256)))), (2, .int .u8 (IntKind.u8.wrap (IntKind.u32.wrap (Int.tdiv x1 65536)))), (3, .int .u8 (IntKind.u8.wrap (IntKind.u32.wrap (Int.tdiv x1 16777216))))]) (cs := [.int .u8 (IntKind.u8.wrap x1), .int .u8 (IntKind.u8.wrap (IntKind.u32.wrap (Int.tdiv x1 256))), .int .u8 (IntKind.u8.wrap (IntKind.u32.wrap (Int.tdiv x1 65536))), .int .u8 (IntKind.u8.wrap (IntKind.u32.wrap (Int.tdiv x1 16777216)))]) (by rfl) (by kernel_rfl) hb3_ hw4_ ?_)
  obtain ⟨x5, h1, h2, h⟩ := h
  refine RL.opS trivial rfl (OpW.b2s bsl_39 str_9 rfl h1 h2 ?_)
  obtain ⟨hq_, h⟩ := h
  refine RL.opS trivial rfl (OpW.strAdd rfl rfl hq_ ?_)
  refine RL.opS trivial rfl (OpW.assign (v := str (p0 ++ x5)) rfl ?_)
  refine RL.nil ?_
  refine CW.ret ?_
  exact ret_intro (res1 rfl rfl) ⟨(p0 ++ x5), rfl, h⟩
end Go.Proofs.Ytagkcbbbdlmcjaa
end
section
/- The typed readings of the functions, and that the program meets each: written by gen.py (a program of this session). -/
set_option linter.unusedVariables false
set_option linter.unusedSimpArgs false
namespace Go.Proofs.Ytagkcbbbdlmcjaa
open Go.Lift
set_option maxRecDepth 100000 in
set_option maxHeartbeats 4000000 in
theorem s76_calls (K : Int → World → Prop) (p0 : List UInt8) (w : World) (h : s76 K p0 w) :
    Calls Try.prog 76 #[str p0] w (Ret r76 K) := by
  unfold s76 at h
  refine calls_of_CW (n := 35) Try.func76 rfl rfl rfl ?_
  refine CW.seq ?_
  refine CW.region ?_
  refine RL.opS trivial rfl (OpW.assign (v := .int .u32 0) rfl ?_)
  refine RL.nil ?_
  refine CW.seq ?_
  refine CW.region ?_
  refine RL.opS trivial rfl (OpW.assign (v := .int .u32 4294967295) rfl ?_)
  refine RL.nil ?_
  refine CW.seq ?_
  refine CW.seq ?_
  refine CW.region ?_
  refine RL.opS trivial rfl (OpW.assign (v := .int .i64 0) rfl ?_)
  refine RL.nil ?_
  refine CW.block ?_
  obtain ⟨I18, mu19, hI, hs⟩ := h
  refine CW.loop (σ := Int × Int) (fun s1 ρ => ρ 3 = .int .u32 s1.1 ∧ ρ 4 = .int .i64 s1.2 ∧ ρ 0 = str p0) I18 mu19 (4294967295, 0) ⟨rfl, rfl, rfl⟩ hI ?_
  rintro s1 ρ w2 ⟨e4, e5, e6⟩ hI
  have h := hs s1 w2 hI
  clear hs hI
  refine CW.seq ?_
  refine CW.seq ?_
  refine CW.region ?_
  refine RL.opS trivial rfl (OpW.move (v := .int .i64 s1.2) e5 ?_)
  refine RL.opS trivial rfl (OpW.move (v := str p0) e6 ?_)
  refine RL.opS trivial rfl (OpW.lenStr us_9 rfl ?_)
  refine RL.opS trivial rfl (OpW.bin (k := .i64) (a := 8) (b := (p0.length : Int)) (v := .int .i64 (IntKind.i64.wrap (8 * (p0.length : Int)))) rfl rfl rfl ?_)
  refine RL.opS trivial rfl (OpW.bin (k := .i64) (a := s1.2) (b := (IntKind.i64.wrap (8 * (p0.length : Int)))) (v := .bool (decide (s1.2 < (IntKind.i64.wrap (8 * (p0.length : Int)))))) rfl rfl rfl ?_)
  refine RL.nil ?_
  obtain ⟨ha, hc⟩ := h
  refine CW.cond (b := (decide (s1.2 < (IntKind.i64.wrap (8 * (p0.length : Int)))))) rfl (fun hb7 => ?_) (fun hb7 => ?_)
  · have h := ha hb7; clear ha hc
    refine CW.skip ?_
    refine jn_elim h ?_; clear h; intro k16 hk17 h
    refine CW.seqJ (A := Int) (fun s11 ρ => ρ 3 = .int .u32 s11 ∧ ρ 0 = str p0 ∧ ρ 4 = .int .i64 s1.2) k16 ?_ ?_
    · rintro s11 ρ w12 ⟨e13, e14, e15⟩ h
      subst hk17
      refine CW.region ?_
      refine RL.opS trivial rfl (OpW.move (v := .int .i64 s1.2) e15 ?_)
      refine RL.opS trivial rfl (OpW.bin (k := .i64) (a := s1.2) (b := 1) (v := .int .i64 (IntKind.i64.wrap (s1.2 + 1))) rfl rfl rfl ?_)
      refine RL.opS trivial rfl (OpW.assign (v := .int .i64 (IntKind.i64.wrap (s1.2 + 1))) rfl ?_)
      refine RL.nil ?_
      exact ⟨(s11, (IntKind.i64.wrap (s1.2 + 1))), ⟨e13, rfl, e14⟩, h⟩
    · clear hk17
      refine CW.block ?_
      refine CW.seq ?_
      refine CW.region ?_
      refine RL.opS trivial rfl (OpW.move (v := .int .u32 s1.1) e4 ?_)
      refine RL.opS trivial rfl (OpW.quo (a := s1.1) (b := 2) (v := .int .u32 (Int.tmod s1.1 2)) rfl rfl (by decide) rfl ?_)
      refine RL.opS trivial rfl (OpW.assign (v := .int .u32 (Int.tmod s1.1 2)) rfl ?_)
      refine RL.nil ?_
      refine CW.seq ?_
      refine CW.region ?_
      refine RL.opS trivial rfl (OpW.move (v := str p0) e6 ?_)
      refine RL.opS trivial rfl (OpW.move (v := .int .i64 s1.2) e5 ?_)
      refine RL.opS trivial rfl (OpW.quo (a := s1.2) (b := 8) (v := .int .i64 (IntKind.i64.wrap (Int.tdiv s1.2 8))) rfl rfl (by decide) rfl ?_)
      obtain ⟨c9, h1, h2, h⟩ := h
      refine RL.opS trivial rfl (OpW.indexStr us_9 rfl rfl h1 h2 ?_)
      refine RL.opS trivial rfl (OpW.move (v := .int .i64 s1.2) e5 ?_)
      refine RL.opS trivial rfl (OpW.quo (a := s1.2) (b := 8) (v := .int .i64 (Int.tmod s1.2 8)) rfl rfl (by decide) rfl ?_)
      refine RL.opS trivial rfl (OpW.convInt (a := (Int.tmod s1.2 8)) int_3 int_66 rfl ?_)
      obtain ⟨hq_, h⟩ := h
      refine RL.opS trivial rfl (OpW.shift (a := (c9.toNat : Int)) (b := (IntKind.u64.wrap (Int.tmod s1.2 8))) (v := .int .u8 (shrI .u8 (c9.toNat : Int) (IntKind.u64.wrap (Int.tmod s1.2 8)))) rfl rfl hq_ rfl ?_)
      refine RL.opS trivial rfl (OpW.convInt (a := (shrI .u8 (c9.toNat : Int) (IntKind.u64.wrap (Int.tmod s1.2 8)))) int_5 int_129 rfl ?_)
      refine RL.opS trivial rfl (OpW.quo (a := (IntKind.u32.wrap (shrI .u8 (c9.toNat : Int) (IntKind.u64.wrap (Int.tmod s1.2 8))))) (b := 2) (v := .int .u32 (Int.tmod (IntKind.u32.wrap (shrI .u8 (c9.toNat : Int) (IntKind.u64.wrap (Int.tmod s1.2 8)))) 2)) rfl rfl (by decide) rfl ?_)
      refine RL.opS trivial rfl (OpW.assign (v := .int .u32 (Int.tmod (IntKind.u32.wrap (shrI .u8 (c9.toNat : Int) (IntKind.u64.wrap (Int.tmod s1.2 8)))) 2)) rfl ?_)
      refine RL.nil ?_
      refine CW.seq ?_
      refine CW.region ?_
      refine RL.opS trivial rfl (OpW.move (v := .int .u32 s1.1) e4 ?_)
      refine RL.opS trivial rfl (OpW.quo (a := s1.1) (b := 2) (v := .int .u32 (IntKind.u32.wrap (Int.tdiv s1.1 2))) rfl rfl (by decide) rfl ?_)
      refine RL.opS trivial rfl (OpW.assign (v := .int .u32 (IntKind.u32.wrap (Int.tdiv s1.1 2))) rfl ?_)
      refine RL.nil ?_
      refine CW.seq ?_
      refine CW.region ?_
      refine RL.opS trivial rfl (OpW.move (v := .int .u32 (Int.tmod s1.1 2)) rfl ?_)
      refine RL.opS trivial rfl (OpW.move (v := .int .u32 (Int.tmod (IntKind.u32.wrap (shrI .u8 (c9.toNat : Int) (IntKind.u64.wrap (Int.tmod s1.2 8)))) 2)) rfl ?_)
      refine RL.opS trivial rfl (OpW.bin (k := .u32) (a := (Int.tmod s1.1 2)) (b := (Int.tmod (IntKind.u32.wrap (shrI .u8 (c9.toNat : Int) (IntKind.u64.wrap (Int.tmod s1.2 8)))) 2)) (v := .bool (!decide ((Int.tmod s1.1 2) = (Int.tmod (IntKind.u32.wrap (shrI .u8 (c9.toNat : Int) (IntKind.u64.wrap (Int.tmod s1.2 8)))) 2)))) rfl rfl rfl ?_)
      refine RL.nil ?_
      obtain ⟨ha, hc⟩ := h
      refine CW.cond (b := (!decide ((Int.tmod s1.1 2) = (Int.tmod (IntKind.u32.wrap (shrI .u8 (c9.toNat : Int) (IntKind.u64.wrap (Int.tmod s1.2 8)))) 2)))) rfl (fun hb10 => ?_) (fun hb10 => ?_)
      · have h := ha hb10; clear ha hc
        refine CW.region ?_
        refine RL.opS trivial rfl (OpW.move (v := .int .u32 (IntKind.u32.wrap (Int.tdiv s1.1 2))) rfl ?_)
        refine RL.opS trivial rfl (OpW.bin (k := .u32) (a := (IntKind.u32.wrap (Int.tdiv s1.1 2))) (b := 3988292384) (v := .int .u32 (xorI .u32 (IntKind.u32.wrap (Int.tdiv s1.1 2)) 3988292384)) rfl rfl rfl ?_)
        refine RL.opS trivial rfl (OpW.assign (v := .int .u32 (xorI .u32 (IntKind.u32.wrap (Int.tdiv s1.1 2)) 3988292384)) rfl ?_)
        refine RL.nil ?_
        exact ⟨(xorI .u32 (IntKind.u32.wrap (Int.tdiv s1.1 2)) 3988292384), ⟨rfl, e6, e5⟩, h⟩
      · have h := hc hb10; clear ha hc
        refine CW.skip ?_
        exact ⟨(IntKind.u32.wrap (Int.tdiv s1.1 2)), ⟨rfl, e6, e5⟩, h⟩
  · have h := hc hb7; clear ha hc
    refine CW.exit ?_
    refine CW.seq ?_
    refine CW.region ?_
    refine RL.opS trivial rfl (OpW.move (v := .int .u32 s1.1) e4 ?_)
    refine RL.opS trivial rfl (OpW.bin (k := .u32) (a := 4294967295) (b := s1.1) (v := .int .u32 (IntKind.u32.wrap (4294967295 - s1.1))) rfl rfl rfl ?_)
    refine RL.opS trivial rfl (OpW.assign (v := .int .u32 (IntKind.u32.wrap (4294967295 - s1.1))) rfl ?_)
    refine RL.nil ?_
    refine CW.ret ?_
    exact ret_intro (res1 rfl rfl) ⟨(IntKind.u32.wrap (4294967295 - s1.1)), rfl, h⟩
end Go.Proofs.Ytagkcbbbdlmcjaa
end
section
/- The typed readings of the functions, and that the program meets each: written by gen.py (a program of this session). -/
set_option linter.unusedVariables false
set_option linter.unusedSimpArgs false
namespace Go.Proofs.Ytagkcbbbdlmcjaa
open Go.Lift
set_option maxRecDepth 100000 in
set_option maxHeartbeats 4000000 in
theorem s77_calls (K : Int → World → Prop) (p0 : Sl) (w : World) (h : s77 K p0 w) :
    Calls Try.prog 77 #[Sl.v p0] w (Ret r77 K) := by
  unfold s77 at h
  refine calls_of_CW (n := 40) Try.func77 rfl rfl rfl ?_
  refine CW.seq ?_
  refine CW.region ?_
  refine RL.opS trivial rfl (OpW.assign (v := .int .u32 0) rfl ?_)
  refine RL.nil ?_
  refine CW.seq ?_
  refine CW.region ?_
  refine RL.opS trivial rfl (OpW.assign (v := .int .u32 4294967295) rfl ?_)
  refine RL.nil ?_
  refine CW.seq ?_
  refine CW.seq ?_
  refine CW.region ?_
  refine RL.opS trivial rfl (OpW.move (v := Sl.v p0) rfl ?_)
  refine RL.opS trivial rfl (OpW.len (s := p0) slice_22 rfl ?_)
  refine RL.opS trivial rfl (OpW.move (v := .int .i64 0) rfl ?_)
  refine RL.nil ?_
  refine CW.block ?_
  obtain ⟨I56, mu57, hI, hs⟩ := h
  refine CW.loop (σ := Int × Int) (fun s1 ρ => ρ 3 = .int .u32 s1.1 ∧ ρ 11 = .int .i64 s1.2 ∧ ρ 9 = Sl.v p0 ∧ ρ 10 = .int .i64 (p0.len : Int)) I56 mu57 (4294967295, 0) ⟨rfl, rfl, rfl, rfl⟩ hI ?_
  rintro s1 ρ w2 ⟨e4, e5, e6, e7⟩ hI
  have h := hs s1 w2 hI
  clear hs hI
  refine CW.seq ?_
  refine CW.region ?_
  refine RL.opS trivial rfl (OpW.bin (k := .i64) (a := s1.2) (b := (p0.len : Int)) (v := .bool (decide (s1.2 < (p0.len : Int)))) e5 e7 rfl ?_)
  refine RL.nil ?_
  refine CW.seq ?_
  obtain ⟨ha, hc⟩ := h
  refine CW.cond (b := (decide (s1.2 < (p0.len : Int)))) rfl (fun hb8 => ?_) (fun hb8 => ?_)
  · have h := ha hb8; clear ha hc
    refine CW.skip ?_
    refine CW.seq ?_
    refine CW.block ?_
    refine CW.seq ?_
    refine CW.region ?_
    obtain ⟨a9_, a9, h1, h2, h3, h4, h⟩ := h
    refine RL.opS trivial rfl (OpW.indexE (a' := a9) slice_22 e6 e5 h1 h2 h3 h4 ?_)
    obtain ⟨x11, h1, h⟩ := h
    refine RL.opS trivial rfl (OpW.load1 (v := Sl.v x11) one_39 rfl h1 ?_)
    refine RL.opS trivial rfl (OpW.assign (v := Sl.v x11) rfl ?_)
    refine RL.nil ?_
    refine CW.seq ?_
    refine CW.region ?_
    refine RL.opS trivial rfl (OpW.move (v := Sl.v x11) rfl ?_)
    refine RL.opS trivial rfl (OpW.len (s := x11) slice_39 rfl ?_)
    refine RL.opS trivial rfl (OpW.move (v := .int .i64 0) rfl ?_)
    refine RL.nil ?_
    refine CW.block ?_
    obtain ⟨I54, mu55, hI, hs⟩ := h
    refine CW.loop (σ := Int × Int) (fun s12 ρ => ρ 3 = .int .u32 s12.1 ∧ ρ 17 = .int .i64 s12.2 ∧ ρ 9 = Sl.v p0 ∧ ρ 10 = .int .i64 (p0.len : Int) ∧ ρ 11 = .int .i64 s1.2 ∧ ρ 15 = Sl.v x11 ∧ ρ 16 = .int .i64 (x11.len : Int)) I54 mu55 (s1.1, 0) ⟨e4, rfl, e6, e7, e5, rfl, rfl⟩ hI ?_
    rintro s12 ρ w13 ⟨e15, e16, e17, e18, e19, e20, e21⟩ hI
    have h := hs s12 w13 hI
    clear hs hI
    refine CW.seq ?_
    refine CW.region ?_
    refine RL.opS trivial rfl (OpW.bin (k := .i64) (a := s12.2) (b := (x11.len : Int)) (v := .bool (decide (s12.2 < (x11.len : Int)))) e16 e21 rfl ?_)
    refine RL.nil ?_
    refine CW.seq ?_
    obtain ⟨ha, hc⟩ := h
    refine CW.cond (b := (decide (s12.2 < (x11.len : Int)))) rfl (fun hb22 => ?_) (fun hb22 => ?_)
    · have h := ha hb22; clear ha hc
      refine CW.skip ?_
      refine CW.seq ?_
      refine CW.block ?_
      refine CW.seq ?_
      refine CW.region ?_
      obtain ⟨a23_, a23, h1, h2, h3, h4, h⟩ := h
      refine RL.opS trivial rfl (OpW.indexE (a' := a23) slice_39 e20 e16 h1 h2 h3 h4 ?_)
      obtain ⟨x25, h1, h⟩ := h
      refine RL.opS trivial rfl (OpW.load1 (v := .int .u8 x25) one_5 rfl h1 ?_)
      refine RL.opS trivial rfl (OpW.assign (v := .int .u8 x25) rfl ?_)
      refine RL.nil ?_
      refine CW.seq ?_
      refine CW.region ?_
      refine RL.opS trivial rfl (OpW.move (v := .int .u32 s12.1) e15 ?_)
      refine RL.opS trivial rfl (OpW.move (v := .int .u8 x25) rfl ?_)
      refine RL.opS trivial rfl (OpW.convInt (a := x25) int_5 int_129 rfl ?_)
      refine RL.opS trivial rfl (OpW.bin (k := .u32) (a := s12.1) (b := (IntKind.u32.wrap x25)) (v := .int .u32 (xorI .u32 s12.1 (IntKind.u32.wrap x25))) rfl rfl rfl ?_)
      refine RL.opS trivial rfl (OpW.assign (v := .int .u32 (xorI .u32 s12.1 (IntKind.u32.wrap x25))) rfl ?_)
      refine RL.nil ?_
      refine CW.seq ?_
      refine CW.region ?_
      refine RL.opS trivial rfl (OpW.move (v := .int .i64 0) rfl ?_)
      refine RL.nil ?_
      refine CW.block ?_
      obtain ⟨I52, mu53, hI, hs⟩ := h
      refine CW.loop (σ := Int × Int) (fun s26 ρ => ρ 3 = .int .u32 s26.1 ∧ ρ 25 = .int .i64 s26.2 ∧ ρ 9 = Sl.v p0 ∧ ρ 10 = .int .i64 (p0.len : Int) ∧ ρ 11 = .int .i64 s1.2 ∧ ρ 15 = Sl.v x11 ∧ ρ 16 = .int .i64 (x11.len : Int) ∧ ρ 17 = .int .i64 s12.2) I52 mu53 ((xorI .u32 s12.1 (IntKind.u32.wrap x25)), 0) ⟨rfl, rfl, e17, e18, e19, e20, e21, e16⟩ hI ?_
      rintro s26 ρ w27 ⟨e29, e30, e31, e32, e33, e34, e35, e36⟩ hI
      have h := hs s26 w27 hI
      clear hs hI
      refine CW.seq ?_
      refine CW.region ?_
      refine RL.opS trivial rfl (OpW.bin (k := .i64) (a := s26.2) (b := 8) (v := .bool (decide (s26.2 < 8))) e30 rfl rfl ?_)
      refine RL.nil ?_
      refine CW.seq ?_
      obtain ⟨ha, hc⟩ := h
      refine CW.cond (b := (decide (s26.2 < 8))) rfl (fun hb37 => ?_) (fun hb37 => ?_)
      · have h := ha hb37; clear ha hc
        refine CW.skip ?_
        refine jn_elim h ?_; clear h; intro k50 hk51 h
        refine CW.seqJ (A := Int) (fun s40 ρ => ρ 3 = .int .u32 s40 ∧ ρ 9 = Sl.v p0 ∧ ρ 10 = .int .i64 (p0.len : Int) ∧ ρ 11 = .int .i64 s1.2 ∧ ρ 15 = Sl.v x11 ∧ ρ 16 = .int .i64 (x11.len : Int) ∧ ρ 17 = .int .i64 s12.2 ∧ ρ 25 = .int .i64 s26.2) k50 ?_ ?_
        · rintro s40 ρ w41 ⟨e42, e43, e44, e45, e46, e47, e48, e49⟩ h
          subst hk51
          refine CW.region ?_
          refine RL.opS trivial rfl (OpW.bin (k := .i64) (a := s26.2) (b := 1) (v := .int .i64 (IntKind.i64.wrap (s26.2 + 1))) e49 rfl rfl ?_)
          refine RL.opS trivial rfl (OpW.move (v := .int .i64 (IntKind.i64.wrap (s26.2 + 1))) rfl ?_)
          refine RL.nil ?_
          exact ⟨(s40, (IntKind.i64.wrap (s26.2 + 1))), ⟨e42, rfl, e43, e44, e45, e46, e47, e48⟩, h⟩
        · clear hk51
          refine CW.block ?_
          refine CW.seq ?_
          refine CW.region ?_
          refine RL.opS trivial rfl (OpW.move (v := .int .u32 s26.1) e29 ?_)
          refine RL.opS trivial rfl (OpW.bin (k := .u32) (a := s26.1) (b := 1) (v := .int .u32 (andI .u32 s26.1 1)) rfl rfl rfl ?_)
          refine RL.opS trivial rfl (OpW.assign (v := .int .u32 (andI .u32 s26.1 1)) rfl ?_)
          refine RL.nil ?_
          refine CW.seq ?_
          refine CW.region ?_
          refine RL.opS trivial rfl (OpW.move (v := .int .u32 s26.1) e29 ?_)
          refine RL.opS trivial rfl (OpW.shift (a := s26.1) (b := 1) (v := .int .u32 (shrI .u32 s26.1 1)) rfl rfl (by decide) rfl ?_)
          refine RL.opS trivial rfl (OpW.assign (v := .int .u32 (shrI .u32 s26.1 1)) rfl ?_)
          refine RL.nil ?_
          refine CW.seq ?_
          refine CW.region ?_
          refine RL.opS trivial rfl (OpW.move (v := .int .u32 (andI .u32 s26.1 1)) rfl ?_)
          refine RL.opS trivial rfl (OpW.bin (k := .u32) (a := (andI .u32 s26.1 1)) (b := 1) (v := .bool (decide ((andI .u32 s26.1 1) = 1))) rfl rfl rfl ?_)
          refine RL.nil ?_
          obtain ⟨ha, hc⟩ := h
          refine CW.cond (b := (decide ((andI .u32 s26.1 1) = 1))) rfl (fun hb39 => ?_) (fun hb39 => ?_)
          · have h := ha hb39; clear ha hc
            refine CW.region ?_
            refine RL.opS trivial rfl (OpW.move (v := .int .u32 (shrI .u32 s26.1 1)) rfl ?_)
            refine RL.opS trivial rfl (OpW.bin (k := .u32) (a := (shrI .u32 s26.1 1)) (b := 3988292384) (v := .int .u32 (xorI .u32 (shrI .u32 s26.1 1) 3988292384)) rfl rfl rfl ?_)
            refine RL.opS trivial rfl (OpW.assign (v := .int .u32 (xorI .u32 (shrI .u32 s26.1 1) 3988292384)) rfl ?_)
            refine RL.nil ?_
            exact ⟨(xorI .u32 (shrI .u32 s26.1 1) 3988292384), ⟨rfl, e31, e32, e33, e34, e35, e36, e30⟩, h⟩
          · have h := hc hb39; clear ha hc
            refine CW.skip ?_
            exact ⟨(shrI .u32 s26.1 1), ⟨rfl, e31, e32, e33, e34, e35, e36, e30⟩, h⟩
      · have h := hc hb37; clear ha hc
        refine CW.exit ?_
        refine CW.region ?_
        refine RL.opS trivial rfl (OpW.bin (k := .i64) (a := s12.2) (b := 1) (v := .int .i64 (IntKind.i64.wrap (s12.2 + 1))) e36 rfl rfl ?_)
        refine RL.opS trivial rfl (OpW.move (v := .int .i64 (IntKind.i64.wrap (s12.2 + 1))) rfl ?_)
        refine RL.nil ?_
        exact ⟨(s26.1, (IntKind.i64.wrap (s12.2 + 1))), ⟨e29, rfl, e31, e32, e33, e34, e35⟩, h⟩
    · have h := hc hb22; clear ha hc
      refine CW.exit ?_
      refine CW.region ?_
      refine RL.opS trivial rfl (OpW.bin (k := .i64) (a := s1.2) (b := 1) (v := .int .i64 (IntKind.i64.wrap (s1.2 + 1))) e19 rfl rfl ?_)
      refine RL.opS trivial rfl (OpW.move (v := .int .i64 (IntKind.i64.wrap (s1.2 + 1))) rfl ?_)
      refine RL.nil ?_
      exact ⟨(s12.1, (IntKind.i64.wrap (s1.2 + 1))), ⟨e15, rfl, e17, e18⟩, h⟩
  · have h := hc hb8; clear ha hc
    refine CW.exit ?_
    refine CW.seq ?_
    refine CW.region ?_
    refine RL.opS trivial rfl (OpW.move (v := .int .u32 s1.1) e4 ?_)
    refine RL.opS trivial rfl (OpW.compl rfl ?_)
    refine RL.opS trivial rfl (OpW.assign (v := .int .u32 (cmpl .u32 s1.1)) rfl ?_)
    refine RL.nil ?_
    refine CW.ret ?_
    exact ret_intro (res1 rfl rfl) ⟨(cmpl .u32 s1.1), rfl, h⟩
end Go.Proofs.Ytagkcbbbdlmcjaa
end
section
/- The typed readings of the functions, and that the program meets each: written by gen.py (a program of this session). -/
set_option linter.unusedVariables false
set_option linter.unusedSimpArgs false
namespace Go.Proofs.Ytagkcbbbdlmcjaa
open Go.Lift
set_option maxRecDepth 100000 in
set_option maxHeartbeats 4000000 in
theorem s15_calls (K : Option Addr × Int → World → Prop) (p0 : Int) (w : World) (h : s15 K p0 w) :
    Calls Try.prog 15 #[.int .i64 p0] w (Ret r15 K) := by
  unfold s15 at h
  refine calls_of_CW (n := 14) Try.func15 rfl rfl rfl ?_
  refine CW.seq ?_
  refine CW.region ?_
  refine RL.opS trivial rfl (OpW.assign (v := .pointer none) rfl ?_)
  refine RL.opS trivial rfl (OpW.assign (v := .int .i64 0) rfl ?_)
  refine RL.nil ?_
  refine CW.seq ?_
  refine CW.seq ?_
  refine CW.region ?_
  refine RL.opS trivial rfl (OpW.move (v := .int .i64 p0) rfl ?_)
  refine RL.opS trivial rfl (OpW.bin (k := .i64) (a := p0) (b := 1) (v := .bool (decide (p0 < 1))) rfl rfl rfl ?_)
  refine RL.opS trivial rfl (OpW.move (v := .bool (decide (p0 < 1))) rfl ?_)
  refine jn_elim h ?_; clear h; intro k13 hk14 h
  refine RL.joinAt (A := Bool) 3 (fun s3 ρ => ρ 9 = .bool s3 ∧ ρ 0 = .int .i64 p0) k13 ?_ ?_
  · rintro s3 ρ w4 ⟨e5, e6⟩ h
    subst hk14
    dsimp only [List.drop]
    refine RL.nil ?_
    obtain ⟨ha, hc⟩ := h
    refine CW.cond (b := s3) e5 (fun hb7 => ?_) (fun hb7 => ?_)
    · have h := ha hb7; clear ha hc
      refine CW.seq ?_
      refine CW.region ?_
      refine RL.opS trivial rfl (OpW.assign (v := .pointer none) rfl ?_)
      refine RL.opS trivial rfl (OpW.assign (v := .int .i64 1) rfl ?_)
      refine RL.nil ?_
      refine CW.ret ?_
      exact ret_intro (res2 rfl rfl rfl) ⟨(none, 1), rfl, h⟩
    · have h := hc hb7; clear ha hc
      refine CW.skip ?_
      refine CW.seq ?_
      refine CW.region ?_
      refine RL.opS trivial rfl (OpW.move (v := .int .i64 p0) e6 ?_)
      obtain ⟨h1, h2, h3, h4, h⟩ := h
      obtain ⟨b8, hb8_⟩ : ∃ b_, b_ = w4.heap.size := ⟨_, rfl⟩
      obtain ⟨w9, hw9_⟩ : ∃ w_, w_ = w4.alloc (.cells (List.replicate (Int.toNat p0 * 1024) (Value.int .u8 0)).toArray 112) := ⟨_, rfl⟩
      have h := h b8 w9 hb8_ hw9_
      obtain ⟨x10, hx10_⟩ : ∃ s_ : Sl, s_ = ⟨some ⟨b8, 0, none⟩, Int.toNat p0, Int.toNat p0⟩ := ⟨_, rfl⟩
      rw [← hx10_] at h
      refine RL.opS trivial rfl (OpW.makeSliceE mk_90 (by decide) rfl rfl h1 h2 h3 h4 hb8_ hw9_ hx10_ ?_)
      refine RL.opS trivial rfl (OpW.buildL (vs := [(0, Sl.v x10)]) (cs := [Sl.v x10, Value.slice none 0 0, Value.slice none 0 0, Value.int .i64 0, Value.bool false]) (by rfl) (fun _ => by kernel_rfl) ?_)
      obtain ⟨b11, hb11_⟩ : ∃ b_, b_ = w9.heap.size := ⟨_, rfl⟩
      obtain ⟨w12, hw12_⟩ : ∃ w_, w_ = w9.alloc (.cells (List.toArray [Sl.v x10, Value.slice none 0 0, Value.slice none 0 0, Value.int .i64 0, Value.bool false]) 93) := ⟨_, rfl⟩
      have h := h b11 w12 hb11_ hw12_
      refine RL.opS trivial rfl (OpW.boxE (cs := [Sl.v x10, Value.slice none 0 0, Value.slice none 0 0, Value.int .i64 0, Value.bool false]) (rfl) hb11_ hw12_ ?_)
      refine RL.opS trivial rfl (OpW.assign (v := .pointer (some ⟨b11, 0, none⟩)) rfl ?_)
      refine RL.opS trivial rfl (OpW.assign (v := .int .i64 0) rfl ?_)
      refine RL.nil ?_
      refine CW.ret ?_
      exact ret_intro (res2 rfl rfl rfl) ⟨(some ⟨b11, 0, none⟩, 0), rfl, h⟩
  · clear hk14
    dsimp only [List.take]
    obtain ⟨ha, hc⟩ := h
    rcases Bool.eq_false_or_eq_true (decide (p0 < 1)) with hb1 | hb1
    · have h := ha hb1; clear ha hc
      refine RL.skipS (notWanted_of rfl rfl hb1) rfl ?_
      refine RL.skipS (notWanted_of rfl rfl hb1) rfl ?_
      refine RL.opS trivial rfl (OpW.pick (b := true) (v := .bool true) (congrArg Value.bool hb1) rfl ?_)
      refine RL.nil ?_
      exact ⟨true, ⟨rfl, rfl⟩, h⟩
    · have h := hc hb1; clear ha hc
      refine RL.opS (wanted_of rfl rfl hb1) rfl (OpW.move (v := .int .i64 p0) rfl ?_)
      refine RL.opS (wanted_of rfl rfl hb1) rfl (OpW.bin (k := .i64) (a := p0) (b := 4096) (v := .bool (decide (4096 < p0))) rfl rfl rfl ?_)
      refine RL.opS trivial rfl (OpW.pick (b := false) (v := .bool (decide (4096 < p0))) (congrArg Value.bool hb1) rfl ?_)
      refine RL.nil ?_
      exact ⟨(decide (4096 < p0)), ⟨rfl, rfl⟩, h⟩
end Go.Proofs.Ytagkcbbbdlmcjaa
end
section
/- The typed readings of the functions, and that the program meets each: written by gen.py (a program of this session). -/
set_option linter.unusedVariables false
set_option linter.unusedSimpArgs false
namespace Go.Proofs.Ytagkcbbbdlmcjaa
open Go.Lift
set_option maxRecDepth 100000 in
set_option maxHeartbeats 4000000 in
theorem s19_calls (K : Int → World → Prop) (p0 : Option Addr) (w : World) (h : s19 K p0 w) :
    Calls Try.prog 19 #[.pointer p0] w (Ret r19 K) := by
  unfold s19 at h
  refine calls_of_CW (n := 9) Try.func19 rfl rfl rfl ?_
  refine CW.seq ?_
  refine CW.region ?_
  refine RL.opS trivial rfl (OpW.assign (v := .int .i64 0) rfl ?_)
  refine RL.nil ?_
  refine CW.seq ?_
  refine CW.seq ?_
  refine CW.region ?_
  refine RL.opS trivial rfl (OpW.move (v := .pointer p0) rfl ?_)
  refine RL.opS trivial rfl (OpW.ptrNil (b := p0.isNone) (p := p0) ptr_31 rfl rfl rfl ?_)
  refine RL.nil ?_
  obtain ⟨ha, hc⟩ := h
  refine CW.cond (b := (p0.isNone)) rfl (fun hb1 => ?_) (fun hb1 => ?_)
  · have h := ha hb1; clear ha hc
    refine CW.seq ?_
    refine CW.region ?_
    refine RL.opS trivial rfl (OpW.assign (v := .int .i64 0) rfl ?_)
    refine RL.nil ?_
    refine CW.ret ?_
    exact ret_intro (res1 rfl rfl) ⟨0, rfl, h⟩
  · have h := hc hb1; clear ha hc
    refine CW.skip ?_
    refine CW.seq ?_
    refine CW.region ?_
    refine RL.opS trivial rfl (OpW.move (v := .pointer p0) rfl ?_)
    obtain ⟨a2, ha3, h⟩ := h
    refine RL.opS trivial rfl (OpW.nilCheck (a := a2) (congrArg Value.pointer ha3) ?_)
    refine RL.opS trivial rfl (OpW.fieldAddr field_93_3 rfl ?_)
    obtain ⟨x4, h1, h⟩ := h
    refine RL.opS trivial rfl (OpW.load1 (v := .int .i64 x4) one_3 rfl h1 ?_)
    refine RL.opS trivial rfl (OpW.assign (v := .int .i64 x4) rfl ?_)
    refine RL.nil ?_
    refine CW.ret ?_
    exact ret_intro (res1 rfl rfl) ⟨x4, rfl, h⟩
end Go.Proofs.Ytagkcbbbdlmcjaa
end
section
/- The typed readings of the functions, and that the program meets each: written by gen.py (a program of this session). -/
set_option linter.unusedVariables false
set_option linter.unusedSimpArgs false
namespace Go.Proofs.Ytagkcbbbdlmcjaa
open Go.Lift
set_option maxRecDepth 100000 in
set_option maxHeartbeats 4000000 in
theorem s23_calls (K : Int → World → Prop) (p0 : Option Addr) (w : World) (h : s23 K p0 w) :
    Calls Try.prog 23 #[.pointer p0] w (Ret r23 K) := by
  unfold s23 at h
  refine calls_of_CW (n := 10) Try.func23 rfl rfl rfl ?_
  refine CW.seq ?_
  refine CW.region ?_
  refine RL.opS trivial rfl (OpW.assign (v := .int .i64 0) rfl ?_)
  refine RL.nil ?_
  refine CW.seq ?_
  refine CW.seq ?_
  refine CW.region ?_
  refine RL.opS trivial rfl (OpW.move (v := .pointer p0) rfl ?_)
  refine RL.opS trivial rfl (OpW.ptrNil (b := p0.isNone) (p := p0) ptr_31 rfl rfl rfl ?_)
  refine RL.nil ?_
  obtain ⟨ha, hc⟩ := h
  refine CW.cond (b := (p0.isNone)) rfl (fun hb1 => ?_) (fun hb1 => ?_)
  · have h := ha hb1; clear ha hc
    refine CW.seq ?_
    refine CW.region ?_
    refine RL.opS trivial rfl (OpW.assign (v := .int .i64 0) rfl ?_)
    refine RL.nil ?_
    refine CW.ret ?_
    exact ret_intro (res1 rfl rfl) ⟨0, rfl, h⟩
  · have h := hc hb1; clear ha hc
    refine CW.skip ?_
    refine CW.seq ?_
    refine CW.region ?_
    refine RL.opS trivial rfl (OpW.move (v := .pointer p0) rfl ?_)
    obtain ⟨a2, ha3, h⟩ := h
    refine RL.opS trivial rfl (OpW.nilCheck (a := a2) (congrArg Value.pointer ha3) ?_)
    refine RL.opS trivial rfl (OpW.fieldAddr field_93_1 rfl ?_)
    obtain ⟨x4, h1, h⟩ := h
    refine RL.opS trivial rfl (OpW.load1 (v := Sl.v x4) one_91 rfl h1 ?_)
    refine RL.opS trivial rfl (OpW.len (s := x4) slice_91 rfl ?_)
    refine RL.opS trivial rfl (OpW.assign (v := .int .i64 (x4.len : Int)) rfl ?_)
    refine RL.nil ?_
    refine CW.ret ?_
    exact ret_intro (res1 rfl rfl) ⟨(x4.len : Int), rfl, h⟩
end Go.Proofs.Ytagkcbbbdlmcjaa
end
section
/- The typed readings of the functions, and that the program meets each: written by gen.py (a program of this session). -/
set_option linter.unusedVariables false
set_option linter.unusedSimpArgs false
namespace Go.Proofs.Ytagkcbbbdlmcjaa
open Go.Lift
set_option maxRecDepth 100000 in
set_option maxHeartbeats 4000000 in
theorem s27_calls (K : Bool → World → Prop) (p0 : Option Addr) (w : World) (h : s27 K p0 w) :
    Calls Try.prog 27 #[.pointer p0] w (Ret r27 K) := by
  unfold s27 at h
  refine calls_of_CW (n := 15) Try.func27 rfl rfl rfl ?_
  refine CW.seq ?_
  refine CW.region ?_
  refine RL.opS trivial rfl (OpW.assign (v := .bool false) rfl ?_)
  refine RL.nil ?_
  refine CW.seq ?_
  refine CW.seq ?_
  refine CW.region ?_
  refine RL.opS trivial rfl (OpW.move (v := .pointer p0) rfl ?_)
  refine RL.opS trivial rfl (OpW.ptrNil (b := p0.isNone) (p := p0) ptr_31 rfl rfl rfl ?_)
  refine RL.opS trivial rfl (OpW.move (v := .bool (p0.isNone)) rfl ?_)
  refine jn_elim h ?_; clear h; intro k14 hk15 h
  refine RL.joinAt (A := Bool) 6 (fun s6 ρ => ρ 11 = .bool s6 ∧ ρ 0 = .pointer p0) k14 ?_ ?_
  · rintro s6 ρ w7 ⟨e8, e9⟩ h
    subst hk15
    dsimp only [List.drop]
    refine RL.nil ?_
    obtain ⟨ha, hc⟩ := h
    refine CW.cond (b := s6) e8 (fun hb10 => ?_) (fun hb10 => ?_)
    · have h := ha hb10; clear ha hc
      refine CW.seq ?_
      refine CW.region ?_
      refine RL.opS trivial rfl (OpW.assign (v := .bool false) rfl ?_)
      refine RL.nil ?_
      refine CW.ret ?_
      exact ret_intro (res1 rfl rfl) ⟨false, rfl, h⟩
    · have h := hc hb10; clear ha hc
      refine CW.skip ?_
      refine CW.seq ?_
      refine CW.region ?_
      refine RL.opS trivial rfl (OpW.move (v := .pointer p0) e9 ?_)
      obtain ⟨a11, ha12, h⟩ := h
      refine RL.opS trivial rfl (OpW.nilCheck (a := a11) (congrArg Value.pointer ha12) ?_)
      refine RL.opS trivial rfl (OpW.fieldAddr field_93_4 rfl ?_)
      obtain ⟨u_, h1, h2, h⟩ := h
      obtain ⟨w13, hw13_⟩ : ∃ w_, w_ = w7.setCell (Addr.add a11 4) (.bool false) := ⟨_, rfl⟩
      have h := h w13 hw13_
      refine RL.opN trivial (OpW.store1E (v := .bool false) size_4 rfl rfl rfl h1 h2 hw13_ ?_)
      refine RL.nil ?_
      refine CW.seq ?_
      refine CW.region ?_
      refine RL.opS trivial rfl (OpW.assign (v := .bool true) rfl ?_)
      refine RL.nil ?_
      refine CW.ret ?_
      exact ret_intro (res1 rfl rfl) ⟨true, rfl, h⟩
  · clear hk15
    dsimp only [List.take]
    obtain ⟨ha, hc⟩ := h
    rcases Bool.eq_false_or_eq_true (p0.isNone) with hb1 | hb1
    · have h := ha hb1; clear ha hc
      refine RL.skipS (notWanted_of rfl rfl hb1) rfl ?_
      refine RL.skipS (notWanted_of rfl rfl hb1) rfl ?_
      refine RL.skipS (notWanted_of rfl rfl hb1) rfl ?_
      refine RL.skipS (notWanted_of rfl rfl hb1) rfl ?_
      refine RL.skipS (notWanted_of rfl rfl hb1) rfl ?_
      refine RL.opS trivial rfl (OpW.pick (b := true) (v := .bool true) (congrArg Value.bool hb1) rfl ?_)
      refine RL.nil ?_
      exact ⟨true, ⟨rfl, rfl⟩, h⟩
    · have h := hc hb1; clear ha hc
      refine RL.opS (wanted_of rfl rfl hb1) rfl (OpW.move (v := .pointer p0) rfl ?_)
      obtain ⟨a3, ha4, h⟩ := h
      refine RL.opS (wanted_of rfl rfl hb1) rfl (OpW.nilCheck (a := a3) (congrArg Value.pointer ha4) ?_)
      refine RL.opS (wanted_of rfl rfl hb1) rfl (OpW.fieldAddr field_93_4 rfl ?_)
      obtain ⟨x5, h1, h⟩ := h
      refine RL.opS (wanted_of rfl rfl hb1) rfl (OpW.load1 (v := .bool x5) one_4 rfl h1 ?_)
      refine RL.opS (wanted_of rfl rfl hb1) rfl (OpW.not rfl ?_)
      refine RL.opS trivial rfl (OpW.pick (b := false) (v := .bool (!x5)) (congrArg Value.bool hb1) rfl ?_)
      refine RL.nil ?_
      exact ⟨(!x5), ⟨rfl, rfl⟩, h⟩
end Go.Proofs.Ytagkcbbbdlmcjaa
end
section
/- The typed readings of the functions, and that the program meets each: written by gen.py (a program of this session). -/
set_option linter.unusedVariables false
set_option linter.unusedSimpArgs false
namespace Go.Proofs.Ytagkcbbbdlmcjaa
open Go.Lift
set_option maxRecDepth 100000 in
set_option maxHeartbeats 4000000 in
theorem s28_calls (K : Sl × Int → World → Prop) (p0 : Option Addr) (p1 : Int) (w : World) (h : s28 K p0 p1 w) :
    Calls Try.prog 28 #[.pointer p0, .int .i64 p1] w (Ret r28 K) := by
  unfold s28 at h
  refine calls_of_CW (n := 22) Try.func28 rfl rfl rfl ?_
  refine CW.seq ?_
  refine CW.region ?_
  refine RL.opS trivial rfl (OpW.assign (v := Sl.v nilSl) rfl ?_)
  refine RL.opS trivial rfl (OpW.assign (v := .int .i64 0) rfl ?_)
  refine RL.nil ?_
  refine CW.seq ?_
  refine CW.seq ?_
  refine CW.region ?_
  refine RL.opS trivial rfl (OpW.move (v := .pointer p0) rfl ?_)
  refine RL.opS trivial rfl (OpW.move (v := .int .i64 p1) rfl ?_)
  refine RL.opS trivial rfl (OpW.callR (al := [.pointer p0, .int .i64 p1]) Try.func59 fb_59 fn_59 rfl h (fun x1 w2 h => ?_))
  refine RL.opS trivial rfl (OpW.assign (v := .int .i64 x1) rfl ?_)
  refine RL.nil ?_
  refine CW.seq ?_
  refine CW.region ?_
  refine RL.opS trivial rfl (OpW.move (v := .int .i64 x1) rfl ?_)
  refine RL.opS trivial rfl (OpW.bin (k := .i64) (a := x1) (b := 0) (v := .bool (!decide (x1 = 0))) rfl rfl rfl ?_)
  refine RL.nil ?_
  obtain ⟨ha, hc⟩ := h
  refine CW.cond (b := (!decide (x1 = 0))) rfl (fun hb3 => ?_) (fun hb3 => ?_)
  · have h := ha hb3; clear ha hc
    refine CW.seq ?_
    refine CW.region ?_
    refine RL.opS trivial rfl (OpW.move (v := .int .i64 x1) rfl ?_)
    refine RL.opS trivial rfl (OpW.assign (v := Sl.v nilSl) rfl ?_)
    refine RL.opS trivial rfl (OpW.assign (v := .int .i64 x1) rfl ?_)
    refine RL.nil ?_
    refine CW.ret ?_
    exact ret_intro (res2 rfl rfl rfl) ⟨(nilSl, x1), rfl, h⟩
  · have h := hc hb3; clear ha hc
    refine CW.skip ?_
    refine CW.seq ?_
    refine CW.region ?_
    refine RL.opS trivial rfl (OpW.move (v := .pointer p0) rfl ?_)
    obtain ⟨a4, ha5, h⟩ := h
    refine RL.opS trivial rfl (OpW.nilCheck (a := a4) (congrArg Value.pointer ha5) ?_)
    refine RL.opS trivial rfl (OpW.fieldAddr (off := 0) field_93_0 rfl ?_)
    obtain ⟨x6, h1, h⟩ := h
    refine RL.opS trivial rfl (OpW.load1 (v := Sl.v x6) one_90 rfl h1 ?_)
    refine RL.opS trivial rfl (OpW.move (v := .int .i64 p1) rfl ?_)
    obtain ⟨a7_, a7, h1, h2, h3, h4, h⟩ := h
    refine RL.opS trivial rfl (OpW.indexE (a' := a7) slice_90 rfl rfl h1 h2 h3 h4 ?_)
    refine RL.opS trivial rfl (OpW.fieldAddr (off := 0) field_112_0 rfl ?_)
    refine RL.opS trivial rfl (OpW.sliceArr (l := 0) (h := 512) arr_110 rfl rfl rfl (by decide) (by decide) (by decide) ?_)
    refine RL.opS trivial rfl (OpW.callR (al := [Sl.v (Sl.cut ⟨some (Addr.add a7 0), 512, 512⟩ 1 0 512 512)]) Try.func53 fb_53 fn_53 rfl h (fun x9 w10 h => ?_))
    refine RL.opS trivial rfl (OpW.assign (v := Sl.v x9) rfl ?_)
    refine RL.opS trivial rfl (OpW.assign (v := .int .i64 0) rfl ?_)
    refine RL.nil ?_
    refine CW.ret ?_
    exact ret_intro (res2 rfl rfl rfl) ⟨(x9, 0), rfl, h⟩
end Go.Proofs.Ytagkcbbbdlmcjaa
end
section
/- The typed readings of the functions, and that the program meets each: written by gen.py (a program of this session). -/
set_option linter.unusedVariables false
set_option linter.unusedSimpArgs false
namespace Go.Proofs.Ytagkcbbbdlmcjaa
open Go.Lift
set_option maxRecDepth 100000 in
set_option maxHeartbeats 4000000 in
theorem s37_calls (K : Unit → World → Prop) (p0 : Option Addr) (p1 : Sl) (w : World) (h : s37 K p0 p1 w) :
    Calls Try.prog 37 #[.pointer p0, Sl.v p1] w (Ret r37 K) := by
  unfold s37 at h
  refine calls_of_CW (n := 11) Try.func37 rfl rfl rfl ?_
  refine CW.seq ?_
  refine CW.region ?_
  refine RL.opS trivial rfl (OpW.move (v := .pointer p0) rfl ?_)
  refine RL.opS trivial rfl (OpW.ptrNil (b := !p0.isNone) (p := p0) ptr_31 rfl rfl rfl ?_)
  refine RL.nil ?_
  obtain ⟨ha, hc⟩ := h
  refine CW.cond (b := (!p0.isNone)) rfl (fun hb1 => ?_) (fun hb1 => ?_)
  · have h := ha hb1; clear ha hc
    refine CW.region ?_
    refine RL.opS trivial rfl (OpW.move (v := .pointer p0) rfl ?_)
    refine RL.opS trivial rfl (OpW.move (v := Sl.v p1) rfl ?_)
    refine RL.opS trivial rfl (OpW.callR (al := [Sl.v p1]) Try.func64 fb_64 fn_64 rfl h (fun x2 w3 h => ?_))
    obtain ⟨a4, ha5, h⟩ := h
    refine RL.opS trivial rfl (OpW.nilCheck (a := a4) (congrArg Value.pointer ha5) ?_)
    refine RL.opS trivial rfl (OpW.fieldAddr field_93_2 rfl ?_)
    obtain ⟨u_, h1, h2, h⟩ := h
    obtain ⟨w6, hw6_⟩ : ∃ w_, w_ = w3.setCell (Addr.add a4 2) (Sl.v x2) := ⟨_, rfl⟩
    have h := h w6 hw6_
    refine RL.opN trivial (OpW.store1E (v := Sl.v x2) size_47 rfl rfl rfl h1 h2 hw6_ ?_)
    refine RL.nil ?_
    exact end_intro (res0 rfl) ⟨(), rfl, h⟩
  · have h := hc hb1; clear ha hc
    refine CW.skip ?_
    exact end_intro (res0 rfl) ⟨(), rfl, h⟩
end Go.Proofs.Ytagkcbbbdlmcjaa
end
section
/- The typed readings of the functions, and that the program meets each: written by gen.py (a program of this session). -/
set_option linter.unusedVariables false
set_option linter.unusedSimpArgs false
namespace Go.Proofs.Ytagkcbbbdlmcjaa
open Go.Lift
set_option maxRecDepth 100000 in
set_option maxHeartbeats 4000000 in
theorem s38_calls (K : Bool → World → Prop) (p0 : Option Addr) (w : World) (h : s38 K p0 w) :
    Calls Try.prog 38 #[.pointer p0] w (Ret r38 K) := by
  unfold s38 at h
  refine calls_of_CW (n := 11) Try.func38 rfl rfl rfl ?_
  refine CW.seq ?_
  refine CW.region ?_
  refine RL.opS trivial rfl (OpW.assign (v := .bool false) rfl ?_)
  refine RL.nil ?_
  refine CW.seq ?_
  refine CW.region ?_
  refine RL.opS trivial rfl (OpW.move (v := .pointer p0) rfl ?_)
  refine RL.opS trivial rfl (OpW.ptrNil (b := p0.isNone) (p := p0) ptr_31 rfl rfl rfl ?_)
  refine RL.opS trivial rfl (OpW.move (v := .bool (p0.isNone)) rfl ?_)
  refine jn_elim h ?_; clear h; intro k9 hk10 h
  refine RL.joinAt (A := Bool) 5 (fun s6 ρ => ρ 10 = .bool s6) k9 ?_ ?_
  · rintro s6 ρ w7 e8 h
    subst hk10
    dsimp only [List.drop]
    refine RL.opS trivial rfl (OpW.assign (v := .bool s6) e8 ?_)
    refine RL.nil ?_
    refine CW.ret ?_
    exact ret_intro (res1 rfl rfl) ⟨s6, rfl, h⟩
  · clear hk10
    dsimp only [List.take]
    obtain ⟨ha, hc⟩ := h
    rcases Bool.eq_false_or_eq_true (p0.isNone) with hb1 | hb1
    · have h := ha hb1; clear ha hc
      refine RL.skipS (notWanted_of rfl rfl hb1) rfl ?_
      refine RL.skipS (notWanted_of rfl rfl hb1) rfl ?_
      refine RL.skipS (notWanted_of rfl rfl hb1) rfl ?_
      refine RL.skipS (notWanted_of rfl rfl hb1) rfl ?_
      refine RL.opS trivial rfl (OpW.pick (b := true) (v := .bool true) (congrArg Value.bool hb1) rfl ?_)
      refine RL.nil ?_
      exact ⟨true, rfl, h⟩
    · have h := hc hb1; clear ha hc
      refine RL.opS (wanted_of rfl rfl hb1) rfl (OpW.move (v := .pointer p0) rfl ?_)
      obtain ⟨a3, ha4, h⟩ := h
      refine RL.opS (wanted_of rfl rfl hb1) rfl (OpW.nilCheck (a := a3) (congrArg Value.pointer ha4) ?_)
      refine RL.opS (wanted_of rfl rfl hb1) rfl (OpW.fieldAddr field_93_4 rfl ?_)
      obtain ⟨x5, h1, h⟩ := h
      refine RL.opS (wanted_of rfl rfl hb1) rfl (OpW.load1 (v := .bool x5) one_4 rfl h1 ?_)
      refine RL.opS trivial rfl (OpW.pick (b := false) (v := .bool x5) (congrArg Value.bool hb1) rfl ?_)
      refine RL.nil ?_
      exact ⟨x5, rfl, h⟩
end Go.Proofs.Ytagkcbbbdlmcjaa
end
section
/- The typed readings of the functions, and that the program meets each: written by gen.py (a program of this session). -/
set_option linter.unusedVariables false
set_option linter.unusedSimpArgs false
namespace Go.Proofs.Ytagkcbbbdlmcjaa
open Go.Lift
set_option maxRecDepth 100000 in
set_option maxHeartbeats 4000000 in
theorem s39_calls (K : Int → World → Prop) (p0 : Option Addr) (w : World) (h : s39 K p0 w) :
    Calls Try.prog 39 #[.pointer p0] w (Ret r39 K) := by
  unfold s39 at h
  refine calls_of_CW (n := 10) Try.func39 rfl rfl rfl ?_
  refine CW.seq ?_
  refine CW.region ?_
  refine RL.opS trivial rfl (OpW.assign (v := .int .i64 0) rfl ?_)
  refine RL.nil ?_
  refine CW.seq ?_
  refine CW.seq ?_
  refine CW.region ?_
  refine RL.opS trivial rfl (OpW.move (v := .pointer p0) rfl ?_)
  refine RL.opS trivial rfl (OpW.ptrNil (b := p0.isNone) (p := p0) ptr_31 rfl rfl rfl ?_)
  refine RL.nil ?_
  obtain ⟨ha, hc⟩ := h
  refine CW.cond (b := (p0.isNone)) rfl (fun hb1 => ?_) (fun hb1 => ?_)
  · have h := ha hb1; clear ha hc
    refine CW.seq ?_
    refine CW.region ?_
    refine RL.opS trivial rfl (OpW.assign (v := .int .i64 0) rfl ?_)
    refine RL.nil ?_
    refine CW.ret ?_
    exact ret_intro (res1 rfl rfl) ⟨0, rfl, h⟩
  · have h := hc hb1; clear ha hc
    refine CW.skip ?_
    refine CW.seq ?_
    refine CW.region ?_
    refine RL.opS trivial rfl (OpW.move (v := .pointer p0) rfl ?_)
    obtain ⟨a2, ha3, h⟩ := h
    refine RL.opS trivial rfl (OpW.nilCheck (a := a2) (congrArg Value.pointer ha3) ?_)
    refine RL.opS trivial rfl (OpW.fieldAddr (off := 0) field_93_0 rfl ?_)
    obtain ⟨x4, h1, h⟩ := h
    refine RL.opS trivial rfl (OpW.load1 (v := Sl.v x4) one_90 rfl h1 ?_)
    refine RL.opS trivial rfl (OpW.len (s := x4) slice_90 rfl ?_)
    refine RL.opS trivial rfl (OpW.assign (v := .int .i64 (x4.len : Int)) rfl ?_)
    refine RL.nil ?_
    refine CW.ret ?_
    exact ret_intro (res1 rfl rfl) ⟨(x4.len : Int), rfl, h⟩
end Go.Proofs.Ytagkcbbbdlmcjaa
end
section
/- The typed readings of the functions, and that the program meets each: written by gen.py (a program of this session). -/
set_option linter.unusedVariables false
set_option linter.unusedSimpArgs false
namespace Go.Proofs.Ytagkcbbbdlmcjaa
open Go.Lift
set_option maxRecDepth 100000 in
set_option maxHeartbeats 4000000 in
theorem s53_calls (K : Sl → World → Prop) (p0 : Sl) (w : World) (h : s53 K p0 w) :
    Calls Try.prog 53 #[Sl.v p0] w (Ret r53 K) := by
  unfold s53 at h
  refine calls_of_CW (n := 8) Try.func53 rfl rfl rfl ?_
  refine CW.seq ?_
  refine CW.region ?_
  refine RL.opS trivial rfl (OpW.assign (v := Sl.v nilSl) rfl ?_)
  refine RL.nil ?_
  refine CW.seq ?_
  refine CW.seq ?_
  refine CW.region ?_
  refine RL.opS trivial rfl (OpW.move (v := Sl.v p0) rfl ?_)
  refine RL.opS trivial rfl (OpW.slNil (b := p0.a.isNone) (s := p0) slice_39 rfl rfl rfl ?_)
  refine RL.nil ?_
  obtain ⟨ha, hc⟩ := h
  refine CW.cond (b := (p0.a.isNone)) rfl (fun hb1 => ?_) (fun hb1 => ?_)
  · have h := ha hb1; clear ha hc
    refine CW.seq ?_
    refine CW.region ?_
    refine RL.opS trivial rfl (OpW.assign (v := Sl.v nilSl) rfl ?_)
    refine RL.nil ?_
    refine CW.ret ?_
    exact ret_intro (res1 rfl rfl) ⟨nilSl, rfl, h⟩
  · have h := hc hb1; clear ha hc
    refine CW.skip ?_
    refine CW.seq ?_
    refine CW.region ?_
    obtain ⟨b2, hb2_⟩ : ∃ b_, b_ = w.heap.size := ⟨_, rfl⟩
    obtain ⟨w3, hw3_⟩ : ∃ w_, w_ = w.alloc (.cells (List.toArray []) 5) := ⟨_, rfl⟩
    have h := h b2 w3 hb2_ hw3_
    refine RL.opS trivial rfl (OpW.buildSliceE (vs := []) (cs := []) (by rfl) (by kernel_rfl) hb2_ hw3_ ?_)
    refine RL.opS trivial rfl (OpW.move (v := Sl.v p0) rfl ?_)
    obtain ⟨x4, w5, hr_, h⟩ := h
    refine RL.opS trivial rfl (OpW.appendL (v := Sl.v x4) rfl hr_ ?_)
    refine RL.opS trivial rfl (OpW.assign (v := Sl.v x4) rfl ?_)
    refine RL.nil ?_
    refine CW.ret ?_
    exact ret_intro (res1 rfl rfl) ⟨x4, rfl, h⟩
end Go.Proofs.Ytagkcbbbdlmcjaa
end
section
/- The typed readings of the functions, and that the program meets each: written by gen.py (a program of this session). -/
set_option linter.unusedVariables false
set_option linter.unusedSimpArgs false
namespace Go.Proofs.Ytagkcbbbdlmcjaa
open Go.Lift
set_option maxRecDepth 100000 in
set_option maxHeartbeats 4000000 in
theorem s59_calls (K : Int → World → Prop) (p0 : Option Addr) (p1 : Int) (w : World) (h : s59 K p0 p1 w) :
    Calls Try.prog 59 #[.pointer p0, .int .i64 p1] w (Ret r59 K) := by
  unfold s59 at h
  refine calls_of_CW (n := 20) Try.func59 rfl rfl rfl ?_
  refine CW.seq ?_
  refine CW.region ?_
  refine RL.opS trivial rfl (OpW.assign (v := .int .i64 0) rfl ?_)
  refine RL.nil ?_
  refine CW.seq ?_
  refine CW.block ?_
  refine CW.seq ?_
  refine CW.region ?_
  refine RL.opS trivial rfl (OpW.move (v := .pointer p0) rfl ?_)
  refine RL.opS trivial rfl (OpW.callR (al := [.pointer p0]) Try.func38 fb_38 fn_38 rfl h (fun x1 w2 h => ?_))
  refine RL.opS trivial rfl (OpW.assign (v := .bool x1) rfl ?_)
  refine RL.nil ?_
  obtain ⟨ha, hc⟩ := h
  refine CW.cond (b := x1) rfl (fun hb3 => ?_) (fun hb3 => ?_)
  · have h := ha hb3; clear ha hc
    refine CW.seq ?_
    refine CW.region ?_
    refine RL.opS trivial rfl (OpW.assign (v := .int .i64 6) rfl ?_)
    refine RL.nil ?_
    refine CW.ret ?_
    exact ret_intro (res1 rfl rfl) ⟨6, rfl, h⟩
  · have h := hc hb3; clear ha hc
    refine CW.seq ?_
    refine CW.region ?_
    refine RL.opS trivial rfl (OpW.move (v := .int .i64 p1) rfl ?_)
    refine RL.opS trivial rfl (OpW.bin (k := .i64) (a := p1) (b := 0) (v := .bool (decide (p1 < 0))) rfl rfl rfl ?_)
    refine RL.opS trivial rfl (OpW.move (v := .bool (decide (p1 < 0))) rfl ?_)
    refine jn_elim h ?_; clear h; intro k13 hk14 h
    refine RL.joinAt (A := Bool) 8 (fun s9 ρ => ρ 19 = .bool s9) k13 ?_ ?_
    · rintro s9 ρ w10 e11 h
      subst hk14
      dsimp only [List.drop]
      refine RL.opS trivial rfl (OpW.assign (v := .bool s9) e11 ?_)
      refine RL.nil ?_
      obtain ⟨ha, hc⟩ := h
      refine CW.cond (b := s9) rfl (fun hb12 => ?_) (fun hb12 => ?_)
      · have h := ha hb12; clear ha hc
        refine CW.seq ?_
        refine CW.region ?_
        refine RL.opS trivial rfl (OpW.assign (v := .int .i64 2) rfl ?_)
        refine RL.nil ?_
        refine CW.ret ?_
        exact ret_intro (res1 rfl rfl) ⟨2, rfl, h⟩
      · have h := hc hb12; clear ha hc
        refine CW.skip ?_
        refine CW.seq ?_
        refine CW.region ?_
        refine RL.opS trivial rfl (OpW.assign (v := .int .i64 0) rfl ?_)
        refine RL.nil ?_
        refine CW.ret ?_
        exact ret_intro (res1 rfl rfl) ⟨0, rfl, h⟩
    · clear hk14
      dsimp only [List.take]
      obtain ⟨ha, hc⟩ := h
      rcases Bool.eq_false_or_eq_true (decide (p1 < 0)) with hb4 | hb4
      · have h := ha hb4; clear ha hc
        refine RL.skipS (notWanted_of rfl rfl hb4) rfl ?_
        refine RL.skipS (notWanted_of rfl rfl hb4) rfl ?_
        refine RL.skipS (notWanted_of rfl rfl hb4) rfl ?_
        refine RL.skipS (notWanted_of rfl rfl hb4) rfl ?_
        refine RL.skipS (notWanted_of rfl rfl hb4) rfl ?_
        refine RL.skipS (notWanted_of rfl rfl hb4) rfl ?_
        refine RL.skipS (notWanted_of rfl rfl hb4) rfl ?_
        refine RL.opS trivial rfl (OpW.pick (b := true) (v := .bool true) (congrArg Value.bool hb4) rfl ?_)
        refine RL.nil ?_
        exact ⟨true, rfl, h⟩
      · have h := hc hb4; clear ha hc
        refine RL.opS (wanted_of rfl rfl hb4) rfl (OpW.move (v := .int .i64 p1) rfl ?_)
        refine RL.opS (wanted_of rfl rfl hb4) rfl (OpW.move (v := .pointer p0) rfl ?_)
        obtain ⟨a6, ha7, h⟩ := h
        refine RL.opS (wanted_of rfl rfl hb4) rfl (OpW.nilCheck (a := a6) (congrArg Value.pointer ha7) ?_)
        refine RL.opS (wanted_of rfl rfl hb4) rfl (OpW.fieldAddr (off := 0) field_93_0 rfl ?_)
        obtain ⟨x8, h1, h⟩ := h
        refine RL.opS (wanted_of rfl rfl hb4) rfl (OpW.load1 (v := Sl.v x8) one_90 rfl h1 ?_)
        refine RL.opS (wanted_of rfl rfl hb4) rfl (OpW.len (s := x8) slice_90 rfl ?_)
        refine RL.opS (wanted_of rfl rfl hb4) rfl (OpW.bin (k := .i64) (a := p1) (b := (x8.len : Int)) (v := .bool (decide ((x8.len : Int) ≤ p1))) rfl rfl rfl ?_)
        refine RL.opS trivial rfl (OpW.pick (b := false) (v := .bool (decide ((x8.len : Int) ≤ p1))) (congrArg Value.bool hb4) rfl ?_)
        refine RL.nil ?_
        exact ⟨(decide ((x8.len : Int) ≤ p1)), rfl, h⟩
end Go.Proofs.Ytagkcbbbdlmcjaa
end
section
/- The typed readings of the functions, and that the program meets each: written by gen.py (a program of this session). -/
set_option linter.unusedVariables false
set_option linter.unusedSimpArgs false
namespace Go.Proofs.Ytagkcbbbdlmcjaa
open Go.Lift
set_option maxRecDepth 100000 in
set_option maxHeartbeats 4000000 in
theorem s64_calls (K : Sl → World → Prop) (p0 : Sl) (w : World) (h : s64 K p0 w) :
    Calls Try.prog 64 #[Sl.v p0] w (Ret r64 K) := by
  unfold s64 at h
  refine calls_of_CW (n := 8) Try.func64 rfl rfl rfl ?_
  refine CW.seq ?_
  refine CW.region ?_
  refine RL.opS trivial rfl (OpW.assign (v := Sl.v nilSl) rfl ?_)
  refine RL.nil ?_
  refine CW.seq ?_
  refine CW.seq ?_
  refine CW.region ?_
  refine RL.opS trivial rfl (OpW.move (v := Sl.v p0) rfl ?_)
  refine RL.opS trivial rfl (OpW.slNil (b := p0.a.isNone) (s := p0) slice_47 rfl rfl rfl ?_)
  refine RL.nil ?_
  obtain ⟨ha, hc⟩ := h
  refine CW.cond (b := (p0.a.isNone)) rfl (fun hb1 => ?_) (fun hb1 => ?_)
  · have h := ha hb1; clear ha hc
    refine CW.seq ?_
    refine CW.region ?_
    refine RL.opS trivial rfl (OpW.assign (v := Sl.v nilSl) rfl ?_)
    refine RL.nil ?_
    refine CW.ret ?_
    exact ret_intro (res1 rfl rfl) ⟨nilSl, rfl, h⟩
  · have h := hc hb1; clear ha hc
    refine CW.skip ?_
    refine CW.seq ?_
    refine CW.region ?_
    obtain ⟨b2, hb2_⟩ : ∃ b_, b_ = w.heap.size := ⟨_, rfl⟩
    obtain ⟨w3, hw3_⟩ : ∃ w_, w_ = w.alloc (.cells (List.toArray []) 27) := ⟨_, rfl⟩
    have h := h b2 w3 hb2_ hw3_
    refine RL.opS trivial rfl (OpW.buildSliceE (vs := []) (cs := []) (by rfl) (by kernel_rfl) hb2_ hw3_ ?_)
    refine RL.opS trivial rfl (OpW.move (v := Sl.v p0) rfl ?_)
    obtain ⟨x4, w5, hr_, h⟩ := h
    refine RL.opS trivial rfl (OpW.appendL (v := Sl.v x4) rfl hr_ ?_)
    refine RL.opS trivial rfl (OpW.assign (v := Sl.v x4) rfl ?_)
    refine RL.nil ?_
    refine CW.ret ?_
    exact ret_intro (res1 rfl rfl) ⟨x4, rfl, h⟩
end Go.Proofs.Ytagkcbbbdlmcjaa
end
section
/- The typed readings of the functions, and that the program meets each: written by gen.py (a program of this session). -/
set_option linter.unusedVariables false
set_option linter.unusedSimpArgs false
namespace Go.Proofs.Ytagkcbbbdlmcjaa
open Go.Lift
set_option maxRecDepth 100000 in
set_option maxHeartbeats 4000000 in
theorem s32_calls (K : Sl → World → Prop) (p0 : Int) (p1 : List UInt8) (w : World) (h : s32 K p0 p1 w) :
    Calls Try.prog 32 #[.int .u8 p0, str p1] w (Ret r32 K) := by
  unfold s32 at h
  refine calls_of_CW (n := 22) Try.func32 rfl rfl rfl ?_
  refine CW.seq ?_
  refine CW.region ?_
  refine RL.opS trivial rfl (OpW.assign (v := Sl.v nilSl) rfl ?_)
  refine RL.nil ?_
  refine CW.seq ?_
  refine CW.region ?_
  obtain ⟨h1, h2, h3, h4, h⟩ := h
  obtain ⟨b1, hb1_⟩ : ∃ b_, b_ = w.heap.size := ⟨_, rfl⟩
  obtain ⟨w2, hw2_⟩ : ∃ w_, w_ = w.alloc (.cells (List.replicate (Int.toNat 512 * 1) (Value.int .u8 0)).toArray 5) := ⟨_, rfl⟩
  have h := h b1 w2 hb1_ hw2_
  obtain ⟨x3, hx3_⟩ : ∃ s_ : Sl, s_ = ⟨some ⟨b1, 0, none⟩, Int.toNat 512, Int.toNat 512⟩ := ⟨_, rfl⟩
  rw [← hx3_] at h
  refine RL.opS trivial rfl (OpW.makeSliceE mk_39 (by decide) rfl rfl h1 h2 h3 h4 hb1_ hw2_ hx3_ ?_)
  refine RL.opS trivial rfl (OpW.assign (v := Sl.v x3) rfl ?_)
  refine RL.nil ?_
  refine CW.seq ?_
  refine CW.seq ?_
  refine CW.region ?_
  refine RL.opS trivial rfl (OpW.move (v := Sl.v x3) rfl ?_)
  refine RL.opS trivial rfl (OpW.len (s := x3) slice_39 rfl ?_)
  refine RL.opS trivial rfl (OpW.move (v := .int .i64 0) rfl ?_)
  refine RL.nil ?_
  refine CW.block ?_
  obtain ⟨I18, mu19, hI, hs⟩ := h
  refine CW.loop (σ := Int) (fun s4 ρ => ρ 10 = .int .i64 s4 ∧ ρ 0 = .int .u8 p0 ∧ ρ 1 = str p1 ∧ ρ 5 = Sl.v x3 ∧ ρ 9 = .int .i64 (x3.len : Int)) I18 mu19 0 ⟨rfl, rfl, rfl, rfl, rfl⟩ hI ?_
  rintro s4 ρ w5 ⟨e7, e8, e9, e10, e11⟩ hI
  have h := hs s4 w5 hI
  clear hs hI
  refine CW.seq ?_
  refine CW.region ?_
  refine RL.opS trivial rfl (OpW.bin (k := .i64) (a := s4) (b := (x3.len : Int)) (v := .bool (decide (s4 < (x3.len : Int)))) e7 e11 rfl ?_)
  refine RL.nil ?_
  refine CW.seq ?_
  obtain ⟨ha, hc⟩ := h
  refine CW.cond (b := (decide (s4 < (x3.len : Int)))) rfl (fun hb12 => ?_) (fun hb12 => ?_)
  · have h := ha hb12; clear ha hc
    refine CW.skip ?_
    refine CW.seq ?_
    refine CW.block ?_
    refine CW.seq ?_
    refine CW.region ?_
    refine RL.opS trivial rfl (OpW.move (v := .int .i64 s4) e7 ?_)
    refine RL.opS trivial rfl (OpW.assign (v := .int .i64 s4) rfl ?_)
    refine RL.nil ?_
    refine CW.region ?_
    refine RL.opS trivial rfl (OpW.move (v := Sl.v x3) e10 ?_)
    refine RL.opS trivial rfl (OpW.move (v := .int .i64 s4) rfl ?_)
    refine RL.opS trivial rfl (OpW.move (v := .int .u8 p0) e8 ?_)
    obtain ⟨a13_, a13, h1, h2, h3, h4, h⟩ := h
    refine RL.opS trivial rfl (OpW.indexE (a' := a13) slice_39 rfl rfl h1 h2 h3 h4 ?_)
    obtain ⟨u_, h1, h2, h⟩ := h
    obtain ⟨w15, hw15_⟩ : ∃ w_, w_ = w5.setCell a13 (.int .u8 p0) := ⟨_, rfl⟩
    have h := h w15 hw15_
    refine RL.opN trivial (OpW.store1E (v := .int .u8 p0) size_5 rfl rfl rfl h1 h2 hw15_ ?_)
    refine RL.nil ?_
    refine CW.region ?_
    refine RL.opS trivial rfl (OpW.bin (k := .i64) (a := s4) (b := 1) (v := .int .i64 (IntKind.i64.wrap (s4 + 1))) e7 rfl rfl ?_)
    refine RL.opS trivial rfl (OpW.move (v := .int .i64 (IntKind.i64.wrap (s4 + 1))) rfl ?_)
    refine RL.nil ?_
    exact ⟨(IntKind.i64.wrap (s4 + 1)), ⟨rfl, e8, e9, e10, e11⟩, h⟩
  · have h := hc hb12; clear ha hc
    refine CW.exit ?_
    refine CW.seq ?_
    refine CW.region ?_
    refine RL.opS trivial rfl (OpW.move (v := Sl.v x3) e10 ?_)
    refine RL.opS trivial rfl (OpW.move (v := str p1) e9 ?_)
    obtain ⟨x16, w17, hr_, h⟩ := h
    refine RL.opS trivial rfl (OpW.copyL (v := .int .i64 x16) rfl hr_ ?_)
    refine RL.nil ?_
    refine CW.seq ?_
    refine CW.region ?_
    refine RL.opS trivial rfl (OpW.move (v := Sl.v x3) e10 ?_)
    refine RL.opS trivial rfl (OpW.assign (v := Sl.v x3) rfl ?_)
    refine RL.nil ?_
    refine CW.ret ?_
    exact ret_intro (res1 rfl rfl) ⟨x3, rfl, h⟩
end Go.Proofs.Ytagkcbbbdlmcjaa
end
section
/- The disk in memory, and what its functions do that change little. -/
set_option linter.unusedVariables false
set_option linter.unusedSimpArgs false
namespace Go.Proofs.Ytagkcbbbdlmcjaa
open Go.Lift Go.Lift.Disk Go.RowKit
def Foot (pd bb : Nat) : Nat → Prop := fun k => k = pd ∨ k = bb
structure SlAt (w : World) (base : Nat → Prop) (pd bb sz : Nat) (s : Sl) (cs : List Value) : Prop where
  len : cs.length = s.len * sz
  cap : s.len ≤ s.cap
  nil : s.a = none → s = nilSl
  cells : AtO w s.a cs
  far : ∀ a, s.a = some a → base a.block ∧ a.block < w.heap.size ∧ ¬ Foot pd bb a.block
structure DX (w : World) (base : Nat → Prop) (pd bb cap : Nat) (rest : List Value) (sp sf : Sl) (D : Dk) : Prop where
  wf : D.Wf
  hpd : base pd
  hbb : base bb
  hne : pd ≠ bb
  hcap : D.bl.length ≤ cap
  disk : Blk w pd 93 [(⟨some ⟨bb, 0, none⟩, D.bl.length, cap⟩ : Sl).v, sp.v, sf.v, .int .i64 D.changes, .bool D.down]
  rows : Blk w bb 112 (u8s (flatB D.bl) ++ rest)
  pend : SlAt w base pd bb 513 sp (pendC D.pend)
  falls : SlAt w base pd bb 3 sf (fallC D.falls)
/-- A disk at a place. -/
def DAt (w : World) (base : Nat → Prop) (pd bb : Nat) (D : Dk) : Prop := ∃ cap rest sp sf, DX w base pd bb cap rest sp sf D
abbrev dp (pd : Nat) : Option Addr := some ⟨pd, 0, none⟩

theorem SlAt.nilAt (w : World) (base : Nat → Prop) (pd bb sz : Nat) : SlAt w base pd bb sz nilSl [] := ⟨by simp, Nat.le_refl _, fun _ => rfl, rfl, fun a h => by cases h⟩
theorem SlAt.fr {X : Nat → Prop} {w w' : World} {base : Nat → Prop} {pd bb sz : Nat} {s : Sl} {cs : List Value} (h : SlAt w base pd bb sz s cs) (hf : Fr X w w') (hX : ∀ k, base k → ¬ Foot pd bb k → ¬ X k) : SlAt w' base pd bb sz s cs :=
  ⟨h.len, h.cap, h.nil, hf.atO (fun b hb => hX _ (h.far b hb).1 (h.far b hb).2.2) h.cells, fun a ha => ⟨(h.far a ha).1, Nat.lt_of_lt_of_le (h.far a ha).2.1 hf.size, (h.far a ha).2.2⟩⟩
theorem DX.fr {X : Nat → Prop} {w w' : World} {base : Nat → Prop} {pd bb cap : Nat} {rest : List Value} {sp sf : Sl} {D : Dk} (h : DX w base pd bb cap rest sp sf D) (hf : Fr X w w') (hX : ∀ k, base k → ¬ X k) : DX w' base pd bb cap rest sp sf D :=
  ⟨h.wf, h.hpd, h.hbb, h.hne, h.hcap, h.disk.fr hf (hX _ h.hpd), h.rows.fr hf (hX _ h.hbb), h.pend.fr hf fun k hk _ => hX k hk, h.falls.fr hf fun k hk _ => hX k hk⟩
theorem DX.ext {w w' : World} {base : Nat → Prop} {pd bb cap : Nat} {rest : List Value} {sp sf : Sl} {D : Dk} (h : DX w base pd bb cap rest sp sf D) (hf : Ext w w') : DX w' base pd bb cap rest sp sf D :=
  h.fr (X := fun _ => False) (Fr.of hf) fun _ _ h => h
theorem DAt.fr {X : Nat → Prop} {w w' : World} {base : Nat → Prop} {pd bb : Nat} {D : Dk} (h : DAt w base pd bb D) (hf : Fr X w w') (hX : ∀ k, base k → ¬ X k) : DAt w' base pd bb D := by
  obtain ⟨c, r, sp, sf, h⟩ := h
  exact ⟨c, r, sp, sf, h.fr hf hX⟩
theorem DAt.ext {w w' : World} {base : Nat → Prop} {pd bb : Nat} {D : Dk} (h : DAt w base pd bb D) (hf : Ext w w') : DAt w' base pd bb D := h.fr (X := fun _ => False) (Fr.of hf) fun _ _ h => h
theorem DAt.wf {w : World} {base : Nat → Prop} {pd bb : Nat} {D : Dk} (h : DAt w base pd bb D) : D.Wf := by obtain ⟨_, _, _, _, h⟩ := h; exact h.wf
theorem DAt.lt {w : World} {base : Nat → Prop} {pd bb : Nat} {D : Dk} (h : DAt w base pd bb D) : base pd ∧ base bb ∧ pd < w.heap.size ∧ bb < w.heap.size := by obtain ⟨_, _, _, _, h⟩ := h; exact ⟨h.hpd, h.hbb, h.disk.lt, h.rows.lt⟩
/-- other blocks that may be its own -/
theorem DAt.mono {w : World} {base base' : Nat → Prop} {pd bb : Nat} {D : Dk} (h : DAt w base pd bb D) (hB : ∀ k, k < w.heap.size → base k → base' k) : DAt w base' pd bb D := by
  obtain ⟨c, r, sp, sf, h⟩ := h
  exact ⟨c, r, sp, sf, h.wf, hB _ h.disk.lt h.hpd, hB _ h.rows.lt h.hbb, h.hne, h.hcap, h.disk, h.rows, ⟨h.pend.len, h.pend.cap, h.pend.nil, h.pend.cells, fun a ha => ⟨hB _ (h.pend.far a ha).2.1 (h.pend.far a ha).1, (h.pend.far a ha).2⟩⟩,
    ⟨h.falls.len, h.falls.cap, h.falls.nil, h.falls.cells, fun a ha => ⟨hB _ (h.falls.far a ha).2.1 (h.falls.far a ha).1, (h.falls.far a ha).2⟩⟩⟩
/-- the blocks from one on -/
def Up (n : Nat) : Nat → Prop := fun k => n ≤ k
theorem upB {w0 w : World} (h : w0.heap.size ≤ w.heap.size) : ∀ k, w.heap.size ≤ k → Up w0.heap.size k := fun k hk => Nat.le_trans h hk
/-- a write into the rows -/
theorem DX.setRows {w w' : World} {base : Nat → Prop} {pd bb cap : Nat} {rest : List Value} {sp sf : Sl} {D : Dk} (h : DX w base pd bb cap rest sp sf D) {l : List Bl} (hb : Blk w' bb 112 (u8s (flatB l) ++ rest)) (hf : Fr (· = bb) w w') (hl : l.length = D.bl.length) (hw : WfB l) :
    DX w' base pd bb cap rest sp sf { D with bl := l } := by
  have hwf := h.wf
  refine ⟨⟨by simp only [hl]; exact hwf.pos, by simp only [hl]; exact hwf.few, hw, by simp only [hl]; exact hwf.pend, hwf.plen, hwf.keep, hwf.flen, hwf.ch⟩, h.hpd, h.hbb, h.hne, by simp only [hl]; exact h.hcap, ?_, hb, ?_, ?_⟩
  · simp only [hl]; exact h.disk.fr hf h.hne
  · exact h.pend.fr hf fun k _ hk e => hk (.inr e)
  · exact h.falls.fr hf fun k _ hk e => hk (.inr e)
theorem footFr_bb {pd bb : Nat} {w w' : World} (h : Fr (· = bb) w w') : Fr (Foot pd bb) w w' := h.mono fun k _ e => .inr e
theorem footFr_pd {pd bb : Nat} {w w' : World} (h : Fr (· = pd) w w') : Fr (Foot pd bb) w w' := h.mono fun k _ e => .inl e

/-! ### what only looks -/
section
variable {w : World} {base : Nat → Prop} {pd bb : Nat} {D : Dk}
theorem down_ok (h : DAt w base pd bb D) : Calls Try.prog 38 #[.pointer (dp pd)] w (Ret r38 fun x w' => x = D.down ∧ w = w') := by
  obtain ⟨c, r, sp, sf, h⟩ := h
  apply s38_calls
  refine jn_of fun k hk => ?_
  refine ⟨fun h => absurd h (by simp), fun _ => ?_⟩
  refine ⟨_, rfl, D.down, by rw [add_plain]; exact h.disk.cell rfl, ?_⟩
  rw [hk]
  exact ⟨rfl, rfl⟩
theorem changes_ok (h : DAt w base pd bb D) : Calls Try.prog 19 #[.pointer (dp pd)] w (Ret r19 fun x w' => x = (D.changes : Int) ∧ w = w') := by
  obtain ⟨c, r, sp, sf, h⟩ := h
  apply s19_calls
  refine ⟨fun h => absurd h (by simp), fun _ => ?_⟩
  exact ⟨_, rfl, _, by rw [add_plain]; exact h.disk.cell rfl, rfl, rfl⟩
theorem pend_len {sp : Sl} {l : List (Nat × List UInt8)} (hs : SlAt w base pd bb 513 sp (pendC l)) (hl : ∀ p ∈ l, p.2.length = 512) : sp.len = l.length := by
  have h1 := hs.len
  rw [pendC_len hl] at h1
  omega
theorem fall_len {sf : Sl} {l : List Fall} (hs : SlAt w base pd bb 3 sf (fallC l)) : sf.len = l.length := by
  have h1 := hs.len
  rw [fallC_len] at h1
  omega
theorem pending_ok (h : DAt w base pd bb D) : Calls Try.prog 23 #[.pointer (dp pd)] w (Ret r23 fun x w' => x = (D.pend.length : Int) ∧ w = w') := by
  obtain ⟨c, r, sp, sf, h⟩ := h
  apply s23_calls
  refine ⟨fun h => absurd h (by simp), fun _ => ?_⟩
  have := pend_len h.pend fun p hp => (h.wf.pend p hp).2
  exact ⟨_, rfl, sp, by rw [add_plain]; exact h.disk.cell rfl, by rw [this], rfl⟩
theorem blocks_ok (h : DAt w base pd bb D) : Calls Try.prog 39 #[.pointer (dp pd)] w (Ret r39 fun x w' => x = (D.bl.length : Int) ∧ w = w') := by
  obtain ⟨c, r, sp, sf, h⟩ := h
  apply s39_calls
  refine ⟨fun h => absurd h (by simp), fun _ => ?_⟩
  exact ⟨_, rfl, _, by rw [add_plain]; exact h.disk.cell rfl, rfl, rfl⟩
theorem has_ok (h : DAt w base pd bb D) (i : Int) : Calls Try.prog 59 #[.pointer (dp pd), .int .i64 i] w (Ret r59 fun x w' => x = D.why i ∧ w = w') := by
  apply s59_calls
  refine cR_of (down_ok h) ?_
  rintro x w' ⟨rfl, rfl⟩
  obtain ⟨c, r, sp, sf, h⟩ := h
  unfold Dk.why
  refine ⟨fun hd => ?_, fun hd => ?_⟩
  · rw [if_pos hd]; exact ⟨rfl, rfl⟩
  · rw [if_neg (by rw [hd]; simp)]
    refine jn_of fun k hk => ?_
    have key : ∀ b : Bool, (b = true ↔ (i < 0 ∨ (D.bl.length : Int) ≤ i)) → k b w := by
      intro b hb
      rw [hk]
      refine ⟨fun ht => ?_, fun hf => ?_⟩
      · rw [if_pos (hb.1 ht)]; exact ⟨rfl, rfl⟩
      · rw [if_neg fun h => by rw [hb.2 h] at hf; cases hf]; exact ⟨rfl, rfl⟩
    refine ⟨fun h0 => key _ ?_, fun h0 => ?_⟩
    · have := of_decide_eq_true h0; simp [this]
    · have h0 := of_decide_eq_false h0
      refine ⟨_, rfl, ⟨some ⟨bb, 0, none⟩, D.bl.length, c⟩, by rw [add_plain]; exact h.disk.cell rfl, key _ ?_⟩
      simp; omega
theorem up_ok (h : DAt w base pd bb D) : Calls Try.prog 27 #[.pointer (dp pd)] w (Ret r27 fun x w' => x = D.down ∧ DAt w' base pd bb D.up ∧ Fr (Foot pd bb) w w') := by
  obtain ⟨c, r, sp, sf, h⟩ := h
  apply s27_calls
  refine jn_of fun k hk => ?_
  refine ⟨fun h => absurd h (by simp), fun _ => ?_⟩
  refine ⟨_, rfl, D.down, by rw [add_plain]; exact h.disk.cell rfl, ?_⟩
  rw [hk]
  refine ⟨fun hd => ?_, fun hd => ?_⟩
  · have hd : D.down = false := by simpa using hd
    refine ⟨hd.symm, ⟨c, r, sp, sf, ?_⟩, Fr.refl w⟩
    unfold Dk.up
    rw [← hd]; exact h
  · have hd : D.down = true := by simpa using hd
    refine ⟨_, rfl, ?_⟩
    show st1 _ _ _ _
    rw [add_plain]
    refine st1_blk h.disk (Nat.lt_succ_self 4) fun w' hb hf => ?_
    refine ⟨hd.symm, ⟨c, r, sp, sf, ?_⟩, footFr_pd hf⟩
    exact ⟨⟨h.wf.pos, h.wf.few, h.wf.bl, h.wf.pend, h.wf.plen, h.wf.keep, h.wf.flen, h.wf.ch⟩, h.hpd, h.hbb, h.hne, h.hcap, hb, h.rows.fr hf h.hne.symm, h.pend.fr hf fun k _ hk e => hk (.inl e), h.falls.fr hf fun k _ hk e => hk (.inl e)⟩

/-! ### bytes -/
theorem cut_all (a : Addr) (n : Nat) (hn : 0 < n) : Sl.cut ⟨some (Addr.add a 0), n, n⟩ 1 0 n n = ⟨some a, n, n⟩ := by
  have : Addr.add a 0 = a := by simp [Addr.add]
  simp [Sl.cut, this]
theorem cloneB_ok (p : Sl) (bs : List UInt8) (hp : Bytes w p bs) (hne : p.a ≠ none) (hl : bs.length ≤ 70368744177664) :
    Calls Try.prog 53 #[p.v] w (Ret r53 fun x w' => Own w' w.heap.size 5 1 x (u8s bs) ∧ Ext w w') := by
  apply s53_calls
  have hpl := hp.1
  refine ⟨fun h => absurd (Option.isNone_iff_eq_none.1 h) hne, fun _ => ?_⟩
  intro b2 w3 hb2 hw3
  have hx3 : Ext w w3 := Ext.new hw3
  refine app_ok (base := w.heap.size) mk_39 rfl (by decide) (Own.made (e := 5) (size := 1) (c := 0) hb2 hw3 (Nat.le_refl _) rfl (by simp [maxLen])) (news := u8s bs)
    (by rw [u8s_length]; omega) (hp.ext hx3).2 (u8s_one _) (by simp only [maxLen]; omega) (by simp only; omega) hx3.size ?_
  intro s' w' hl' ho' _ hB'
  exact ⟨by simpa using ho', hB' _ _ hx3 (Nat.le_refl _) hx3.size⟩
theorem flatAt {c : Nat} {r : List Value} {sp sf : Sl} (h : DX w base pd bb c r sp sf D) {i : Nat} (hi : i < D.bl.length) : At w ⟨bb, 1024 * i, none⟩ (u8s (bAt D.bl i).1) ∧ At w ⟨bb, 1024 * i + 512, none⟩ (u8s (bAt D.bl i).2) := by
  have hl := bAt_len h.wf.bl hi
  have hf := flat_len h.wf.bl
  refine ⟨h.rows.at ?_, h.rows.at ?_⟩
  · rw [u8s_len, hl.1, List.drop_append_of_le_length (by rw [u8s_len]; omega), List.take_append_of_le_length (by rw [List.length_drop, u8s_len]; omega), u8s_drop, u8s_take, flat_now h.wf.bl hi]
  · rw [u8s_len, hl.2, List.drop_append_of_le_length (by rw [u8s_len]; omega), List.take_append_of_le_length (by rw [List.length_drop, u8s_len]; omega), u8s_drop, u8s_take, flat_sure h.wf.bl hi]
theorem why_zero {i : Int} (h : D.why i = 0) : D.down = false ∧ 0 ≤ i ∧ i < D.bl.length := by
  unfold Dk.why at h
  split at h
  · cases h
  · split at h
    · cases h
    · rename_i h1 h2
      exact ⟨by simpa using h1, by omega, by omega⟩
theorem read_ok (h : DAt w base pd bb D) (i : Int) : Calls Try.prog 28 #[.pointer (dp pd), .int .i64 i] w (Ret r28 fun x w' => Ext w w' ∧
    ((D.why i ≠ 0 ∧ x = (nilSl, D.why i)) ∨ (D.why i = 0 ∧ x.2 = 0 ∧ Own w' w.heap.size 5 1 x.1 (u8s (bAt D.bl i.toNat).1)))) := by
  apply s28_calls
  refine cR_of (has_ok h i) ?_
  rintro x w' ⟨rfl, rfl⟩
  obtain ⟨c, r, sp, sf, h⟩ := h
  refine ⟨fun hne => ?_, fun he => ?_⟩
  · exact ⟨Ext.refl _, .inl ⟨nd_t hne, rfl⟩⟩
  · have he := nd_f he
    obtain ⟨h1, h2, h3⟩ := why_zero he
    obtain ⟨n, rfl⟩ := Int.eq_ofNat_of_zero_le h2
    have hn : n < D.bl.length := by omega
    refine ⟨_, rfl, ⟨some ⟨bb, 0, none⟩, D.bl.length, c⟩, by rw [add_plain]; exact h.disk.cell rfl, ?_⟩
    refine ⟨⟨bb, 0, none⟩, _, rfl, by omega, by simpa using h3, rfl, ?_⟩
    show cR _ _ _ _ _ _
    rw [add_plain, Nat.zero_add, Int.toNat_natCast]
    have ec := cut_all ⟨bb, n * 1024, none⟩ 512 (by decide)
    have ec2 : Sl.cut ⟨some (Addr.add ⟨bb, n * 1024, none⟩ 0), 512, 512⟩ 1 0 512 512 = ⟨some ⟨bb, n * 1024, none⟩, 512, 512⟩ := ec
    rw [ec2]
    have hl := bAt_len h.wf.bl hn
    refine cR_of (cloneB_ok ⟨some ⟨bb, n * 1024, none⟩, 512, 512⟩ (bAt D.bl n).1 ⟨by rw [hl.1], ?_⟩ (by simp) (by omega)) ?_
    · rw [Nat.mul_comm]; exact (flatAt h hn).1
    rintro x w2 ⟨ho, hx⟩
    exact ⟨hx, .inr ⟨he, rfl, ho⟩⟩
end
end Go.Proofs.Ytagkcbbbdlmcjaa
end
section
/- The typed readings of the functions, and that the program meets each: written by gen.py (a program of this session). -/
set_option linter.unusedVariables false
set_option linter.unusedSimpArgs false
namespace Go.Proofs.Ytagkcbbbdlmcjaa
open Go.Lift
set_option maxRecDepth 100000 in
set_option maxHeartbeats 4000000 in
theorem s35_calls (K : Unit → World → Prop) (p0 : Option Addr) (p1 : List Value) (w : World) (h : s35 K p0 p1 w) :
    Calls Try.prog 35 #[.pointer p0, aggv p1] w (Ret r35 K) := by
  unfold s35 at h
  refine calls_of_CW (n := 95) Try.func35 rfl rfl rfl ?_
  refine CW.seq ?_
  refine CW.region ?_
  obtain ⟨b1, hb1_⟩ : ∃ b_, b_ = w.heap.size := ⟨_, rfl⟩
  obtain ⟨w2, hw2_⟩ : ∃ w_, w_ = w.alloc (.cells (List.toArray p1) 27) := ⟨_, rfl⟩
  have h := h b1 w2 hb1_ hw2_
  refine RL.opS trivial rfl (OpW.boxE (cs := p1) (rfl) hb1_ hw2_ ?_)
  refine RL.nil ?_
  refine CW.seq ?_
  refine CW.seq ?_
  refine CW.region ?_
  refine RL.opS trivial rfl (OpW.move (v := .pointer p0) rfl ?_)
  refine RL.opS trivial rfl (OpW.callR (al := [.pointer p0]) Try.func38 fb_38 fn_38 rfl h (fun x3 w4 h => ?_))
  refine RL.nil ?_
  obtain ⟨ha, hc⟩ := h
  refine CW.cond (b := x3) rfl (fun hb5 => ?_) (fun hb5 => ?_)
  · have h := ha hb5; clear ha hc
    refine CW.ret ?_
    exact ret_intro (res0 rfl) ⟨(), rfl, h⟩
  · have h := hc hb5; clear ha hc
    refine CW.skip ?_
    refine CW.seq ?_
    refine CW.region ?_
    refine RL.opS trivial rfl (OpW.move (v := .pointer p0) rfl ?_)
    obtain ⟨a6, ha7, h⟩ := h
    refine RL.opS trivial rfl (OpW.nilCheck (a := a6) (congrArg Value.pointer ha7) ?_)
    refine RL.opS trivial rfl (OpW.fieldAddr field_93_1 rfl ?_)
    obtain ⟨x8, h1, h⟩ := h
    refine RL.opS trivial rfl (OpW.load1 (v := Sl.v x8) one_91 rfl h1 ?_)
    refine RL.opS trivial rfl (OpW.len (s := x8) slice_91 rfl ?_)
    refine RL.opS trivial rfl (OpW.bin (k := .i64) (a := (x8.len : Int)) (b := 1) (v := .int .i64 (IntKind.i64.wrap ((x8.len : Int) - 1))) rfl rfl rfl ?_)
    refine RL.opS trivial rfl (OpW.assign (v := .int .i64 (IntKind.i64.wrap ((x8.len : Int) - 1))) rfl ?_)
    refine RL.nil ?_
    refine CW.seq ?_
    refine CW.seq ?_
    refine CW.region ?_
    refine RL.opS trivial rfl (OpW.move (v := .pointer p0) rfl ?_)
    obtain ⟨a9, ha10, h⟩ := h
    refine RL.opS trivial rfl (OpW.nilCheck (a := a9) (congrArg Value.pointer ha10) ?_)
    refine RL.opS trivial rfl (OpW.fieldAddr field_93_1 rfl ?_)
    obtain ⟨x11, h1, h⟩ := h
    refine RL.opS trivial rfl (OpW.load1 (v := Sl.v x11) one_91 rfl h1 ?_)
    refine RL.opS trivial rfl (OpW.len (s := x11) slice_91 rfl ?_)
    refine RL.opS trivial rfl (OpW.move (v := .int .i64 0) rfl ?_)
    refine RL.nil ?_
    refine CW.block ?_
    obtain ⟨I104, mu105, hI, hs⟩ := h
    refine CW.loop (σ := Int) (fun s12 ρ => ρ 22 = .int .i64 s12 ∧ ρ 0 = .pointer p0 ∧ ρ 3 = .pointer (some ⟨b1, 0, none⟩) ∧ ρ 4 = .int .i64 (IntKind.i64.wrap ((x8.len : Int) - 1)) ∧ ρ 20 = Sl.v x11 ∧ ρ 21 = .int .i64 (x11.len : Int)) I104 mu105 0 ⟨rfl, rfl, rfl, rfl, rfl, rfl⟩ hI ?_
    rintro s12 ρ w13 ⟨e15, e16, e17, e18, e19, e20⟩ hI
    have h := hs s12 w13 hI
    clear hs hI
    refine CW.seq ?_
    refine CW.region ?_
    refine RL.opS trivial rfl (OpW.bin (k := .i64) (a := s12) (b := (x11.len : Int)) (v := .bool (decide (s12 < (x11.len : Int)))) e15 e20 rfl ?_)
    refine RL.nil ?_
    refine CW.seq ?_
    obtain ⟨ha, hc⟩ := h
    refine CW.cond (b := (decide (s12 < (x11.len : Int)))) rfl (fun hb21 => ?_) (fun hb21 => ?_)
    · have h := ha hb21; clear ha hc
      refine CW.skip ?_
      refine jn_elim h ?_; clear h; intro k70 hk71 h
      refine CW.seqJ (A := Unit) (fun s62 ρ => ρ 0 = .pointer p0 ∧ ρ 3 = .pointer (some ⟨b1, 0, none⟩) ∧ ρ 4 = .int .i64 (IntKind.i64.wrap ((x8.len : Int) - 1)) ∧ ρ 20 = Sl.v x11 ∧ ρ 21 = .int .i64 (x11.len : Int) ∧ ρ 22 = .int .i64 s12) k70 ?_ ?_
      · rintro s62 ρ w63 ⟨e64, e65, e66, e67, e68, e69⟩ h
        subst hk71
        refine CW.region ?_
        refine RL.opS trivial rfl (OpW.bin (k := .i64) (a := s12) (b := 1) (v := .int .i64 (IntKind.i64.wrap (s12 + 1))) e69 rfl rfl ?_)
        refine RL.opS trivial rfl (OpW.move (v := .int .i64 (IntKind.i64.wrap (s12 + 1))) rfl ?_)
        refine RL.nil ?_
        exact ⟨(IntKind.i64.wrap (s12 + 1)), ⟨rfl, e64, e65, e66, e67, e68⟩, h⟩
      · clear hk71
        refine CW.block ?_
        refine CW.seq ?_
        refine CW.region ?_
        refine RL.opS trivial rfl (OpW.move (v := .int .i64 s12) e15 ?_)
        obtain ⟨a23_, a23, h1, h2, h3, h4, h⟩ := h
        refine RL.opS trivial rfl (OpW.indexE (a' := a23) slice_91 e19 e15 h1 h2 h3 h4 ?_)
        obtain ⟨x25, h1, h2, h⟩ := h
        refine RL.opS trivial rfl (OpW.loadA agg_116 rfl h1 h2 ?_)
        obtain ⟨hl_b26, ho_b26, h⟩ := h
        obtain ⟨b26, hb26_⟩ : ∃ b_, b_ = w13.heap.size := ⟨_, rfl⟩
        obtain ⟨w27, hw27_⟩ : ∃ w_, w_ = w13.alloc (.cells (List.toArray x25) 116) := ⟨_, rfl⟩
        have h := h b26 w27 hb26_ hw27_
        refine RL.opS trivial rfl (OpW.allocZ (b := b26) zero_116 hb26_ ?_)
        refine RL.opS trivial rfl (OpW.assign (v := .int .i64 s12) rfl ?_)
        refine RL.opN trivial (OpW.storeF (zs := ([Value.int .i64 0] ++ List.replicate 512 (Value.int .u8 0))) (cs := x25) size_116 rfl rfl hl_b26 (by decide) ho_b26 hb26_ hw27_ ?_)
        refine RL.nil ?_
        refine CW.seq ?_
        obtain ⟨w28, hw28_⟩ : ∃ w_, w_ = w27.drew := ⟨_, rfl⟩
        have h := h w28 hw28_
        have hx29 : Ext w27 w28 := by rw [hw28_]; exact Ext.drew _
        refine CW.draws (m := 9) (listed := #[false, false, false, false, false, false, false, false, false]) mixed [0, 1, 2, 3, 4, 5, 6, 7, 8] (Ext w27) rfl rfl ?_
        rw [← hw28_]
        refine DL.takeP (listed' := #[true, false, false, false, false, false, false, false, false]) (v := .pointer p0) 0 rfl rfl (by kernel_rfl) rfl trivial rfl (fun w_ K_ h_ => OpW.move (v := .pointer p0) e16 h_) ?_
        obtain ⟨a30, ha31, h⟩ := h
        refine DL.takeP (listed' := #[true, true, false, false, false, false, false, false, false]) (v := .pointer (some a30)) 1 rfl rfl (by kernel_rfl) rfl trivial rfl (fun w_ K_ h_ => OpW.nilCheck (a := a30) (congrArg Value.pointer ha31) h_) ?_
        refine DL.takeP (listed' := #[true, true, true, false, false, false, false, false, false]) (v := .pointer (some (Addr.add a30 0))) 2 rfl rfl (by kernel_rfl) rfl trivial rfl (fun w_ K_ h_ => OpW.fieldAddr (off := 0) field_93_0 rfl h_) ?_
        obtain ⟨x32, h1, h⟩ := h
        refine DL.takeK (listed' := #[true, true, true, true, false, false, false, false, false]) (v := Sl.v x32) 3 rfl rfl (by kernel_rfl) (by kernel_rfl) rfl trivial rfl hx29 (fun w_ hS_ K_ h_ => OpW.load1 (v := Sl.v x32) one_90 rfl (hS_.cell h1) h_) ?_
        refine DL.takeP (listed' := #[true, true, true, true, true, false, false, false, false]) (v := .pointer (some (Addr.add ⟨b26, 0, none⟩ 0))) 4 rfl rfl (by kernel_rfl) rfl trivial rfl (fun w_ K_ h_ => OpW.fieldAddr (off := 0) field_116_0 rfl h_) ?_
        obtain ⟨x33, h1, h⟩ := h
        refine DL.takeK (listed' := #[true, true, true, true, true, true, false, false, false]) (v := .int .i64 x33) 5 rfl rfl (by kernel_rfl) (by kernel_rfl) rfl trivial rfl hx29 (fun w_ hS_ K_ h_ => OpW.load1 (v := .int .i64 x33) one_3 rfl (hS_.cell h1) h_) ?_
        obtain ⟨a34_, a34, h1, h2, h3, h4, h⟩ := h
        refine DL.takeP (listed' := #[true, true, true, true, true, true, true, false, false]) (v := .pointer (some a34)) 6 rfl rfl (by kernel_rfl) rfl trivial rfl (fun w_ K_ h_ => OpW.indexE (a' := a34) slice_90 rfl rfl h1 h2 h3 h4 h_) ?_
        refine DL.takeP (listed' := #[true, true, true, true, true, true, true, true, false]) (v := .pointer (some (Addr.add a34 512))) 7 rfl rfl (by kernel_rfl) rfl trivial rfl (fun w_ K_ h_ => OpW.fieldAddr field_112_1 rfl h_) ?_
        refine DL.takeP (listed' := #[true, true, true, true, true, true, true, true, true]) (v := .pointer (some (Addr.add a34 512))) 8 rfl rfl (by kernel_rfl) rfl trivial rfl (fun w_ K_ h_ => OpW.assign (v := .pointer (some (Addr.add a34 512))) rfl h_) ?_
        refine DL.done (by kernel_rfl) ?_
        refine CW.block ?_
        refine CW.seq ?_
        refine CW.region ?_
        refine RL.opS trivial rfl (OpW.move (v := .int .i64 s12) rfl ?_)
        refine RL.opS trivial rfl (OpW.bin (k := .i64) (a := s12) (b := 64) (v := .bool (decide (s12 < 64))) rfl rfl rfl ?_)
        refine RL.opS trivial rfl (OpW.move (v := .bool (decide (s12 < 64))) rfl ?_)
        refine jn_elim h ?_; clear h; intro k60 hk61 h
        refine RL.joinAt (A := Bool) 7 (fun s39 ρ => ρ 45 = .bool s39 ∧ ρ 0 = .pointer p0 ∧ ρ 3 = .pointer (some ⟨b1, 0, none⟩) ∧ ρ 4 = .int .i64 (IntKind.i64.wrap ((x8.len : Int) - 1)) ∧ ρ 5 = .int .i64 s12 ∧ ρ 6 = .pointer (some ⟨b26, 0, none⟩) ∧ ρ 7 = .pointer (some (Addr.add a34 512)) ∧ ρ 20 = Sl.v x11 ∧ ρ 21 = .int .i64 (x11.len : Int) ∧ ρ 22 = .int .i64 s12) k60 ?_ ?_
        · rintro s39 ρ w40 ⟨e41, e42, e43, e44, e45, e46, e47, e48, e49, e50⟩ h
          subst hk61
          dsimp only [List.drop]
          refine RL.opS trivial rfl (OpW.assign (v := .bool s39) e41 ?_)
          refine RL.nil ?_
          obtain ⟨ha, hc⟩ := h
          refine CW.cond (b := s39) rfl (fun hb51 => ?_) (fun hb51 => ?_)
          · have h := ha hb51; clear ha hc
            refine CW.region ?_
            refine RL.opS trivial rfl (OpW.move (v := .pointer (some (Addr.add a34 512))) e47 ?_)
            refine RL.opS trivial rfl (OpW.fieldAddr field_116_1 e46 ?_)
            obtain ⟨x52, h1, h2, h⟩ := h
            refine RL.opS trivial rfl (OpW.loadA agg_110 rfl h1 h2 ?_)
            refine RL.opS trivial rfl (OpW.nilCheck rfl ?_)
            obtain ⟨g_, o_, e_, cur_, ha_, h1, h2, h3, h4, h⟩ := h
            obtain ⟨w53, hw53_⟩ : ∃ w_, w_ = w40.setRow g_ (cur_.toList.take o_ ++ x52 ++ cur_.toList.drop (o_ + List.length x52)).toArray := ⟨_, rfl⟩
            have h := h w53 hw53_
            refine RL.opN trivial (OpW.storeAE (cs := x52) size_110 rfl rfl ha_ h1 h2 h3 h4 hw53_ ?_)
            refine RL.nil ?_
            exact ⟨(), ⟨e42, e43, e44, e48, e49, e50⟩, h⟩
          · have h := hc hb51; clear ha hc
            refine CW.seq ?_
            refine CW.region ?_
            refine RL.opS trivial rfl (OpW.move (v := .int .i64 s12) e45 ?_)
            refine RL.opS trivial rfl (OpW.move (v := .int .i64 (IntKind.i64.wrap ((x8.len : Int) - 1))) e44 ?_)
            refine RL.opS trivial rfl (OpW.bin (k := .i64) (a := s12) (b := (IntKind.i64.wrap ((x8.len : Int) - 1))) (v := .bool (decide (s12 = (IntKind.i64.wrap ((x8.len : Int) - 1))))) rfl rfl rfl ?_)
            refine RL.opS trivial rfl (OpW.assign (v := .bool (decide (s12 = (IntKind.i64.wrap ((x8.len : Int) - 1))))) rfl ?_)
            refine RL.nil ?_
            obtain ⟨ha, hc⟩ := h
            refine CW.cond (b := (decide (s12 = (IntKind.i64.wrap ((x8.len : Int) - 1))))) rfl (fun hb54 => ?_) (fun hb54 => ?_)
            · have h := ha hb54; clear ha hc
              obtain ⟨w55, hw55_⟩ : ∃ w_, w_ = w40.drew := ⟨_, rfl⟩
              have h := h w55 hw55_
              have hx56 : Ext w40 w55 := by rw [hw55_]; exact Ext.drew _
              refine CW.draws (m := 10) (listed := #[false, false, false, false, false, false, false, false, false, false]) mixed [0, 1, 2, 3, 4, 5, 6, 7, 8] (Ext w40) rfl rfl ?_
              rw [← hw55_]
              refine DL.takeP (listed' := #[true, false, false, false, false, false, false, false, false, false]) (v := .pointer (some (Addr.add a34 512))) 0 rfl rfl (by kernel_rfl) rfl trivial rfl (fun w_ K_ h_ => OpW.move (v := .pointer (some (Addr.add a34 512))) e47 h_) ?_
              refine DL.takeP (listed' := #[true, true, false, false, false, false, false, false, false, false]) (v := .pointer (some (Addr.add a34 512))) 1 rfl rfl (by kernel_rfl) rfl trivial rfl (fun w_ K_ h_ => OpW.nilCheck rfl h_) ?_
              refine DL.takeP (listed' := #[true, true, true, false, false, false, false, false, false, false]) (v := .pointer (some (Addr.add ⟨b1, 0, none⟩ 2))) 2 rfl rfl (by kernel_rfl) rfl trivial rfl (fun w_ K_ h_ => OpW.fieldAddr field_27_2 e43 h_) ?_
              obtain ⟨x57, h1, h⟩ := h
              refine DL.takeK (listed' := #[true, true, true, true, false, false, false, false, false, false]) (v := .int .i64 x57) 3 rfl rfl (by kernel_rfl) (by kernel_rfl) rfl trivial rfl hx56 (fun w_ hS_ K_ h_ => OpW.load1 (v := .int .i64 x57) one_3 rfl (hS_.cell h1) h_) ?_
              refine DL.takeP (listed' := #[true, true, true, true, true, false, false, false, false, false]) (v := .int .i64 (mn x57 512)) 4 rfl rfl (by kernel_rfl) rfl trivial rfl (fun w_ K_ h_ => OpW.min2 (a := x57) (b := 512) rfl rfl h_) ?_
              refine DL.takeP (listed' := #[true, true, true, true, true, true, false, false, false, false]) (v := .int .i64 (mx 0 (mn x57 512))) 5 rfl rfl (by kernel_rfl) rfl trivial rfl (fun w_ K_ h_ => OpW.max2 (a := 0) (b := (mn x57 512)) rfl rfl h_) ?_
              obtain ⟨⟨h1, h2, h3⟩, h⟩ := h
              refine DL.takeP (listed' := #[true, true, true, true, true, true, true, false, false, false]) (v := Sl.v (Sl.cut ⟨some (Addr.add a34 512), 512, 512⟩ 1 0 (mx 0 (mn x57 512)) 512)) 6 rfl rfl (by kernel_rfl) rfl trivial rfl (fun w_ K_ h_ => OpW.sliceArr (l := 0) (h := (mx 0 (mn x57 512))) arr_110 rfl rfl ⟨_, rfl⟩ h1 h2 h3 h_) ?_
              refine DL.takeP (listed' := #[true, true, true, true, true, true, true, true, false, false]) (v := .pointer (some (Addr.add ⟨b26, 0, none⟩ 1))) 7 rfl rfl (by kernel_rfl) rfl trivial rfl (fun w_ K_ h_ => OpW.fieldAddr field_116_1 e46 h_) ?_
              refine DL.takeP (listed' := #[true, true, true, true, true, true, true, true, true, false]) (v := Sl.v (Sl.cut ⟨some (Addr.add ⟨b26, 0, none⟩ 1), 512, 512⟩ 1 0 512 512)) 8 rfl rfl (by kernel_rfl) rfl trivial rfl (fun w_ K_ h_ => OpW.sliceArr (l := 0) (h := 512) arr_110 rfl rfl rfl (by decide) (by decide) (by decide) h_) ?_
              obtain ⟨x58, w59, hr_, h⟩ := h
              refine DL.execS (listed' := #[true, true, true, true, true, true, true, true, true, true]) 9 rfl (by kernel_rfl) rfl trivial rfl (OpW.copyL (v := .int .i64 x58) rfl hr_ ?_)
              refine ⟨(fun h_ => absurd h_ (by decide)), ?_⟩
              refine DL.done (by kernel_rfl) ?_
              exact ⟨(), ⟨e42, e43, e44, e48, e49, e50⟩, h⟩
            · have h := hc hb54; clear ha hc
              refine CW.skip ?_
              exact ⟨(), ⟨e42, e43, e44, e48, e49, e50⟩, h⟩
        · clear hk61
          dsimp only [List.take]
          obtain ⟨ha, hc⟩ := h
          rcases Bool.eq_false_or_eq_true (decide (s12 < 64)) with hb36 | hb36
          · have h := ha hb36; clear ha hc
            refine RL.opS (wanted_of rfl rfl hb36) rfl (OpW.fieldAddr field_27_1 e17 ?_)
            obtain ⟨x38, h1, h⟩ := h
            refine RL.opS (wanted_of rfl rfl hb36) rfl (OpW.load1 (v := .int .u64 x38) one_25 rfl h1 ?_)
            refine RL.opS (wanted_of rfl rfl hb36) rfl (OpW.move (v := .int .i64 s12) rfl ?_)
            obtain ⟨hq_, h⟩ := h
            refine RL.opS (wanted_of rfl rfl hb36) rfl (OpW.shift (a := x38) (b := s12) (v := .int .u64 (shrI .u64 x38 s12)) rfl rfl hq_ rfl ?_)
            refine RL.opS (wanted_of rfl rfl hb36) rfl (OpW.bin (k := .u64) (a := (shrI .u64 x38 s12)) (b := 1) (v := .int .u64 (andI .u64 (shrI .u64 x38 s12) 1)) rfl rfl rfl ?_)
            refine RL.opS (wanted_of rfl rfl hb36) rfl (OpW.bin (k := .u64) (a := (andI .u64 (shrI .u64 x38 s12) 1)) (b := 1) (v := .bool (decide ((andI .u64 (shrI .u64 x38 s12) 1) = 1))) rfl rfl rfl ?_)
            refine RL.opS trivial rfl (OpW.pick (b := true) (v := .bool (decide ((andI .u64 (shrI .u64 x38 s12) 1) = 1))) (congrArg Value.bool hb36) rfl ?_)
            refine RL.nil ?_
            exact ⟨(decide ((andI .u64 (shrI .u64 x38 s12) 1) = 1)), ⟨rfl, e16, e17, e18, rfl, rfl, rfl, e19, e20, e15⟩, h⟩
          · have h := hc hb36; clear ha hc
            refine RL.skipS (notWanted_of rfl rfl hb36) rfl ?_
            refine RL.skipS (notWanted_of rfl rfl hb36) rfl ?_
            refine RL.skipS (notWanted_of rfl rfl hb36) rfl ?_
            refine RL.skipS (notWanted_of rfl rfl hb36) rfl ?_
            refine RL.skipS (notWanted_of rfl rfl hb36) rfl ?_
            refine RL.skipS (notWanted_of rfl rfl hb36) rfl ?_
            refine RL.opS trivial rfl (OpW.pick (b := false) (v := .bool false) (congrArg Value.bool hb36) rfl ?_)
            refine RL.nil ?_
            exact ⟨false, ⟨rfl, e16, e17, e18, rfl, rfl, rfl, e19, e20, e15⟩, h⟩
    · have h := hc hb21; clear ha hc
      refine CW.exit ?_
      refine CW.seq ?_
      refine CW.seq ?_
      refine CW.region ?_
      refine RL.opS trivial rfl (OpW.move (v := .pointer p0) e16 ?_)
      obtain ⟨a72, ha73, h⟩ := h
      refine RL.opS trivial rfl (OpW.nilCheck (a := a72) (congrArg Value.pointer ha73) ?_)
      refine RL.opS trivial rfl (OpW.fieldAddr (off := 0) field_93_0 rfl ?_)
      obtain ⟨x74, h1, h⟩ := h
      refine RL.opS trivial rfl (OpW.load1 (v := Sl.v x74) one_90 rfl h1 ?_)
      refine RL.opS trivial rfl (OpW.len (s := x74) slice_90 rfl ?_)
      refine RL.opS trivial rfl (OpW.move (v := .int .i64 0) rfl ?_)
      refine RL.nil ?_
      refine CW.block ?_
      obtain ⟨I102, mu103, hI, hs⟩ := h
      refine CW.loop (σ := Int) (fun s75 ρ => ρ 70 = .int .i64 s75 ∧ ρ 0 = .pointer p0 ∧ ρ 69 = .int .i64 (x74.len : Int)) I102 mu103 0 ⟨rfl, e16, rfl⟩ hI ?_
      rintro s75 ρ w76 ⟨e78, e79, e80⟩ hI
      have h := hs s75 w76 hI
      clear hs hI
      refine CW.seq ?_
      refine CW.region ?_
      refine RL.opS trivial rfl (OpW.bin (k := .i64) (a := s75) (b := (x74.len : Int)) (v := .bool (decide (s75 < (x74.len : Int)))) e78 e80 rfl ?_)
      refine RL.nil ?_
      refine CW.seq ?_
      obtain ⟨ha, hc⟩ := h
      refine CW.cond (b := (decide (s75 < (x74.len : Int)))) rfl (fun hb81 => ?_) (fun hb81 => ?_)
      · have h := ha hb81; clear ha hc
        refine CW.skip ?_
        refine CW.seq ?_
        refine CW.block ?_
        refine CW.seq ?_
        refine CW.region ?_
        refine RL.opS trivial rfl (OpW.move (v := .int .i64 s75) e78 ?_)
        refine RL.opS trivial rfl (OpW.assign (v := .int .i64 s75) rfl ?_)
        refine RL.nil ?_
        obtain ⟨w82, hw82_⟩ : ∃ w_, w_ = w76.drew := ⟨_, rfl⟩
        have h := h w82 hw82_
        have hx83 : Ext w76 w82 := by rw [hw82_]; exact Ext.drew _
        refine CW.draws (m := 16) (listed := #[false, false, false, false, false, false, false, false, false, false, false, false, false, false, false, false]) mixed [0, 1, 2, 3, 4, 5, 6, 7, 8, 9, 10, 11, 12, 13, 14] (Ext w76) rfl rfl ?_
        rw [← hw82_]
        refine DL.takeP (listed' := #[true, false, false, false, false, false, false, false, false, false, false, false, false, false, false, false]) (v := .pointer p0) 0 rfl rfl (by kernel_rfl) rfl trivial rfl (fun w_ K_ h_ => OpW.move (v := .pointer p0) e79 h_) ?_
        obtain ⟨a84, ha85, h⟩ := h
        refine DL.takeP (listed' := #[true, true, false, false, false, false, false, false, false, false, false, false, false, false, false, false]) (v := .pointer (some a84)) 1 rfl rfl (by kernel_rfl) rfl trivial rfl (fun w_ K_ h_ => OpW.nilCheck (a := a84) (congrArg Value.pointer ha85) h_) ?_
        refine DL.takeP (listed' := #[true, true, true, false, false, false, false, false, false, false, false, false, false, false, false, false]) (v := .pointer (some (Addr.add a84 0))) 2 rfl rfl (by kernel_rfl) rfl trivial rfl (fun w_ K_ h_ => OpW.fieldAddr (off := 0) field_93_0 rfl h_) ?_
        obtain ⟨x86, h1, h⟩ := h
        refine DL.takeK (listed' := #[true, true, true, true, false, false, false, false, false, false, false, false, false, false, false, false]) (v := Sl.v x86) 3 rfl rfl (by kernel_rfl) (by kernel_rfl) rfl trivial rfl hx83 (fun w_ hS_ K_ h_ => OpW.load1 (v := Sl.v x86) one_90 rfl (hS_.cell h1) h_) ?_
        refine DL.takeP (listed' := #[true, true, true, true, true, false, false, false, false, false, false, false, false, false, false, false]) (v := .int .i64 s75) 4 rfl rfl (by kernel_rfl) rfl trivial rfl (fun w_ K_ h_ => OpW.move (v := .int .i64 s75) rfl h_) ?_
        refine DL.takeP (listed' := #[true, true, true, true, true, true, false, false, false, false, false, false, false, false, false, false]) (v := .pointer p0) 5 rfl rfl (by kernel_rfl) rfl trivial rfl (fun w_ K_ h_ => OpW.move (v := .pointer p0) e79 h_) ?_
        obtain ⟨a87, ha88, h⟩ := h
        refine DL.takeP (listed' := #[true, true, true, true, true, true, true, false, false, false, false, false, false, false, false, false]) (v := .pointer (some a87)) 6 rfl rfl (by kernel_rfl) rfl trivial rfl (fun w_ K_ h_ => OpW.nilCheck (a := a87) (congrArg Value.pointer ha88) h_) ?_
        refine DL.takeP (listed' := #[true, true, true, true, true, true, true, true, false, false, false, false, false, false, false, false]) (v := .pointer (some (Addr.add a87 0))) 7 rfl rfl (by kernel_rfl) rfl trivial rfl (fun w_ K_ h_ => OpW.fieldAddr (off := 0) field_93_0 rfl h_) ?_
        obtain ⟨x89, h1, h⟩ := h
        refine DL.takeK (listed' := #[true, true, true, true, true, true, true, true, true, false, false, false, false, false, false, false]) (v := Sl.v x89) 8 rfl rfl (by kernel_rfl) (by kernel_rfl) rfl trivial rfl hx83 (fun w_ hS_ K_ h_ => OpW.load1 (v := Sl.v x89) one_90 rfl (hS_.cell h1) h_) ?_
        refine DL.takeP (listed' := #[true, true, true, true, true, true, true, true, true, true, false, false, false, false, false, false]) (v := .int .i64 s75) 9 rfl rfl (by kernel_rfl) rfl trivial rfl (fun w_ K_ h_ => OpW.move (v := .int .i64 s75) rfl h_) ?_
        obtain ⟨a90_, a90, h1, h2, h3, h4, h⟩ := h
        refine DL.takeP (listed' := #[true, true, true, true, true, true, true, true, true, true, true, false, false, false, false, false]) (v := .pointer (some a90)) 10 rfl rfl (by kernel_rfl) rfl trivial rfl (fun w_ K_ h_ => OpW.indexE (a' := a90) slice_90 rfl rfl h1 h2 h3 h4 h_) ?_
        refine DL.takeP (listed' := #[true, true, true, true, true, true, true, true, true, true, true, true, false, false, false, false]) (v := .pointer (some (Addr.add a90 512))) 11 rfl rfl (by kernel_rfl) rfl trivial rfl (fun w_ K_ h_ => OpW.fieldAddr field_112_1 rfl h_) ?_
        obtain ⟨x92, h1, h2, h⟩ := h
        refine DL.takeK (listed' := #[true, true, true, true, true, true, true, true, true, true, true, true, true, false, false, false]) (v := aggv x92) 12 rfl rfl (by kernel_rfl) (by kernel_rfl) rfl trivial rfl hx83 (fun w_ hS_ K_ h_ => OpW.loadA agg_110 rfl h1 (hS_.at h2) h_) ?_
        obtain ⟨a93_, a93, h1, h2, h3, h4, h⟩ := h
        refine DL.takeP (listed' := #[true, true, true, true, true, true, true, true, true, true, true, true, true, true, false, false]) (v := .pointer (some a93)) 13 rfl rfl (by kernel_rfl) rfl trivial rfl (fun w_ K_ h_ => OpW.indexE (a' := a93) slice_90 rfl rfl h1 h2 h3 h4 h_) ?_
        refine DL.takeP (listed' := #[true, true, true, true, true, true, true, true, true, true, true, true, true, true, true, false]) (v := .pointer (some (Addr.add a93 0))) 14 rfl rfl (by kernel_rfl) rfl trivial rfl (fun w_ K_ h_ => OpW.fieldAddr (off := 0) field_112_0 rfl h_) ?_
        obtain ⟨g_, o_, e_, cur_, ha_, h1, h2, h3, h4, h⟩ := h
        obtain ⟨w95, hw95_⟩ : ∃ w_, w_ = w82.setRow g_ (cur_.toList.take o_ ++ x92 ++ cur_.toList.drop (o_ + List.length x92)).toArray := ⟨_, rfl⟩
        have h := h w95 hw95_
        refine DL.execN (listed' := #[true, true, true, true, true, true, true, true, true, true, true, true, true, true, true, true]) 15 rfl (by kernel_rfl) rfl trivial (OpW.storeAE (cs := x92) size_110 rfl rfl ha_ h1 h2 h3 h4 hw95_ ?_)
        refine ⟨(fun h_ => absurd h_ (by decide)), ?_⟩
        refine DL.done (by kernel_rfl) ?_
        refine CW.region ?_
        refine RL.opS trivial rfl (OpW.bin (k := .i64) (a := s75) (b := 1) (v := .int .i64 (IntKind.i64.wrap (s75 + 1))) e78 rfl rfl ?_)
        refine RL.opS trivial rfl (OpW.move (v := .int .i64 (IntKind.i64.wrap (s75 + 1))) rfl ?_)
        refine RL.nil ?_
        exact ⟨(IntKind.i64.wrap (s75 + 1)), ⟨rfl, e79, e80⟩, h⟩
      · have h := hc hb81; clear ha hc
        refine CW.exit ?_
        refine CW.region ?_
        refine RL.opS trivial rfl (OpW.move (v := .pointer p0) e79 ?_)
        refine RL.opS trivial rfl (OpW.move (v := .pointer p0) e79 ?_)
        obtain ⟨a96, ha97, h⟩ := h
        refine RL.opS trivial rfl (OpW.nilCheck (a := a96) (congrArg Value.pointer ha97) ?_)
        refine RL.opS trivial rfl (OpW.fieldAddr field_93_1 rfl ?_)
        obtain ⟨u_, h1, h2, h⟩ := h
        obtain ⟨w98, hw98_⟩ : ∃ w_, w_ = w76.setCell (Addr.add a96 1) (Sl.v nilSl) := ⟨_, rfl⟩
        have h := h w98 hw98_
        refine RL.opN trivial (OpW.store1E (v := Sl.v nilSl) size_91 rfl rfl rfl h1 h2 hw98_ ?_)
        obtain ⟨a99, ha100, h⟩ := h
        refine RL.opS trivial rfl (OpW.nilCheck (a := a99) (congrArg Value.pointer ha100) ?_)
        refine RL.opS trivial rfl (OpW.fieldAddr field_93_4 rfl ?_)
        obtain ⟨u_, h1, h2, h⟩ := h
        obtain ⟨w101, hw101_⟩ : ∃ w_, w_ = w98.setCell (Addr.add a99 4) (.bool true) := ⟨_, rfl⟩
        have h := h w101 hw101_
        refine RL.opN trivial (OpW.store1E (v := .bool true) size_4 rfl rfl rfl h1 h2 hw101_ ?_)
        refine RL.nil ?_
        exact end_intro (res0 rfl) ⟨(), rfl, h⟩
end Go.Proofs.Ytagkcbbbdlmcjaa
end
