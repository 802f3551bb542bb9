/- Parts of a proof, one behind the other: readings of functions, what they do, and what follows. -/
import Derived.Test.YtagkcbbbdlmcjaaMOP3
set_option linter.unusedVariables false
set_option linter.unusedSimpArgs false
section
/- The typed readings of the functions, and that the program meets each: written by gen.py (a program of this session). -/
namespace Go.Proofs.Ytagkcbbbdlmcjaa
open Go.Lift
set_option maxRecDepth 100000 in
set_option maxHeartbeats 4000000 in
theorem s13_calls (K : Bool → World → Prop)  (w : World) (h : s13 K  w) :
  Calls Try.prog 13 #[] w (Ret r13 K) := by
 unfold s13 at h
 refine calls_of_CW (n := 72) Try.func13 rfl rfl rfl ?_
 refine CW.seq ?_
 refine CW.region ?_
 refine RL.opS trivial rfl (OpW.assign (v := .bool false) rfl ?_)
 refine RL.nil ?_
 refine CW.seq ?_
 refine CW.region ?_
 refine RL.opS trivial rfl (OpW.callR (al := [.int .i64 4]) Try.func15 fb_15 fn_15 rfl h (fun x1 w2 h => ?_))
 refine RL.opS trivial rfl (OpW.move (v := .tuple #[.pointer x1.1, .int .i64 x1.2]) rfl ?_)
 refine RL.opS trivial rfl (OpW.extract (v := .pointer x1.1) rfl rfl ?_)
 refine RL.opS trivial rfl (OpW.extract (v := .int .i64 x1.2) rfl rfl ?_)
 refine RL.opS trivial rfl (OpW.assign (v := .pointer x1.1) rfl ?_)
 refine RL.opS trivial rfl (OpW.assign (v := .int .i64 x1.2) rfl ?_)
 refine RL.nil ?_
 refine CW.seq ?_
 refine CW.region ?_
 refine RL.opS trivial rfl (OpW.move (v := .pointer x1.1) rfl ?_)
 refine RL.opS trivial rfl (OpW.callR (al := [.pointer x1.1, .int .i64 1, .int .i64 3]) Try.func16 fb_16 fn_16 rfl h (fun x3 w4 h => ?_))
 refine RL.opS trivial rfl (OpW.move (v := .tuple #[.pointer x3.1, Sl.v x3.2.1, .int .i64 x3.2.2]) rfl ?_)
 refine RL.opS trivial rfl (OpW.extract (v := .pointer x3.1) rfl rfl ?_)
 refine RL.opS trivial rfl (OpW.extract (v := Sl.v x3.2.1) rfl rfl ?_)
 refine RL.opS trivial rfl (OpW.extract (v := .int .i64 x3.2.2) rfl rfl ?_)
 refine RL.opS trivial rfl (OpW.assign (v := .pointer x3.1) rfl ?_)
 refine RL.opS trivial rfl (OpW.assign (v := Sl.v x3.2.1) rfl ?_)
 refine RL.opS trivial rfl (OpW.assign (v := .int .i64 x3.2.2) rfl ?_)
 refine RL.nil ?_
 refine CW.seq ?_
 refine CW.seq ?_
 refine CW.region ?_
 refine RL.opS trivial rfl (OpW.move (v := .pointer x3.1) rfl ?_)
 refine RL.opS trivial rfl (OpW.ptrNil (b := x3.1.isNone) (p := x3.1) ptr_35 rfl rfl rfl ?_)
 refine RL.opS trivial rfl (OpW.move (v := .bool (x3.1.isNone)) rfl ?_)
 refine jn_elim h ?_; clear h; intro k93 hk94 h
 refine RL.joinAt (A := Bool) 4 (fun s7 ρ => ρ 22 = .bool s7 ∧ ρ 1 = .pointer x1.1 ∧ ρ 3 = .pointer x3.1 ∧ ρ 5 = .int .i64 x3.2.2) k93 ?_ ?_
 ·rintro s7 ρ w8 ⟨e9, e10, e11, e12⟩ h
  subst hk94
  dsimp only [List.drop]
  refine RL.opS trivial rfl (OpW.move (v := .bool s7) e9 ?_)
  refine jn_elim h ?_; clear h; intro k91 hk92 h
  refine RL.joinAt (A := Bool) 3 (fun s15 ρ => ρ 26 = .bool s15 ∧ ρ 1 = .pointer x1.1 ∧ ρ 3 = .pointer x3.1) k91 ?_ ?_
  ·rintro s15 ρ w16 ⟨e17, e18, e19⟩ h
   subst hk92
   dsimp only [List.drop]
   refine RL.opS trivial rfl (OpW.move (v := .bool s15) e17 ?_)
   refine jn_elim h ?_; clear h; intro k89 hk90 h
   refine RL.joinAt (A := Bool) 7 (fun s29 ρ => ρ 34 = .bool s29 ∧ ρ 1 = .pointer x1.1 ∧ ρ 3 = .pointer x3.1) k89 ?_ ?_
   ·rintro s29 ρ w30 ⟨e31, e32, e33⟩ h
    subst hk90
    dsimp only [List.drop]
    refine RL.nil ?_
    obtain ⟨ha, hc⟩ := h
    refine CW.cond (b := s29) e31 (fun hb34 => ?_) (fun hb34 => ?_)
    ·have h := ha hb34; clear ha hc
     refine CW.seq ?_
     refine CW.region ?_
     refine RL.opS trivial rfl (OpW.assign (v := .bool false) rfl ?_)
     refine RL.nil ?_
     refine CW.ret ?_
     exact ret_intro (res1 rfl rfl) ⟨false, rfl, h⟩
    ·have h := hc hb34; clear ha hc
     refine CW.skip ?_
     refine CW.seq ?_
     refine CW.region ?_
     refine RL.opS trivial rfl (OpW.move (v := .pointer x1.1) e32 ?_)
     refine RL.opS trivial rfl (OpW.callR (al := [.pointer x1.1, .int .i64 1, .int .i64 3]) Try.func16 fb_16 fn_16 rfl h (fun x35 w36 h => ?_))
     refine RL.opS trivial rfl (OpW.move (v := .tuple #[.pointer x35.1, Sl.v x35.2.1, .int .i64 x35.2.2]) rfl ?_)
     refine RL.opS trivial rfl (OpW.extract (v := .pointer x35.1) rfl rfl ?_)
     refine RL.opS trivial rfl (OpW.extract (v := Sl.v x35.2.1) rfl rfl ?_)
     refine RL.opS trivial rfl (OpW.extract (v := .int .i64 x35.2.2) rfl rfl ?_)
     refine RL.opS trivial rfl (OpW.assign (v := Sl.v x35.2.1) rfl ?_)
     refine RL.opS trivial rfl (OpW.assign (v := .int .i64 x35.2.2) rfl ?_)
     refine RL.nil ?_
     refine CW.seq ?_
     refine CW.region ?_
     refine RL.opS trivial rfl (OpW.move (v := .int .i64 x35.2.2) rfl ?_)
     refine RL.opS trivial rfl (OpW.bin (k := .i64) (a := x35.2.2) (b := 0) (v := .bool (decide (x35.2.2 = 0))) rfl rfl rfl ?_)
     refine RL.opS trivial rfl (OpW.move (v := .bool (decide (x35.2.2 = 0))) rfl ?_)
     refine jn_elim h ?_; clear h; intro k87 hk88 h
     refine RL.joinAt (A := Bool) 4 (fun s39 ρ => ρ 47 = .bool s39 ∧ ρ 3 = .pointer x3.1 ∧ ρ 4 = Sl.v x35.2.1) k87 ?_ ?_
     ·rintro s39 ρ w40 ⟨e41, e42, e43⟩ h
      subst hk88
      dsimp only [List.drop]
      refine RL.opS trivial rfl (OpW.move (v := .bool s39) e41 ?_)
      refine jn_elim h ?_; clear h; intro k85 hk86 h
      refine RL.joinAt (A := Bool) 6 (fun s50 ρ => ρ 54 = .bool s50 ∧ ρ 3 = .pointer x3.1 ∧ ρ 4 = Sl.v x35.2.1) k85 ?_ ?_
      ·rintro s50 ρ w51 ⟨e52, e53, e54⟩ h
       subst hk86
       dsimp only [List.drop]
       refine RL.opS trivial rfl (OpW.move (v := .bool s50) e52 ?_)
       refine jn_elim h ?_; clear h; intro k83 hk84 h
       refine RL.joinAt (A := Bool) 6 (fun s60 ρ => ρ 61 = .bool s60 ∧ ρ 3 = .pointer x3.1) k83 ?_ ?_
       ·rintro s60 ρ w61 ⟨e62, e63⟩ h
        subst hk84
        dsimp only [List.drop]
        refine RL.opS trivial rfl (OpW.move (v := .bool s60) e62 ?_)
        refine jn_elim h ?_; clear h; intro k81 hk82 h
        refine RL.joinAt (A := Bool) 4 (fun s68 ρ => ρ 66 = .bool s68 ∧ ρ 3 = .pointer x3.1) k81 ?_ ?_
        ·rintro s68 ρ w69 ⟨e70, e71⟩ h
         subst hk82
         dsimp only [List.drop]
         refine RL.opS trivial rfl (OpW.move (v := .bool s68) e70 ?_)
         refine jn_elim h ?_; clear h; intro k79 hk80 h
         refine RL.joinAt (A := Bool) 4 (fun s76 ρ => ρ 71 = .bool s76) k79 ?_ ?_
         ·rintro s76 ρ w77 e78 h
          subst hk80
          dsimp only [List.drop]
          refine RL.opS trivial rfl (OpW.assign (v := .bool s76) e78 ?_)
          refine RL.nil ?_
          refine CW.ret ?_
          exact ret_intro (res1 rfl rfl) ⟨s76, rfl, h⟩
         ·clear hk80
          dsimp only [List.take]
          obtain ⟨ha, hc⟩ := h
          rcases Bool.eq_false_or_eq_true s68 with hb72 | hb72
          ·have h := ha hb72; clear ha hc
           refine RL.opS (wanted_of rfl rfl hb72) rfl (OpW.move (v := .pointer x3.1) e71 ?_)
           refine RL.opS (wanted_of rfl rfl hb72) rfl (OpW.callR (al := [.pointer x3.1]) Try.func22 fb_22 fn_22 rfl h (fun x74 w75 h => ?_))
           refine RL.opS (wanted_of rfl rfl hb72) rfl (OpW.bin (k := .i64) (a := x74) (b := 2) (v := .bool (decide (x74 = 2))) rfl rfl rfl ?_)
           refine RL.opS trivial rfl (OpW.pick (b := true) (v := .bool (decide (x74 = 2))) (congrArg Value.bool hb72) rfl ?_)
           refine RL.nil ?_
           exact ⟨(decide (x74 = 2)), rfl, h⟩
          ·have h := hc hb72; clear ha hc
           refine RL.skipS (notWanted_of rfl rfl hb72) rfl ?_
           refine RL.skipS (notWanted_of rfl rfl hb72) rfl ?_
           refine RL.skipS (notWanted_of rfl rfl hb72) rfl ?_
           refine RL.opS trivial rfl (OpW.pick (b := false) (v := .bool false) (congrArg Value.bool hb72) rfl ?_)
           refine RL.nil ?_
           exact ⟨false, rfl, h⟩
        ·clear hk82
         dsimp only [List.take]
         obtain ⟨ha, hc⟩ := h
         rcases Bool.eq_false_or_eq_true s60 with hb64 | hb64
         ·have h := ha hb64; clear ha hc
          refine RL.opS (wanted_of rfl rfl hb64) rfl (OpW.move (v := .pointer x3.1) e63 ?_)
          refine RL.opS (wanted_of rfl rfl hb64) rfl (OpW.callR (al := [.pointer x3.1]) Try.func17 fb_17 fn_17 rfl h (fun x66 w67 h => ?_))
          refine RL.opS (wanted_of rfl rfl hb64) rfl (OpW.bin (k := .i64) (a := x66) (b := 500) (v := .bool (decide (x66 = 500))) rfl rfl rfl ?_)
          refine RL.opS trivial rfl (OpW.pick (b := true) (v := .bool (decide (x66 = 500))) (congrArg Value.bool hb64) rfl ?_)
          refine RL.nil ?_
          exact ⟨(decide (x66 = 500)), ⟨rfl, e63⟩, h⟩
         ·have h := hc hb64; clear ha hc
          refine RL.skipS (notWanted_of rfl rfl hb64) rfl ?_
          refine RL.skipS (notWanted_of rfl rfl hb64) rfl ?_
          refine RL.skipS (notWanted_of rfl rfl hb64) rfl ?_
          refine RL.opS trivial rfl (OpW.pick (b := false) (v := .bool false) (congrArg Value.bool hb64) rfl ?_)
          refine RL.nil ?_
          exact ⟨false, ⟨rfl, e63⟩, h⟩
       ·clear hk84
        dsimp only [List.take]
        obtain ⟨ha, hc⟩ := h
        rcases Bool.eq_false_or_eq_true s50 with hb55 | hb55
        ·have h := ha hb55; clear ha hc
         refine RL.opS (wanted_of rfl rfl hb55) rfl (OpW.move (v := Sl.v x35.2.1) e54 ?_)
         obtain ⟨a57_, a57, h1, h2, h3, h4, h⟩ := h
         refine RL.opS (wanted_of rfl rfl hb55) rfl (OpW.indexE (a' := a57) slice_22 rfl rfl h1 h2 h3 h4 ?_)
         obtain ⟨x59, h1, h⟩ := h
         refine RL.opS (wanted_of rfl rfl hb55) rfl (OpW.load1 (v := Sl.v x59) one_39 rfl h1 ?_)
         refine RL.opS (wanted_of rfl rfl hb55) rfl (OpW.len (s := x59) slice_39 rfl ?_)
         refine RL.opS (wanted_of rfl rfl hb55) rfl (OpW.bin (k := .i64) (a := (x59.len : Int)) (b := 0) (v := .bool (decide ((x59.len : Int) = 0))) rfl rfl rfl ?_)
         refine RL.opS trivial rfl (OpW.pick (b := true) (v := .bool (decide ((x59.len : Int) = 0))) (congrArg Value.bool hb55) rfl ?_)
         refine RL.nil ?_
         exact ⟨(decide ((x59.len : Int) = 0)), ⟨rfl, e53⟩, h⟩
        ·have h := hc hb55; clear ha hc
         refine RL.skipS (notWanted_of rfl rfl hb55) rfl ?_
         refine RL.skipS (notWanted_of rfl rfl hb55) rfl ?_
         refine RL.skipS (notWanted_of rfl rfl hb55) rfl ?_
         refine RL.skipS (notWanted_of rfl rfl hb55) rfl ?_
         refine RL.skipS (notWanted_of rfl rfl hb55) rfl ?_
         refine RL.opS trivial rfl (OpW.pick (b := false) (v := .bool false) (congrArg Value.bool hb55) rfl ?_)
         refine RL.nil ?_
         exact ⟨false, ⟨rfl, e53⟩, h⟩
      ·clear hk86
       dsimp only [List.take]
       obtain ⟨ha, hc⟩ := h
       rcases Bool.eq_false_or_eq_true s39 with hb44 | hb44
       ·have h := ha hb44; clear ha hc
        refine RL.opS (wanted_of rfl rfl hb44) rfl (OpW.move (v := Sl.v x35.2.1) e43 ?_)
        obtain ⟨a46_, a46, h1, h2, h3, h4, h⟩ := h
        refine RL.opS (wanted_of rfl rfl hb44) rfl (OpW.indexE (a' := a46) slice_22 rfl rfl h1 h2 h3 h4 ?_)
        obtain ⟨x48, h1, h⟩ := h
        refine RL.opS (wanted_of rfl rfl hb44) rfl (OpW.load1 (v := Sl.v x48) one_39 rfl h1 ?_)
        obtain ⟨x49, h1, h2, h⟩ := h
        refine RL.opS (wanted_of rfl rfl hb44) rfl (OpW.b2s bsl_39 str_9 rfl h1 h2 ?_)
        refine RL.opS (wanted_of rfl rfl hb44) rfl (OpW.strCmp (b := decide (x49 = [97, 98])) rfl rfl rfl ?_)
        refine RL.opS trivial rfl (OpW.pick (b := true) (v := .bool (decide (x49 = [97, 98]))) (congrArg Value.bool hb44) rfl ?_)
        refine RL.nil ?_
        exact ⟨(decide (x49 = [97, 98])), ⟨rfl, e42, e43⟩, h⟩
       ·have h := hc hb44; clear ha hc
        refine RL.skipS (notWanted_of rfl rfl hb44) rfl ?_
        refine RL.skipS (notWanted_of rfl rfl hb44) rfl ?_
        refine RL.skipS (notWanted_of rfl rfl hb44) rfl ?_
        refine RL.skipS (notWanted_of rfl rfl hb44) rfl ?_
        refine RL.skipS (notWanted_of rfl rfl hb44) rfl ?_
        refine RL.opS trivial rfl (OpW.pick (b := false) (v := .bool false) (congrArg Value.bool hb44) rfl ?_)
        refine RL.nil ?_
        exact ⟨false, ⟨rfl, e42, e43⟩, h⟩
     ·clear hk88
      dsimp only [List.take]
      obtain ⟨ha, hc⟩ := h
      rcases Bool.eq_false_or_eq_true (decide (x35.2.2 = 0)) with hb37 | hb37
      ·have h := ha hb37; clear ha hc
       refine RL.opS (wanted_of rfl rfl hb37) rfl (OpW.move (v := Sl.v x35.2.1) rfl ?_)
       refine RL.opS (wanted_of rfl rfl hb37) rfl (OpW.len (s := x35.2.1) slice_22 rfl ?_)
       refine RL.opS (wanted_of rfl rfl hb37) rfl (OpW.bin (k := .i64) (a := (x35.2.1.len : Int)) (b := 2) (v := .bool (decide ((x35.2.1.len : Int) = 2))) rfl rfl rfl ?_)
       refine RL.opS trivial rfl (OpW.pick (b := true) (v := .bool (decide ((x35.2.1.len : Int) = 2))) (congrArg Value.bool hb37) rfl ?_)
       refine RL.nil ?_
       exact ⟨(decide ((x35.2.1.len : Int) = 2)), ⟨rfl, e33, rfl⟩, h⟩
      ·have h := hc hb37; clear ha hc
       refine RL.skipS (notWanted_of rfl rfl hb37) rfl ?_
       refine RL.skipS (notWanted_of rfl rfl hb37) rfl ?_
       refine RL.skipS (notWanted_of rfl rfl hb37) rfl ?_
       refine RL.opS trivial rfl (OpW.pick (b := false) (v := .bool false) (congrArg Value.bool hb37) rfl ?_)
       refine RL.nil ?_
       exact ⟨false, ⟨rfl, e33, rfl⟩, h⟩
   ·clear hk90
    dsimp only [List.take]
    obtain ⟨ha, hc⟩ := h
    rcases Bool.eq_false_or_eq_true s15 with hb20 | hb20
    ·have h := ha hb20; clear ha hc
     refine RL.skipS (notWanted_of rfl rfl hb20) rfl ?_
     refine RL.skipS (notWanted_of rfl rfl hb20) rfl ?_
     refine RL.skipS (notWanted_of rfl rfl hb20) rfl ?_
     refine RL.skipS (notWanted_of rfl rfl hb20) rfl ?_
     refine RL.skipS (notWanted_of rfl rfl hb20) rfl ?_
     refine RL.skipS (notWanted_of rfl rfl hb20) rfl ?_
     refine RL.opS trivial rfl (OpW.pick (b := true) (v := .bool true) (congrArg Value.bool hb20) rfl ?_)
     refine RL.nil ?_
     exact ⟨true, ⟨rfl, e18, e19⟩, h⟩
    ·have h := hc hb20; clear ha hc
     refine RL.opS (wanted_of rfl rfl hb20) rfl (OpW.move (v := .pointer x3.1) e19 ?_)
     obtain ⟨b22, hb22_⟩ : ∃ b_, b_ = w16.heap.size := ⟨_, rfl⟩
     obtain ⟨w23, hw23_⟩ : ∃ w_, w_ = w16.alloc (.cells (List.toArray [.int .u8 97, .int .u8 98]) 5) := ⟨_, rfl⟩
     have h := h b22 w23 hb22_ hw23_
     refine RL.opS (wanted_of rfl rfl hb20) rfl (OpW.buildSliceE (vs := [(0, .int .u8 97), (1, .int .u8 98)]) (cs := [.int .u8 97, .int .u8 98]) (by rfl) (by kernel_rfl) hb22_ hw23_ ?_)
     obtain ⟨b_, o_, c_, e_, fr_, h1, h2, h⟩ := h
     obtain ⟨w24, hw24_⟩ : ∃ w_, w_ = w23.freeze ⟨b_, c_.size, none⟩ 1 := ⟨_, rfl⟩
     have h := h w24 hw24_
     refine RL.opS (wanted_of rfl rfl hb20) rfl (OpW.markE bsl_39 rfl h1 h2 hw24_ ?_)
     obtain ⟨b25, hb25_⟩ : ∃ b_, b_ = w24.heap.size := ⟨_, rfl⟩
     obtain ⟨w26, hw26_⟩ : ∃ w_, w_ = w24.alloc (.cells (List.toArray [Sl.v ⟨some ⟨b22, 0, none⟩, 2, 2⟩, Sl.v nilSl]) 39) := ⟨_, rfl⟩
     have h := h b25 w26 hb25_ hw26_
     refine RL.opS (wanted_of rfl rfl hb20) rfl (OpW.buildSliceE (vs := [(0, Sl.v ⟨some ⟨b22, 0, none⟩, 2, 2⟩), (1, Sl.v nilSl)]) (cs := [Sl.v ⟨some ⟨b22, 0, none⟩, 2, 2⟩, Sl.v nilSl]) (by rfl) (by kernel_rfl) hb25_ hw26_ ?_)
     refine RL.opS (wanted_of rfl rfl hb20) rfl (OpW.callR (al := [.pointer x3.1, Sl.v ⟨some ⟨b25, 0, none⟩, 2, 2⟩]) Try.func20 fb_20 fn_20 rfl h (fun x27 w28 h => ?_))
     refine RL.opS (wanted_of rfl rfl hb20) rfl (OpW.bin (k := .i64) (a := x27) (b := 0) (v := .bool (!decide (x27 = 0))) rfl rfl rfl ?_)
     refine RL.opS trivial rfl (OpW.pick (b := false) (v := .bool (!decide (x27 = 0))) (congrArg Value.bool hb20) rfl ?_)
     refine RL.nil ?_
     exact ⟨(!decide (x27 = 0)), ⟨rfl, e18, e19⟩, h⟩
  ·clear hk92
   dsimp only [List.take]
   obtain ⟨ha, hc⟩ := h
   rcases Bool.eq_false_or_eq_true s7 with hb13 | hb13
   ·have h := ha hb13; clear ha hc
    refine RL.skipS (notWanted_of rfl rfl hb13) rfl ?_
    refine RL.skipS (notWanted_of rfl rfl hb13) rfl ?_
    refine RL.opS trivial rfl (OpW.pick (b := true) (v := .bool true) (congrArg Value.bool hb13) rfl ?_)
    refine RL.nil ?_
    exact ⟨true, ⟨rfl, e10, e11⟩, h⟩
   ·have h := hc hb13; clear ha hc
    refine RL.opS (wanted_of rfl rfl hb13) rfl (OpW.move (v := .int .i64 x3.2.2) e12 ?_)
    refine RL.opS (wanted_of rfl rfl hb13) rfl (OpW.bin (k := .i64) (a := x3.2.2) (b := 0) (v := .bool (!decide (x3.2.2 = 0))) rfl rfl rfl ?_)
    refine RL.opS trivial rfl (OpW.pick (b := false) (v := .bool (!decide (x3.2.2 = 0))) (congrArg Value.bool hb13) rfl ?_)
    refine RL.nil ?_
    exact ⟨(!decide (x3.2.2 = 0)), ⟨rfl, e10, e11⟩, h⟩
 ·clear hk94
  dsimp only [List.take]
  obtain ⟨ha, hc⟩ := h
  rcases Bool.eq_false_or_eq_true (x3.1.isNone) with hb5 | hb5
  ·have h := ha hb5; clear ha hc
   refine RL.skipS (notWanted_of rfl rfl hb5) rfl ?_
   refine RL.skipS (notWanted_of rfl rfl hb5) rfl ?_
   refine RL.skipS (notWanted_of rfl rfl hb5) rfl ?_
   refine RL.opS trivial rfl (OpW.pick (b := true) (v := .bool true) (congrArg Value.bool hb5) rfl ?_)
   refine RL.nil ?_
   exact ⟨true, ⟨rfl, rfl, rfl, rfl⟩, h⟩
  ·have h := hc hb5; clear ha hc
   refine RL.opS (wanted_of rfl rfl hb5) rfl (OpW.move (v := Sl.v x3.2.1) rfl ?_)
   refine RL.opS (wanted_of rfl rfl hb5) rfl (OpW.len (s := x3.2.1) slice_22 rfl ?_)
   refine RL.opS (wanted_of rfl rfl hb5) rfl (OpW.bin (k := .i64) (a := (x3.2.1.len : Int)) (b := 0) (v := .bool (!decide ((x3.2.1.len : Int) = 0))) rfl rfl rfl ?_)
   refine RL.opS trivial rfl (OpW.pick (b := false) (v := .bool (!decide ((x3.2.1.len : Int) = 0))) (congrArg Value.bool hb5) rfl ?_)
   refine RL.nil ?_
   exact ⟨(!decide ((x3.2.1.len : Int) = 0)), ⟨rfl, rfl, rfl, rfl⟩, h⟩
end Go.Proofs.Ytagkcbbbdlmcjaa
end
section
/- The typed readings of the functions, and that the program meets each: written by gen.py (a program of this session). -/
namespace Go.Proofs.Ytagkcbbbdlmcjaa
open Go.Lift
set_option maxRecDepth 100000 in
set_option maxHeartbeats 4000000 in
theorem s14_calls (K : Bool → World → Prop) (p0 : Int) (p1 : Sl) (w : World) (h : s14 K p0 p1 w) :
  Calls Try.prog 14 #[.int .i64 p0, Sl.v p1] w (Ret r14 K) := by
 unfold s14 at h
 refine calls_of_CW (n := 42) Try.func14 rfl rfl rfl ?_
 refine CW.seq ?_
 refine CW.region ?_
 refine RL.opS trivial rfl (OpW.assign (v := .bool false) rfl ?_)
 refine RL.nil ?_
 refine CW.seq ?_
 refine CW.seq ?_
 refine CW.region ?_
 refine RL.opS trivial rfl (OpW.move (v := .int .i64 p0) rfl ?_)
 refine RL.opS trivial rfl (OpW.bin (k := .i64) (a := p0) (b := 3) (v := .bool (decide (p0 < 3))) rfl rfl rfl ?_)
 refine RL.opS trivial rfl (OpW.move (v := .bool (decide (p0 < 3))) rfl ?_)
 refine jn_elim h ?_; clear h; intro k49 hk50 h
 refine RL.joinAt (A := Bool) 3 (fun s3 ρ => ρ 14 = .bool s3 ∧ ρ 1 = Sl.v p1) k49 ?_ ?_
 ·rintro s3 ρ w4 ⟨e5, e6⟩ h
  subst hk50
  dsimp only [List.drop]
  refine RL.opS trivial rfl (OpW.move (v := .bool s3) e5 ?_)
  refine jn_elim h ?_; clear h; intro k47 hk48 h
  refine RL.joinAt (A := Bool) 4 (fun s9 ρ => ρ 19 = .bool s9 ∧ ρ 1 = Sl.v p1) k47 ?_ ?_
  ·rintro s9 ρ w10 ⟨e11, e12⟩ h
   subst hk48
   dsimp only [List.drop]
   refine RL.nil ?_
   obtain ⟨ha, hc⟩ := h
   refine CW.cond (b := s9) e11 (fun hb13 => ?_) (fun hb13 => ?_)
   ·have h := ha hb13; clear ha hc
    refine CW.seq ?_
    refine CW.region ?_
    refine RL.opS trivial rfl (OpW.assign (v := .bool false) rfl ?_)
    refine RL.nil ?_
    refine CW.ret ?_
    exact ret_intro (res1 rfl rfl) ⟨false, rfl, h⟩
   ·have h := hc hb13; clear ha hc
    refine CW.skip ?_
    refine CW.seq ?_
    refine CW.seq ?_
    refine CW.region ?_
    refine RL.opS trivial rfl (OpW.move (v := Sl.v p1) e12 ?_)
    refine RL.opS trivial rfl (OpW.len (s := p1) slice_30 rfl ?_)
    refine RL.opS trivial rfl (OpW.move (v := .int .i64 0) rfl ?_)
    refine RL.nil ?_
    refine CW.block ?_
    obtain ⟨I45, mu46, hI, hs⟩ := h
    refine CW.loop (σ := Int) (fun s14 ρ => ρ 22 = .int .i64 s14 ∧ ρ 20 = Sl.v p1 ∧ ρ 21 = .int .i64 (p1.len : Int)) I45 mu46 0 ⟨rfl, rfl, rfl⟩ hI ?_
    rintro s14 ρ w15 ⟨e17, e18, e19⟩ hI
    have h := hs s14 w15 hI
    clear hs hI
    refine CW.seq ?_
    refine CW.region ?_
    refine RL.opS trivial rfl (OpW.bin (k := .i64) (a := s14) (b := (p1.len : Int)) (v := .bool (decide (s14 < (p1.len : Int)))) e17 e19 rfl ?_)
    refine RL.nil ?_
    refine CW.seq ?_
    obtain ⟨ha, hc⟩ := h
    refine CW.cond (b := (decide (s14 < (p1.len : Int)))) rfl (fun hb20 => ?_) (fun hb20 => ?_)
    ·have h := ha hb20; clear ha hc
     refine CW.skip ?_
     refine CW.seq ?_
     refine CW.block ?_
     refine CW.seq ?_
     refine CW.region ?_
     obtain ⟨a21_, a21, h1, h2, h3, h4, h⟩ := h
     refine RL.opS trivial rfl (OpW.indexE (a' := a21) slice_30 e18 e17 h1 h2 h3 h4 ?_)
     obtain ⟨x23, h1, h2, h⟩ := h
     refine RL.opS trivial rfl (OpW.loadA agg_29 rfl h1 h2 ?_)
     obtain ⟨hl_b24, ho_b24, h⟩ := h
     obtain ⟨b24, hb24_⟩ : ∃ b_, b_ = w15.heap.size := ⟨_, rfl⟩
     obtain ⟨w25, hw25_⟩ : ∃ w_, w_ = w15.alloc (.cells (List.toArray x23) 29) := ⟨_, rfl⟩
     have h := h b24 w25 hb24_ hw25_
     refine RL.opS trivial rfl (OpW.allocZ (b := b24) zero_29 hb24_ ?_)
     refine RL.opN trivial (OpW.storeF (zs := [Value.int .i64 0, Value.slice none 0 0, Value.int .i64 0, Value.int .u64 0, Value.int .i64 0]) (cs := x23) size_29 rfl rfl hl_b24 (by decide) ho_b24 hb24_ hw25_ ?_)
     refine RL.nil ?_
     refine CW.seq ?_
     refine CW.seq ?_
     refine CW.region ?_
     refine RL.opS trivial rfl (OpW.fieldAddr field_29_1 rfl ?_)
     obtain ⟨x26, h1, h⟩ := h
     refine RL.opS trivial rfl (OpW.load1 (v := Sl.v x26) one_22 rfl h1 ?_)
     refine RL.opS trivial rfl (OpW.len (s := x26) slice_22 rfl ?_)
     refine RL.opS trivial rfl (OpW.bin (k := .i64) (a := (x26.len : Int)) (b := 6) (v := .bool (decide (6 < (x26.len : Int)))) rfl rfl rfl ?_)
     refine RL.nil ?_
     obtain ⟨ha, hc⟩ := h
     refine CW.cond (b := (decide (6 < (x26.len : Int)))) rfl (fun hb27 => ?_) (fun hb27 => ?_)
     ·have h := ha hb27; clear ha hc
      refine CW.seq ?_
      refine CW.region ?_
      refine RL.opS trivial rfl (OpW.assign (v := .bool false) rfl ?_)
      refine RL.nil ?_
      refine CW.ret ?_
      exact ret_intro (res1 rfl rfl) ⟨false, rfl, h⟩
     ·have h := hc hb27; clear ha hc
      refine CW.skip ?_
      refine CW.seq ?_
      refine CW.region ?_
      refine RL.opS trivial rfl (OpW.fieldAddr field_29_1 rfl ?_)
      obtain ⟨x28, h1, h⟩ := h
      refine RL.opS trivial rfl (OpW.load1 (v := Sl.v x28) one_22 rfl h1 ?_)
      refine RL.opS trivial rfl (OpW.len (s := x28) slice_22 rfl ?_)
      refine RL.opS trivial rfl (OpW.move (v := .int .i64 0) rfl ?_)
      refine RL.nil ?_
      refine CW.block ?_
      obtain ⟨I43, mu44, hI, hs⟩ := h
      refine CW.loop (σ := Int) (fun s29 ρ => ρ 33 = .int .i64 s29 ∧ ρ 20 = Sl.v p1 ∧ ρ 21 = .int .i64 (p1.len : Int) ∧ ρ 22 = .int .i64 s14 ∧ ρ 31 = Sl.v x28 ∧ ρ 32 = .int .i64 (x28.len : Int)) I43 mu44 0 ⟨rfl, e18, e19, e17, rfl, rfl⟩ hI ?_
      rintro s29 ρ w30 ⟨e32, e33, e34, e35, e36, e37⟩ hI
      have h := hs s29 w30 hI
      clear hs hI
      refine CW.seq ?_
      refine CW.region ?_
      refine RL.opS trivial rfl (OpW.bin (k := .i64) (a := s29) (b := (x28.len : Int)) (v := .bool (decide (s29 < (x28.len : Int)))) e32 e37 rfl ?_)
      refine RL.nil ?_
      refine CW.seq ?_
      obtain ⟨ha, hc⟩ := h
      refine CW.cond (b := (decide (s29 < (x28.len : Int)))) rfl (fun hb38 => ?_) (fun hb38 => ?_)
      ·have h := ha hb38; clear ha hc
       refine CW.skip ?_
       refine CW.seq ?_
       refine CW.block ?_
       refine CW.seq ?_
       refine CW.region ?_
       obtain ⟨a39_, a39, h1, h2, h3, h4, h⟩ := h
       refine RL.opS trivial rfl (OpW.indexE (a' := a39) slice_22 e36 e32 h1 h2 h3 h4 ?_)
       obtain ⟨x41, h1, h⟩ := h
       refine RL.opS trivial rfl (OpW.load1 (v := Sl.v x41) one_39 rfl h1 ?_)
       refine RL.opS trivial rfl (OpW.assign (v := Sl.v x41) rfl ?_)
       refine RL.nil ?_
       refine CW.seq ?_
       refine CW.region ?_
       refine RL.opS trivial rfl (OpW.move (v := Sl.v x41) rfl ?_)
       refine RL.opS trivial rfl (OpW.len (s := x41) slice_39 rfl ?_)
       refine RL.opS trivial rfl (OpW.bin (k := .i64) (a := (x41.len : Int)) (b := 3000) (v := .bool (decide (3000 < (x41.len : Int)))) rfl rfl rfl ?_)
       refine RL.nil ?_
       obtain ⟨ha, hc⟩ := h
       refine CW.cond (b := (decide (3000 < (x41.len : Int)))) rfl (fun hb42 => ?_) (fun hb42 => ?_)
       ·have h := ha hb42; clear ha hc
        refine CW.seq ?_
        refine CW.region ?_
        refine RL.opS trivial rfl (OpW.assign (v := .bool false) rfl ?_)
        refine RL.nil ?_
        refine CW.ret ?_
        exact ret_intro (res1 rfl rfl) ⟨false, rfl, h⟩
       ·have h := hc hb42; clear ha hc
        refine CW.skip ?_
        refine CW.region ?_
        refine RL.opS trivial rfl (OpW.bin (k := .i64) (a := s29) (b := 1) (v := .int .i64 (IntKind.i64.wrap (s29 + 1))) e32 rfl rfl ?_)
        refine RL.opS trivial rfl (OpW.move (v := .int .i64 (IntKind.i64.wrap (s29 + 1))) rfl ?_)
        refine RL.nil ?_
        exact ⟨(IntKind.i64.wrap (s29 + 1)), ⟨rfl, e33, e34, e35, e36, e37⟩, h⟩
      ·have h := hc hb38; clear ha hc
       refine CW.exit ?_
       refine CW.region ?_
       refine RL.opS trivial rfl (OpW.bin (k := .i64) (a := s14) (b := 1) (v := .int .i64 (IntKind.i64.wrap (s14 + 1))) e35 rfl rfl ?_)
       refine RL.opS trivial rfl (OpW.move (v := .int .i64 (IntKind.i64.wrap (s14 + 1))) rfl ?_)
       refine RL.nil ?_
       exact ⟨(IntKind.i64.wrap (s14 + 1)), ⟨rfl, e33, e34⟩, h⟩
    ·have h := hc hb20; clear ha hc
     refine CW.exit ?_
     refine CW.seq ?_
     refine CW.region ?_
     refine RL.opS trivial rfl (OpW.assign (v := .bool true) rfl ?_)
     refine RL.nil ?_
     refine CW.ret ?_
     exact ret_intro (res1 rfl rfl) ⟨true, rfl, h⟩
  ·clear hk48
   dsimp only [List.take]
   obtain ⟨ha, hc⟩ := h
   rcases Bool.eq_false_or_eq_true s3 with hb7 | hb7
   ·have h := ha hb7; clear ha hc
    refine RL.skipS (notWanted_of rfl rfl hb7) rfl ?_
    refine RL.skipS (notWanted_of rfl rfl hb7) rfl ?_
    refine RL.skipS (notWanted_of rfl rfl hb7) rfl ?_
    refine RL.opS trivial rfl (OpW.pick (b := true) (v := .bool true) (congrArg Value.bool hb7) rfl ?_)
    refine RL.nil ?_
    exact ⟨true, ⟨rfl, e6⟩, h⟩
   ·have h := hc hb7; clear ha hc
    refine RL.opS (wanted_of rfl rfl hb7) rfl (OpW.move (v := Sl.v p1) e6 ?_)
    refine RL.opS (wanted_of rfl rfl hb7) rfl (OpW.len (s := p1) slice_30 rfl ?_)
    refine RL.opS (wanted_of rfl rfl hb7) rfl (OpW.bin (k := .i64) (a := (p1.len : Int)) (b := 30) (v := .bool (decide (30 < (p1.len : Int)))) rfl rfl rfl ?_)
    refine RL.opS trivial rfl (OpW.pick (b := false) (v := .bool (decide (30 < (p1.len : Int)))) (congrArg Value.bool hb7) rfl ?_)
    refine RL.nil ?_
    exact ⟨(decide (30 < (p1.len : Int))), ⟨rfl, e6⟩, h⟩
 ·clear hk50
  dsimp only [List.take]
  obtain ⟨ha, hc⟩ := h
  rcases Bool.eq_false_or_eq_true (decide (p0 < 3)) with hb1 | hb1
  ·have h := ha hb1; clear ha hc
   refine RL.skipS (notWanted_of rfl rfl hb1) rfl ?_
   refine RL.skipS (notWanted_of rfl rfl hb1) rfl ?_
   refine RL.opS trivial rfl (OpW.pick (b := true) (v := .bool true) (congrArg Value.bool hb1) rfl ?_)
   refine RL.nil ?_
   exact ⟨true, ⟨rfl, rfl⟩, h⟩
  ·have h := hc hb1; clear ha hc
   refine RL.opS (wanted_of rfl rfl hb1) rfl (OpW.move (v := .int .i64 p0) rfl ?_)
   refine RL.opS (wanted_of rfl rfl hb1) rfl (OpW.bin (k := .i64) (a := p0) (b := 7) (v := .bool (decide (7 < p0))) rfl rfl rfl ?_)
   refine RL.opS trivial rfl (OpW.pick (b := false) (v := .bool (decide (7 < p0))) (congrArg Value.bool hb1) rfl ?_)
   refine RL.nil ?_
   exact ⟨(decide (7 < p0)), ⟨rfl, rfl⟩, h⟩
end Go.Proofs.Ytagkcbbbdlmcjaa
end
section
/- The journal's own trial at the head of each law; scripts of a size. -/
namespace Go.Proofs.Ytagkcbbbdlmcjaa
open Go.Lift Go.Lift.Disk Go.Lift.Crc Go.Lift.Wal Go.RowKit
/-- a journal's struct, whatever its disk does -/
def LogAt (w : World) (pd pl frm room : Nat) (L : Lg) : Prop := ∃ sd : Sl, Blk w pl 95 (logC pd frm room L.seq sd L.count L.broken) ∧ sd.len = L.data.length ∧ LgWf L frm room
section
variable {w w' : World} {lo : Nat → Prop} {pd bb pl frm room : Nat} {D : Dk} {L : Lg}
theorem WAt.log (h : WAt w lo pd bb pl frm room D L) : LogAt w pd pl frm room L := by
 obtain ⟨g, sd, h⟩ := h
 exact ⟨sd, h.log, h.data.1.symm, h.wf⟩
theorem LogAt.fr {X : Nat → Prop} (h : LogAt w pd pl frm room L) (hf : Fr X w w') (hX : ¬ X pl) : LogAt w' pd pl frm room L := by
 obtain ⟨sd, h1, h2⟩ := h
 exact ⟨sd, h1.fr hf hX, h2⟩
theorem LogAt.ext (h : LogAt w pd pl frm room L) (hx : Ext w w') : LogAt w' pd pl frm room L := h.fr (X := fun _ => False) (Fr.of hx) fun h => h
theorem room_ok2 (h : LogAt w pd pl frm room L) : Calls Try.prog 17 #[.pointer (lp pl)] w (Ret r17 fun x w' => x = (room : Int) - (L.data.length : Int) ∧ Ext w w') := by
 obtain ⟨sd, h1, h2, h3⟩ := h
 apply s17_calls
 refine ⟨fun h => absurd h (by simp), fun _ => ?_⟩
 intro w2 hw2
 have hx2 : Ext w w2 := by subst hw2; exact Ext.drew _
 refine ⟨_, rfl, (room : Int), by rw [add_plain]; exact h1.cell rfl, _, rfl, sd, by rw [add_plain]; exact h1.cell rfl, ?_, hx2⟩
 have h4 := h3.hroom
 have h5 := h3.hdata
 rw [w64_eq (by omega) (by omega)]
 omega
theorem len_ok2 (h : LogAt w pd pl frm room L) : Calls Try.prog 22 #[.pointer (lp pl)] w (Ret r22 fun x w' => x = (L.count : Int) ∧ w = w') := by
 obtain ⟨sd, h1, h2, h3⟩ := h
 apply s22_calls
 refine ⟨fun h => absurd h (by simp), fun _ => ?_⟩
 exact ⟨_, rfl, (L.count : Int), by rw [add_plain]; exact h1.cell rfl, rfl, rfl⟩
theorem broken_ok2 (h : LogAt w pd pl frm room L) : Calls Try.prog 46 #[.pointer (lp pl)] w (Ret r46 fun x w' => x = L.broken ∧ w = w') := by
 obtain ⟨sd, h1, h2, h3⟩ := h
 apply s46_calls
 refine jn_of fun k hk => ⟨fun h => absurd h (by simp), fun _ => ?_⟩
 refine ⟨_, rfl, L.broken, by rw [add_plain]; exact h1.cell rfl, ?_⟩
 rw [hk]
 exact ⟨rfl, rfl⟩
theorem wfootExt {w0 : World} (hf : Fr (WFoot pd bb pl) w w') (hx : Ext w0 w) (h1 : w0.heap.size ≤ pd) (h2 : w0.heap.size ≤ bb) (h3 : w0.heap.size ≤ pl) : Ext w0 w' :=
 hf.ext hx fun k _ hk => by
  rcases hk with (e | e) | e <;> rw [e] <;> assumption
end
theorem open_fresh {D : Dk} {frm room : Nat} (h0 : D.down = false) (h1 : (headOf D frm room).1 = 0) (h2 : (headW D frm 1 0).2 = 0) : openD D frm room = ((headW D frm 1 0).1, .is ⟨1, [], 0, false⟩ []) := by
 unfold openD
 rw [if_neg (by rw [h0]; simp), if_pos h1, if_pos h2]
theorem open_found {D : Dk} {frm room sq n : Nat} {A : List UInt8} {rs : List (List UInt8)} (h0 : D.down = false) (h1 : headOf D frm room = (sq, n)) (hs : sq ≠ 0) (h2 : dataOf D frm n = A) (h3 : parse A = (rs, 0)) : openD D frm room = (D, .is ⟨sq, A, rs.length, false⟩ rs) := by
 unfold openD
 rw [if_neg (by rw [h0]; simp), h1]
 simp only
 rw [if_neg hs, h2, h3]
 rfl
theorem add_done {D : Dk} {L : Lg} {frm room : Nat} {l : List (List UInt8)} {A : List UInt8} (hb : L.broken = false) (hl : l ≠ []) (hg : gather l room L.data = some A) (hs : L.seq ≠ last)
  (he : (addHead (layF (A.length / 512 + 1) D frm A (L.data.length / 512)) frm (L.seq + 1) A.length).2 = 0) :
  addD D L frm room l = ((addHead (layF (A.length / 512 + 1) D frm A (L.data.length / 512)) frm (L.seq + 1) A.length).1, ⟨L.seq + 1, A, L.count + l.length, false⟩, 0) := by
 unfold addD
 rw [if_neg (by rw [hb]; simp), if_neg hl, hg]
 simp only
 rw [if_neg hs, if_pos he]
def wvA : List UInt8 := frameB [97, 98] ++ frameB []
theorem wv_gather : gather [[97, 98], []] 512 [] = some wvA := by decide +kernel
def wvD1 : Dk := (headW (fresh 4) 1 1 0).1
theorem wv_head0 : (headOf (fresh 4) 1 512).1 = 0 := by decide +kernel
theorem wv_e1 : (headW (fresh 4) 1 1 0).2 = 0 := by decide +kernel
def wvR : Dk × Int := addHead (layF (wvA.length / 512 + 1) wvD1 1 wvA 0) 1 2 wvA.length
theorem wv_e2 : wvR.2 = 0 := by decide +kernel
theorem wv_down : wvR.1.down = false := by decide +kernel
theorem wv_head : headOf wvR.1 1 512 = (2, 12) := by decide +kernel
theorem wv_data : dataOf wvR.1 1 12 = wvA := by decide +kernel
theorem wv_parse : parse wvA = ([[97, 98], []], 0) := by decide +kernel
theorem wv_len : wvA.length = 12 := by decide +kernel
theorem wv_b0 : Bnd (fresh 4) 2 := by unfold Bnd; decide +kernel
theorem wv_b1 : Bnd wvD1 5000 := by unfold Bnd; decide +kernel
theorem wv_b2 : Bnd wvR.1 2 := by unfold Bnd; decide +kernel
theorem wv_open1 : openD (fresh 4) 1 (roomOf 3) = (wvD1, .is ⟨1, [], 0, false⟩ []) := open_fresh rfl wv_head0 wv_e1
theorem wv_add : addD wvD1 ⟨1, [], 0, false⟩ 1 (roomOf 3) [[97, 98], []] = (wvR.1, ⟨2, wvA, 2, false⟩, 0) := add_done rfl (by simp) wv_gather (by decide) wv_e2
theorem wv_open2 : openD wvR.1 1 (roomOf 3) = (wvR.1, .is ⟨2, wvA, 2, false⟩ [[97, 98], []]) := open_found wv_down wv_head (by decide) wv_data wv_parse
theorem addD_bl (D : Dk) : wvR.1.bl.length = 4 := by decide +kernel
theorem lives4_ok (w : World) : Calls Try.prog 13 #[] w (Ret r13 fun x w' => x = true ∧ Ext w w') := by
 apply s13_calls
 refine cR_of (new_ok w 4 (by decide) (by decide)) ?_
 rintro x1 w2 ⟨pd, bb, rfl, h2, hx2⟩
 obtain ⟨hpd, hbb, _, _⟩ := h2.lt
 have hpd : w.heap.size ≤ pd := hpd
 have hbb : w.heap.size ≤ bb := hbb
 have ho := open_ok h2 (upB hx2.size) 1 3 (by decide) (by simp [fresh]) wv_b0
 rw [wv_open1] at ho
 refine cR_of ho ?_
 rintro ⟨x3a, x3b, x3c⟩ w4 ⟨pl, e1, hpl, e2, hrs, hW, hf4⟩
 simp only at e1 e2 hrs
 subst e1; subst e2
 have hx4 := footExt hf4 hx2 hpd hbb
 have hplw : w.heap.size ≤ pl := Nat.le_trans hx2.size hpl
 have hrl := hrs.len
 have hrl : x3b.len = 0 := hrl
 refine jn_of fun k1 hk1 => ⟨fun h => absurd h (by simp), fun _ => ?_⟩
 simp only
 rw [hrl, hk1]
 refine jn_of fun k2 hk2 => ⟨fun h => absurd h (by simp), fun _ => ?_⟩
 rw [hk2]
 refine jn_of fun k3 hk3 => ⟨fun h => absurd h (by simp), fun _ => ?_⟩
 intro b22 w23 hb22 hw23
 refine ⟨b22, 0, _, 5, (0, 0), rfl, by rw [hb22, hw23]; exact heap_new _ _, ?_⟩
 intro w24 hw24
 obtain ⟨hA, hx24⟩ := at_frozen_new hb22 hw23 hw24
 intro b25 w26 hb25 hw26
 have hx26 : Ext w24 w26 := Ext.new hw26
 have hx26' := hx24.trans hx26
 have hp : Parts w26 ⟨some ⟨b25, 0, none⟩, 2, 2⟩ [[97, 98], []] := by
  refine ⟨[⟨some ⟨b22, 0, none⟩, 2, 2⟩, nilSl], rfl, rfl, At.new hb25 hw26, ?_⟩
  intro k s c hs hc
  rcases k with _ | _ | k
  ·simp at hs hc
   subst hs; subst hc
   exact ⟨rfl, hx26.at hA⟩
  ·simp at hs hc
   subst hs; subst hc
   exact ⟨rfl, rfl⟩
  ·simp at hs
 have ha := add_ok (hW.ext hx26') (upB (hx4.trans hx26').size) wv_b1 _ _ hp (by decide) (by decide)
 rw [wv_add] at ha
 refine cR_of ha ?_
 rintro x27 w28 ⟨rfl, hW28, hf28⟩
 have hx28 := wfootExt hf28 (hx4.trans hx26') hpd hbb hplw
 rw [hk3]
 refine ⟨fun h => absurd h (by simp), fun _ => ?_⟩
 have ho2 := open_ok hW28.disk (upB hx28.size) 1 3 (by decide) (by show 1 + 3 ≤ wvR.1.bl.length; rw [addD_bl wvD1]; decide) wv_b2
 have e3 : openD (wvR.1, (⟨2, wvA, 2, false⟩ : Lg), (0 : Int)).1 1 (roomOf 3) = (wvR.1, .is ⟨2, wvA, 2, false⟩ [[97, 98], []]) := wv_open2
 rw [e3] at ho2
 obtain ⟨_, _, _, hpll, hpdl, hbbl⟩ := hW28.lt
 have hLog := hW28.log
 have hpln : ¬ Foot pd bb pl := by
  obtain ⟨g, sd, hX⟩ := hW28
  exact hX.lt.2.2.2.1
 refine cR_of ho2 ?_
 rintro ⟨x35a, x35b, x35c⟩ w36 ⟨pl2, e1, hpl2, e2, hrs2, hW2, hf36⟩
 simp only at e1 e2 hrs2
 subst e1; subst e2
 have hx36 := footExt hf36 hx28 hpd hbb
 have hLog36 := hLog.fr hf36 hpln
 have hp2 := hrs2.parts
 have hrl2 := hrs2.len
 have hrl2 : x35b.len = 2 := hrl2
 refine jn_of fun k4 hk4 => ⟨fun _ => ?_, fun h => absurd h (by simp)⟩
 simp only
 rw [hrl2, hk4]
 refine jn_of fun k5 hk5 => ⟨fun _ => ?_, fun h => absurd h (by simp)⟩
 obtain ⟨a, s, ha', hc, hb⟩ := hp2.get (k := 0) (by decide)
 refine ⟨a, _, ha', by decide, by simp only; omega, rfl, s, hc, _, hb.1, hb.2, ?_⟩
 rw [hk5]
 refine jn_of fun k6 hk6 => ⟨fun _ => ?_, fun h => absurd h (by simp)⟩
 obtain ⟨a, s, ha', hc, hb⟩ := hp2.get (k := 1) (by decide)
 have hsl : s.len = 0 := hb.1.symm
 refine ⟨a, _, ha', by decide, by simp only; omega, rfl, s, hc, ?_⟩
 show k6 _ _
 rw [hsl, hk6]
 refine jn_of fun k7 hk7 => ⟨fun _ => ?_, fun h => absurd h (by simp)⟩
 refine cR_of (room_ok2 hLog36) ?_
 rintro x66 w67 ⟨rfl, hx67⟩
 have e5 : ((roomOf 3 : Nat) : Int) - (((wvR.1, (⟨2, wvA, 2, false⟩ : Lg), (0 : Int)).2.1.data.length : Nat) : Int) = 500 := by
  show ((512 : Nat) : Int) - ((wvA.length : Nat) : Int) = 500
  rw [wv_len]; rfl
 rw [e5, hk7]
 refine jn_of fun k8 hk8 => ⟨fun _ => ?_, fun h => absurd h (by simp)⟩
 refine cR_of (len_ok2 (hLog36.ext hx67)) ?_
 rintro x74 w75 ⟨rfl, rfl⟩
 rw [hk8]
 exact ⟨rfl, hx36.trans hx67⟩

/-! ### scripts -/
structure OpJ where
 kind : Int
 ts : Sl
 texts : List (List UInt8)
 fall : Fall
def OpJ.cells (o : OpJ) : List Value := [.int .i64 o.kind, o.ts.v, .int .i64 o.fall.1, .int .u64 o.fall.2.1, .int .i64 o.fall.2.2]
structure OpJ.Ok (w : World) (o : OpJ) : Prop where
 texts : Parts w o.ts o.texts
 keep : 0 ≤ o.fall.2.1 ∧ o.fall.2.1 < 18446744073709551616
structure OpsJ (w : World) (s : Sl) (l : List OpJ) : Prop where
 len : s.len = l.length
 cells : AtO w s.a (l.flatMap OpJ.cells)
 ok : ∀ o ∈ l, o.Ok w
theorem OpJ.Ok.ext {w w' : World} {o : OpJ} (h : o.Ok w) (hx : Ext w w') : o.Ok w' := ⟨h.texts.ext hx, h.keep⟩
theorem OpsJ.ext {w w' : World} {s : Sl} {l : List OpJ} (h : OpsJ w s l) (hx : Ext w w') : OpsJ w' s l := ⟨h.len, Ext.atO hx h.cells, fun o ho => (h.ok o ho).ext hx⟩
theorem OpsJ.get {w : World} {s : Sl} {l : List OpJ} (h : OpsJ w s l) {k : Nat} (hk : k < l.length) : ∃ a, s.a = some a ∧ At w (a.add (k * 5)) l[k].cells := by
 have e := flatMap_at OpJ.cells (n := 5) (fun _ => rfl) l k hk
 have hl : k * 5 < (l.flatMap OpJ.cells).length := by
  rw [flatMap_len OpJ.cells (n := 5) (fun _ => rfl)]; omega
 obtain ⟨a, ha, _⟩ := h.cells.some_of (List.getElem?_eq_getElem hl)
 have hc := h.cells
 rw [ha] at hc
 refine ⟨a, ha, ?_⟩
 rw [← e]
 exact At.sub hc _ _
theorem opj_one (o : OpJ) : ∀ v ∈ o.cells, v.oneCell' = true := by
 intro v hv
 simp only [OpJ.cells, List.mem_cons, List.not_mem_nil, or_false] at hv
 rcases hv with rfl | rfl | rfl | rfl | rfl <;> rfl
def FitsJ (n : Int) (l : List OpJ) : Prop := 3 ≤ n ∧ n ≤ 7 ∧ l.length ≤ 30 ∧ ∀ o ∈ l, o.texts.length ≤ 6 ∧ ∀ s ∈ o.texts, s.length ≤ 3000
theorem fits4_ok (w : World) (n : Int) (p : Sl) (l : List OpJ) (h : OpsJ w p l) : Calls Try.prog 14 #[.int .i64 n, p.v] w (Ret r14 fun x w' => (x = true → FitsJ n l) ∧ Ext w w') := by
 apply s14_calls
 have hpl := h.len
 refine jn_of fun k1 hk1 => ?_
 have key1 : ∀ b : Bool, (b = false → 3 ≤ n ∧ n ≤ 7) → k1 b w := by
  intro b hb
  rw [hk1]
  refine jn_of fun k2 hk2 => ?_
  have key2 : ∀ b2 : Bool, (b2 = false → 3 ≤ n ∧ n ≤ 7 ∧ l.length ≤ 30) → k2 b2 w := by
   intro b2 hb2
   rw [hk2]
   refine ⟨fun _ => ⟨fun h => absurd h (by decide), Ext.refl _⟩, fun hf => ?_⟩
   obtain ⟨h1, h2, h3⟩ := hb2 hf
   refine ⟨fun st w' => ∃ k : Nat, k ≤ l.length ∧ st = (k : Int) ∧ Ext w w' ∧ ∀ o ∈ l.take k, o.texts.length ≤ 6 ∧ ∀ s ∈ o.texts, s.length ≤ 3000, fun st _ => l.length - st.toNat, ⟨0, Nat.zero_le _, rfl, Ext.refl _, by simp⟩, ?_⟩
   rintro st w15 ⟨k, hk, rfl, hx, hall⟩
   refine ⟨fun hlt => ?_, fun hge => ?_⟩
   ·have hkl : k < l.length := by have := of_decide_eq_true hlt; omega
    obtain ⟨a, ha, hat⟩ := (h.ext hx).get hkl
    refine ⟨a, _, ha, by omega, by omega, rfl, ?_⟩
    rw [Int.toNat_natCast]
    refine ⟨_, rfl, hat, rfl, opj_one _, fun b24 w25 hb24 hw25 => ?_⟩
    have hx25 : Ext w15 w25 := Ext.new hw25
    have hB : Blk w25 b24 29 l[k].cells := Blk.new hb24 hw25
    have hp := ((h.ext (hx.trans hx25)).ok _ (List.getElem_mem hkl)).texts
    have htl := hp.len
    refine ⟨l[k].ts, by rw [add_plain]; exact hB.cell rfl, ?_⟩
    refine ⟨fun _ => ⟨fun h => absurd h (by decide), hx.trans hx25⟩, fun h6 => ?_⟩
    have h6 := of_decide_eq_false h6
    refine ⟨l[k].ts, by rw [add_plain]; exact hB.cell rfl, ?_⟩
    refine ⟨fun st w' => ∃ j : Nat, j ≤ l[k].texts.length ∧ st = (j : Int) ∧ w25 = w' ∧ ∀ s ∈ l[k].texts.take j, s.length ≤ 3000, fun st _ => l[k].texts.length - st.toNat, ⟨0, Nat.zero_le _, rfl, rfl, by simp⟩, ?_⟩
    rintro st w30 ⟨j, hj, rfl, rfl, hall2⟩
    refine ⟨fun hlt2 => ?_, fun hge2 => ?_⟩
    ·have hjl : j < l[k].texts.length := by have := of_decide_eq_true hlt2; omega
     obtain ⟨a2, s2, ha2, hc2, hb2⟩ := hp.get hjl
     have hsl := hb2.1
     refine ⟨a2, _, ha2, by omega, by omega, rfl, s2, by rw [Int.toNat_natCast, Nat.mul_one]; exact hc2, ?_⟩
     refine ⟨fun _ => ⟨fun h => absurd h (by decide), hx.trans hx25⟩, fun h30 => ?_⟩
     have h30 := of_decide_eq_false h30
     rw [w64_eq (by omega) (by omega)]
     refine ⟨⟨j + 1, by omega, by omega, rfl, ?_⟩, by simp only; omega⟩
     intro s hs
     rw [List.take_succ_eq_append_getElem hjl, List.mem_append] at hs
     rcases hs with hs | hs
     ·exact hall2 s hs
     ·rw [List.mem_singleton.1 hs]; omega
    ·have hje : j = l[k].texts.length := by have := of_decide_eq_false hge2; omega
     subst hje
     rw [List.take_length] at hall2
     rw [w64_eq (by omega) (by omega)]
     refine ⟨⟨k + 1, by omega, by omega, hx.trans hx25, ?_⟩, by simp only; omega⟩
     intro o ho
     rw [List.take_succ_eq_append_getElem hkl, List.mem_append] at ho
     rcases ho with ho | ho
     ·exact hall o ho
     ·rw [List.mem_singleton.1 ho]; exact ⟨by omega, hall2⟩
   ·have hge : k = l.length := by have := of_decide_eq_false hge; omega
    subst hge
    rw [List.take_length] at hall
    exact ⟨fun _ => ⟨h1, h2, h3, hall⟩, hx⟩
  refine ⟨fun h => key2 true fun h => absurd h (by decide), fun h => key2 _ fun h6 => ?_⟩
  have := of_decide_eq_false h6
  obtain ⟨h1, h2⟩ := hb h
  exact ⟨h1, h2, by omega⟩
 refine ⟨fun h => key1 true fun h => absurd h (by decide), fun h => key1 _ fun h2 => ?_⟩
 have := of_decide_eq_false h
 have := of_decide_eq_false h2
 omega
end Go.Proofs.Ytagkcbbbdlmcjaa
end
section
/- A journal that is laid on a new disk. -/
namespace Go.Proofs.Ytagkcbbbdlmcjaa
open Go.Lift Go.Lift.Disk Go.Lift.Crc Go.Lift.Wal Go.RowKit
theorem lowB_zeros (n : Nat) : lowB (List.replicate n 0) = 0 := by
 unfold lowB
 induction n with
 | zero => rfl
 | succ n ih => rw [List.replicate_succ, List.foldl_cons]; exact ih
theorem right_zero {b : List UInt8} {room : Nat} (h : lowB (sliceB b 8 16) = 0) : right b room = (0, 0) := by
 unfold right
 simp only [h]
 rw [if_neg]
 rintro ⟨_, _, h1, _⟩
 omega
theorem right_zeros (n room : Nat) : right (List.replicate n 0) room = (0, 0) := by
 refine right_zero ?_
 unfold sliceB
 rw [List.take_replicate, List.drop_replicate]
 exact lowB_zeros _
theorem nowAt_fresh (m i : Nat) : ∃ n, nowAt (fresh m) i = List.replicate n 0 := by
 unfold nowAt
 rcases Nat.lt_or_ge i m with h | h
 ·refine ⟨512, ?_⟩
  have e : (fresh m).bl[i]? = some (zero512, zero512) := by simp [fresh, h]
  have e2 : bAt (fresh m).bl i = (zero512, zero512) := by simp [bAt, List.getD, e]
  rw [e2]
  rfl
 ·refine ⟨0, ?_⟩
  have e : (fresh m).bl[i]? = none := List.getElem?_eq_none (by simp [fresh]; exact h)
  simp [bAt, List.getD, e]
theorem head_fresh (m frm room : Nat) : headOf (fresh m) frm room = (0, 0) := by
 have hs : ∀ i, headStep (fresh m) frm room (0, 0) i = (0, 0) := by
  intro i
  unfold headStep
  obtain ⟨n, e⟩ := nowAt_fresh m (frm + i)
  rw [e, right_zeros]
  rfl
 unfold headOf
 rw [hs, hs]
/-- a disk of which no fall is planned -/
theorem write_free {D : Dk} (hd : D.down = false) (hf : D.falls = []) {i : Nat} (hi : i < D.bl.length) {b : List UInt8} (hb : b.length = 512) : D.write (i : Int) b = (Dk.tick (D.put i b), 0) := by
 have hw : D.why (i : Int) = 0 := by unfold Dk.why; rw [if_neg (by rw [hd]; simp), if_neg (by omega)]
 have hs : (D.put i b).falls.find? (fun f => f.1 == ((D.put i b).changes : Int)) = none := by
  show D.falls.find? _ = none
  rw [hf]; rfl
 unfold Dk.write
 rw [if_neg (by rw [hw]; simp), if_neg (by omega), Int.toNat_natCast, strike_none hs]
def flushed (D : Dk) : Dk := { D with bl := flushL D.bl D.pend, pend := [], changes := D.changes + 1 }
theorem flush_free {D : Dk} (hd : D.down = false) (hf : D.falls = []) : D.flush = (flushed D, 0) := by
 have hs : D.falls.find? (fun f => f.1 == (D.changes : Int)) = none := by rw [hf]; rfl
 unfold Dk.flush
 rw [if_neg (by rw [hd]; simp), strike_none hs]
 simp only [ne_eq, not_true, if_false]
 rfl
/-- what is written of a disk and made sure, without a fall -/
def headed (D : Dk) (frm seq n : Nat) : Dk := flushed (Dk.tick (D.put (frm + seq % 2) (headB seq n)))
theorem headW_free {D : Dk} (hd : D.down = false) (hf : D.falls = []) {frm seq n : Nat} (hi : frm + 1 < D.bl.length) : headW D frm seq n = (headed D frm seq n, 0) := by
 have hw := write_free hd hf (i := frm + seq % 2) (by omega) (headB_len seq n)
 unfold headW
 rw [hw]
 simp only [if_true]
 exact flush_free hd hf
structure Free (n c : Nat) (D : Dk) : Prop where
 down : D.down = false
 falls : D.falls = []
 len : D.bl.length = n
 ch : D.changes = c
theorem free_fresh (n : Nat) : Free n 0 (fresh n) := ⟨rfl, rfl, by simp [fresh], rfl⟩
theorem Free.put {n c : Nat} {D : Dk} (h : Free n c D) (i : Nat) (b : List UInt8) : Free n (c + 1) (Dk.tick (D.put i b)) :=
 ⟨h.down, h.falls, (setNow_len _ _ _).trans h.len, by show D.changes + 1 = _; rw [h.ch]⟩
theorem Free.flushed {n c : Nat} {D : Dk} (h : Free n c D) : Free n (c + 1) (flushed D) :=
 ⟨h.down, h.falls, (flushL_len' _ _).trans h.len, by show D.changes + 1 = _; rw [h.ch]⟩
theorem Free.headed {n c : Nat} {D : Dk} (h : Free n c D) (frm seq k : Nat) : Free n (c + 2) (headed D frm seq k) := (h.put _ _).flushed
theorem fresh_bnd (m k : Nat) (hk : k < 1000000) : Bnd (fresh m) k := ⟨by show 0 + k < _; omega, by show 0 + k < _; omega⟩
theorem open_new (m frm room : Nat) (h : frm + 1 < m) : openD (fresh m) frm room = (headed (fresh m) frm 1 0, .is ⟨1, [], 0, false⟩ []) := by
 have hf := free_fresh m
 have hw : headW (fresh m) frm 1 0 = (headed (fresh m) frm 1 0, 0) := headW_free hf.down hf.falls (by rw [hf.len]; exact h)
 have := open_fresh (D := fresh m) (frm := frm) (room := room) rfl (by rw [head_fresh]) (by rw [hw])
 rw [hw] at this
 exact this
/-- an opening of a new disk, whatever part of it is asked for -/
theorem open_any {w : World} {lo : Nat → Prop} {pd bb m : Nat} (h : DAt w lo pd bb (fresh m)) (hlo : ∀ k, w.heap.size ≤ k → lo k) (f b : Int) (hf : f ≤ 9223372036854775807) (hb : b ≤ 9223372036854775807) :
  Calls Try.prog 16 #[.pointer (dp pd), .int .i64 f, .int .i64 b] w (Ret r16 fun x w' => Fr (Foot pd bb) w w' ∧ x.2.1.len = 0 ∧
   (((f < 0 ∨ b < 3 ∨ (m : Int) < b ∨ (m : Int) - b < f) ∧ x = (none, nilSl, 1) ∧ DAt w' lo pd bb (fresh m)) ∨
    ∃ (frm blocks : Nat), f = (frm : Int) ∧ b = (blocks : Int) ∧ 3 ≤ blocks ∧ frm + blocks ≤ m ∧ ∃ pl, x.1 = lp pl ∧ w.heap.size ≤ pl ∧ x.2.2 = 0 ∧ WAt w' lo pd bb pl frm (roomOf blocks) (headed (fresh m) frm 1 0) ⟨1, [], 0, false⟩)) := by
 have hfl : (fresh m).bl.length = m := by simp [fresh]
 by_cases h1 : f < 0 ∨ b < 3
 ·refine Ret.mono (open_bad w (dp pd) f b (.inr h1)) ?_
  rintro x w' ⟨rfl, rfl⟩
  refine ⟨Fr.refl _, rfl, .inl ⟨?_, rfl, h⟩⟩
  rcases h1 with h1 | h1
  ·exact .inl h1
  ·exact .inr (.inl h1)
 by_cases h2 : (m : Int) < b ∨ (m : Int) - b < f
 ·refine Ret.mono (open_out h f b (by omega) (by omega) hb (by rw [hfl]; exact h2)) ?_
  rintro x w' ⟨rfl, rfl⟩
  exact ⟨Fr.refl _, rfl, .inl ⟨.inr (.inr h2), rfl, h⟩⟩
 obtain ⟨frm, rfl⟩ := Int.eq_ofNat_of_zero_le (show 0 ≤ f by omega)
 obtain ⟨blocks, rfl⟩ := Int.eq_ofNat_of_zero_le (show 0 ≤ b by omega)
 have ho := open_ok h hlo frm blocks (by omega) (by omega) (fresh_bnd m 2 (by decide))
 rw [open_new m frm (roomOf blocks) (by omega)] at ho
 refine Ret.mono ho ?_
 rintro x w' ⟨pl, e1, hpl, e2, hrs, hW, hF⟩
 exact ⟨hF, hrs.len, .inr ⟨frm, blocks, rfl, rfl, by omega, by omega, pl, e1, hpl, e2, hW⟩⟩
theorem WX.setDisk {w w' : World} {lo : Nat → Prop} {pd bb pl frm room g : Nat} {sd : Sl} {D D' : Dk} {L : Lg} (h : WX w lo pd bb pl frm room g sd D L) (hd : DAt w' (fun k => (lo k ∧ k ≠ pl) ∧ k ≠ g) pd bb D') (hf : Fr (Foot pd bb) w w') :
  WX w' lo pd bb pl frm room g sd D' L := by
 obtain ⟨_, _, _, h1, h2⟩ := h.lt
 exact ⟨hd, h.log.fr hf h1, hf.bytes (fun a ha => by rw [(h.row a ha).1]; exact h2) h.data, h.cap, h.nil, h.row, Nat.lt_of_lt_of_le h.glt hf.size, h.lopl, h.wf⟩
end Go.Proofs.Ytagkcbbbdlmcjaa
end
section
/- The typed readings of the functions, and that the program meets each: written by gen.py (a program of this session). -/
namespace Go.Proofs.Ytagkcbbbdlmcjaa
open Go.Lift
set_option maxRecDepth 100000 in
set_option maxHeartbeats 4000000 in
theorem s51_calls (K : List UInt8 → World → Prop) (p0 : Int) (w : World) (h : s51 K p0 w) :
  Calls Try.prog 51 #[.int .u64 p0] w (Ret r51 K) := by
 unfold s51 at h
 refine calls_of_CW (n := 19) Try.func51 rfl rfl rfl ?_
 refine CW.seq ?_
 refine CW.region ?_
 refine RL.opS trivial rfl (OpW.assign (v := str []) rfl ?_)
 refine RL.nil ?_
 refine CW.seq ?_
 refine CW.seq ?_
 refine CW.region ?_
 refine RL.opS trivial rfl (OpW.move (v := .int .u64 p0) rfl ?_)
 refine RL.opS trivial rfl (OpW.bin (k := .u64) (a := p0) (b := 128) (v := .bool (decide (p0 < 128))) rfl rfl rfl ?_)
 refine RL.nil ?_
 obtain ⟨ha, hc⟩ := h
 refine CW.cond (b := (decide (p0 < 128))) rfl (fun hb1 => ?_) (fun hb1 => ?_)
 ·have h := ha hb1; clear ha hc
  refine CW.seq ?_
  refine CW.region ?_
  refine RL.opS trivial rfl (OpW.move (v := .int .u64 p0) rfl ?_)
  refine RL.opS trivial rfl (OpW.convInt (a := p0) int_25 int_5 rfl ?_)
  obtain ⟨b2, hb2_⟩ : ∃ b_, b_ = w.heap.size := ⟨_, rfl⟩
  obtain ⟨w3, hw3_⟩ : ∃ w_, w_ = w.alloc (.cells (List.toArray [.int .u8 (IntKind.u8.wrap p0)]) 5) := ⟨_, rfl⟩
  have h := h b2 w3 hb2_ hw3_
  refine RL.opS trivial rfl (OpW.buildSliceE (vs := [(0, .int .u8 (IntKind.u8.wrap p0))]) (cs := [.int .u8 (IntKind.u8.wrap p0)]) (by rfl) (by kernel_rfl) hb2_ hw3_ ?_)
  obtain ⟨x4, h1, h2, h⟩ := h
  refine RL.opS trivial rfl (OpW.b2s bsl_39 str_9 rfl h1 h2 ?_)
  refine RL.opS trivial rfl (OpW.assign (v := str x4) rfl ?_)
  refine RL.nil ?_
  refine CW.ret ?_
  exact ret_intro (res1 rfl rfl) ⟨x4, rfl, h⟩
 ·have h := hc hb1; clear ha hc
  refine CW.skip ?_
  refine CW.seq ?_
  obtain ⟨w5, hw5_⟩ : ∃ w_, w_ = w.drew := ⟨_, rfl⟩
  have h := h w5 hw5_
  have hx6 : Ext w w5 := by rw [hw5_]; exact Ext.drew _
  refine CW.draws (m := 11) (listed := #[F,F,F,F,F,F,F,F,F,F,F]) mixed [] (Ext w) rfl rfl ?_
  rw [← hw5_]
  refine DL.takeP (listed' := #[T,F,F,F,F,F,F,F,F,F,F]) (v := .int .u64 p0) 0 rfl rfl (by kernel_rfl) rfl trivial rfl (fun w_ K_ h_ => OpW.move (v := .int .u64 p0) rfl h_) ?_
  refine DL.takeP (listed' := #[T,T,F,F,F,F,F,F,F,F,F]) (v := .int .u64 (Int.tmod p0 128)) 1 rfl rfl (by kernel_rfl) rfl trivial rfl (fun w_ K_ h_ => OpW.quo (a := p0) (b := 128) (v := .int .u64 (Int.tmod p0 128)) rfl rfl (by decide) rfl h_) ?_
  refine DL.takeP (listed' := #[T,T,T,F,F,F,F,F,F,F,F]) (v := .int .u8 (IntKind.u8.wrap (Int.tmod p0 128))) 2 rfl rfl (by kernel_rfl) rfl trivial rfl (fun w_ K_ h_ => OpW.convInt (a := (Int.tmod p0 128)) int_25 int_5 rfl h_) ?_
  refine DL.takeP (listed' := #[T,T,T,T,F,F,F,F,F,F,F]) (v := .int .u8 (IntKind.u8.wrap ((IntKind.u8.wrap (Int.tmod p0 128)) + 128))) 3 rfl rfl (by kernel_rfl) rfl trivial rfl (fun w_ K_ h_ => OpW.bin (k := .u8) (a := (IntKind.u8.wrap (Int.tmod p0 128))) (b := 128) (v := .int .u8 (IntKind.u8.wrap ((IntKind.u8.wrap (Int.tmod p0 128)) + 128))) rfl rfl rfl h_) ?_
  refine DL.takeP (listed' := #[T,T,T,T,F,F,T,F,F,F,F]) (v := .int .u64 p0) 6 rfl rfl (by kernel_rfl) rfl trivial rfl (fun w_ K_ h_ => OpW.move (v := .int .u64 p0) rfl h_) ?_
  refine DL.takeP (listed' := #[T,T,T,T,F,F,T,T,F,F,F]) (v := .int .u64 (IntKind.u64.wrap (Int.tdiv p0 128))) 7 rfl rfl (by kernel_rfl) rfl trivial rfl (fun w_ K_ h_ => OpW.quo (a := p0) (b := 128) (v := .int .u64 (IntKind.u64.wrap (Int.tdiv p0 128))) rfl rfl (by decide) rfl h_) ?_
  obtain ⟨F13, st_4, run_4, h⟩ := h
  obtain ⟨F19, st_5, run_5, h⟩ := h
  obtain ⟨F24, st_8, run_8, h⟩ := h
  obtain ⟨c27, h⟩ := h
  refine DL.state (fun ρ_ w28 => ∃ (x7 : Sl) (x8 : List UInt8) (x9 : List UInt8), Ext w5 w28 ∧ F13 () x7 w28 ∧ F19 x7 x8 w28 ∧ F24 () x9 w28 ∧ ρ_ 2 = str (x8 ++ x9)) 0 #[T,T,T,T,T,T,T,T,T,T,T] ?_ ?_
  ·rintro ρ_ w28 ⟨x7, x8, x9, hx_1, f_4, f_5, f_8, e_2⟩
   have h := h x7 x8 x9 w28 hx_1 f_4 f_5 f_8
   have hx29 := Ext.trans hx6 hx_1
   refine DL.done (by kernel_rfl) ?_
   refine CW.ret ?_
   exact ret_intro (res1 rfl e_2) ⟨(x8 ++ x9), rfl, h⟩
  intro hD_4_5_8
  refine DL.state (fun ρ_ w30 => ∃ (x7 : Sl) (x8 : List UInt8), Ext w5 w30 ∧ F13 () x7 w30 ∧ F19 x7 x8 w30 ∧ ρ_ 14 = str x8 ∧ ρ_ 16 = .int .u64 (IntKind.u64.wrap (Int.tdiv p0 128))) 3 #[T,T,T,T,T,T,T,T,F,F,F] ?_ ?_
  ·rintro ρ_ w30 ⟨x7, x8, hx_1, f_4, f_5, e_14, e_16⟩
   refine DL.branch [8] (by kernel_rfl) rfl ?_
   refine all_cons ?_ (all_nil)
   ·clear h
    have h := run_8 () w30 hx_1 trivial
    refine DLop.execS (listed' := #[T,T,T,T,T,T,T,T,T,F,F]) rfl rfl trivial rfl (OpW.callR (al := [.int .u64 (IntKind.u64.wrap (Int.tdiv p0 128))]) Try.func51 fb_51 fn_51 (by simp only [List.map_cons, List.map_nil, ev, upd, Nat.beq, cond_false, cond_true, e_16]) h (fun x31 w32 h => ?_))
    obtain ⟨hx33, f34⟩ := h
    refine ⟨(fun h_ => absurd h_ (by decide)), ?_⟩
    have h_c := c27 x7 x8 x31 _ (Ext.trans hx_1 hx33) (st_4 _ _ _ _ hx33 f_4) (st_5 _ _ _ _ hx33 f_5) f34
    have hq_ := h_c
    refine DL.takeP (listed' := #[T,T,T,T,T,T,T,T,T,T,F]) (v := str (x8 ++ x31)) 9 rfl rfl (by kernel_rfl) rfl trivial rfl (fun w_ K_ h_ => OpW.strAdd e_14 rfl hq_ h_) ?_
    refine DL.takeP (listed' := #[T,T,T,T,T,T,T,T,T,T,T]) (v := str (x8 ++ x31)) 10 rfl rfl (by kernel_rfl) rfl trivial rfl (fun w_ K_ h_ => OpW.assign (v := str (x8 ++ x31)) rfl h_) ?_
    exact hD_4_5_8 _ _ ⟨x7, x8, x31, Ext.trans hx_1 hx33, st_4 _ _ _ _ hx33 f_4, st_5 _ _ _ _ hx33 f_5, f34, rfl⟩

  intro hD_4_5
  refine DL.state (fun ρ_ w35 => ∃ (x7 : Sl) (x9 : List UInt8), Ext w5 w35 ∧ F13 () x7 w35 ∧ F24 () x9 w35 ∧ ρ_ 13 = Sl.v x7 ∧ ρ_ 17 = str x9) 3 #[T,T,T,T,T,F,T,T,T,F,F] ?_ ?_
  ·rintro ρ_ w35 ⟨x7, x9, hx_1, f_4, f_8, e_13, e_17⟩
   refine DL.branch [5] (by kernel_rfl) rfl ?_
   refine all_cons ?_ (all_nil)
   ·clear h
    have h := run_5 x7 w35 hx_1 f_4
    obtain ⟨x36, h1, h2, h⟩ := h
    refine DLop.execS (listed' := #[T,T,T,T,T,T,T,T,T,F,F]) rfl rfl trivial rfl (OpW.b2s bsl_39 str_9 e_13 h1 h2 ?_)
    obtain ⟨hx37, f38⟩ := h
    refine ⟨(fun h_ => absurd h_ (by decide)), ?_⟩
    have h_c := c27 x7 x36 x9 _ (Ext.trans hx_1 hx37) (st_4 _ _ _ _ hx37 f_4) f38 (st_8 _ _ _ _ hx37 f_8)
    have hq_ := h_c
    refine DL.takeP (listed' := #[T,T,T,T,T,T,T,T,T,T,F]) (v := str (x36 ++ x9)) 9 rfl rfl (by kernel_rfl) rfl trivial rfl (fun w_ K_ h_ => OpW.strAdd rfl e_17 hq_ h_) ?_
    refine DL.takeP (listed' := #[T,T,T,T,T,T,T,T,T,T,T]) (v := str (x36 ++ x9)) 10 rfl rfl (by kernel_rfl) rfl trivial rfl (fun w_ K_ h_ => OpW.assign (v := str (x36 ++ x9)) rfl h_) ?_
    exact hD_4_5_8 _ _ ⟨x7, x36, x9, Ext.trans hx_1 hx37, st_4 _ _ _ _ hx37 f_4, f38, st_8 _ _ _ _ hx37 f_8, rfl⟩

  intro hD_4_8
  refine DL.state (fun ρ_ w39 => ∃ (x7 : Sl), Ext w5 w39 ∧ F13 () x7 w39 ∧ ρ_ 13 = Sl.v x7 ∧ ρ_ 16 = .int .u64 (IntKind.u64.wrap (Int.tdiv p0 128))) 4 #[T,T,T,T,T,F,T,T,F,F,F] ?_ ?_
  ·rintro ρ_ w39 ⟨x7, hx_1, f_4, e_13, e_16⟩
   refine DL.branch [5, 8] (by kernel_rfl) rfl ?_
   refine all_cons ?_ (all_cons ?_ (all_nil))
   ·clear h
    have h := run_5 x7 w39 hx_1 f_4
    obtain ⟨x40, h1, h2, h⟩ := h
    refine DLop.execS (listed' := #[T,T,T,T,T,T,T,T,F,F,F]) rfl rfl trivial rfl (OpW.b2s bsl_39 str_9 e_13 h1 h2 ?_)
    obtain ⟨hx41, f42⟩ := h
    refine ⟨(fun h_ => absurd h_ (by decide)), ?_⟩
    exact hD_4_5 _ _ ⟨x7, x40, Ext.trans hx_1 hx41, st_4 _ _ _ _ hx41 f_4, f42, rfl, e_16⟩
   ·clear h
    have h := run_8 () w39 hx_1 trivial
    refine DLop.execS (listed' := #[T,T,T,T,T,F,T,T,T,F,F]) rfl rfl trivial rfl (OpW.callR (al := [.int .u64 (IntKind.u64.wrap (Int.tdiv p0 128))]) Try.func51 fb_51 fn_51 (by simp only [List.map_cons, List.map_nil, ev, upd, Nat.beq, cond_false, cond_true, e_16]) h (fun x43 w44 h => ?_))
    obtain ⟨hx45, f46⟩ := h
    refine ⟨(fun h_ => absurd h_ (by decide)), ?_⟩
    exact hD_4_8 _ _ ⟨x7, x43, Ext.trans hx_1 hx45, st_4 _ _ _ _ hx45 f_4, f46, e_13, rfl⟩

  intro hD_4
  refine DL.state (fun ρ_ w47 => ∃ (x9 : List UInt8), Ext w5 w47 ∧ F24 () x9 w47 ∧ ρ_ 12 = .int .u8 (IntKind.u8.wrap ((IntKind.u8.wrap (Int.tmod p0 128)) + 128)) ∧ ρ_ 17 = str x9) 4 #[T,T,T,T,F,F,T,T,T,F,F] ?_ ?_
  ·rintro ρ_ w47 ⟨x9, hx_1, f_8, e_12, e_17⟩
   refine DL.branch [4] (by kernel_rfl) rfl ?_
   refine all_cons ?_ (all_nil)
   ·clear h
    have h := run_4 () w47 hx_1 trivial
    obtain ⟨b48, hb48_⟩ : ∃ b_, b_ = w47.heap.size := ⟨_, rfl⟩
    obtain ⟨w49, hw49_⟩ : ∃ w_, w_ = w47.alloc (.cells (List.toArray [.int .u8 (IntKind.u8.wrap ((IntKind.u8.wrap (Int.tmod p0 128)) + 128))]) 5) := ⟨_, rfl⟩
    have h := h b48 w49 hb48_ hw49_
    refine DLop.execS (listed' := #[T,T,T,T,T,F,T,T,T,F,F]) rfl rfl trivial rfl (OpW.buildSliceE (vs := [(0, .int .u8 (IntKind.u8.wrap ((IntKind.u8.wrap (Int.tmod p0 128)) + 128)))]) (cs := [.int .u8 (IntKind.u8.wrap ((IntKind.u8.wrap (Int.tmod p0 128)) + 128))]) (by simp only [List.map_cons, List.map_nil, ev, upd, Nat.beq, cond_false, cond_true, e_12]) (by kernel_rfl) hb48_ hw49_ ?_)
    obtain ⟨hx50, f51⟩ := h
    refine ⟨(fun h_ => absurd h_ (by decide)), ?_⟩
    exact hD_4_8 _ _ ⟨⟨some ⟨b48, 0, none⟩, 1, 1⟩, x9, Ext.trans hx_1 hx50, f51, st_8 _ _ _ _ hx50 f_8, rfl, e_17⟩

  intro hD_8
  have hx_0 : Ext w5 w5 := Ext.refl _
  refine DL.branch [4, 8] (by kernel_rfl) rfl ?_
  refine all_cons ?_ (all_cons ?_ (all_nil))
  ·clear h
   have h := run_4 () w5 hx_0 trivial
   obtain ⟨b52, hb52_⟩ : ∃ b_, b_ = w5.heap.size := ⟨_, rfl⟩
   obtain ⟨w53, hw53_⟩ : ∃ w_, w_ = w5.alloc (.cells (List.toArray [.int .u8 (IntKind.u8.wrap ((IntKind.u8.wrap (Int.tmod p0 128)) + 128))]) 5) := ⟨_, rfl⟩
   have h := h b52 w53 hb52_ hw53_
   refine DLop.execS (listed' := #[T,T,T,T,T,F,T,T,F,F,F]) rfl rfl trivial rfl (OpW.buildSliceE (vs := [(0, .int .u8 (IntKind.u8.wrap ((IntKind.u8.wrap (Int.tmod p0 128)) + 128)))]) (cs := [.int .u8 (IntKind.u8.wrap ((IntKind.u8.wrap (Int.tmod p0 128)) + 128))]) (by rfl) (by kernel_rfl) hb52_ hw53_ ?_)
   obtain ⟨hx54, f55⟩ := h
   refine ⟨(fun h_ => absurd h_ (by decide)), ?_⟩
   exact hD_4 _ _ ⟨⟨some ⟨b52, 0, none⟩, 1, 1⟩, Ext.trans hx_0 hx54, f55, rfl, rfl⟩
  ·clear h
   have h := run_8 () w5 hx_0 trivial
   refine DLop.execS (listed' := #[T,T,T,T,F,F,T,T,T,F,F]) rfl rfl trivial rfl (OpW.callR (al := [.int .u64 (IntKind.u64.wrap (Int.tdiv p0 128))]) Try.func51 fb_51 fn_51 rfl h (fun x56 w57 h => ?_))
   obtain ⟨hx58, f59⟩ := h
   refine ⟨(fun h_ => absurd h_ (by decide)), ?_⟩
   exact hD_8 _ _ ⟨x56, Ext.trans hx_0 hx58, f59, rfl, rfl⟩

end Go.Proofs.Ytagkcbbbdlmcjaa
end
section
/- The typed readings of the functions, and that the program meets each: written by gen.py (a program of this session). -/
namespace Go.Proofs.Ytagkcbbbdlmcjaa
open Go.Lift
set_option maxRecDepth 100000 in
set_option maxHeartbeats 4000000 in
theorem s18_calls (K : List UInt8 → World → Prop) (p0 : List UInt8) (w : World) (h : s18 K p0 w) :
  Calls Try.prog 18 #[str p0] w (Ret r18 K) := by
 unfold s18 at h
 refine calls_of_CW (n := 15) Try.func18 rfl rfl rfl ?_
 refine CW.seq ?_
 refine CW.region ?_
 refine RL.opS trivial rfl (OpW.assign (v := str []) rfl ?_)
 refine RL.nil ?_
 refine CW.seq ?_
 refine CW.region ?_
 refine RL.opS trivial rfl (OpW.move (v := str p0) rfl ?_)
 refine RL.opS trivial rfl (OpW.lenStr us_9 rfl ?_)
 refine RL.opS trivial rfl (OpW.convInt (a := (p0.length : Int)) int_3 int_25 rfl ?_)
 refine RL.opS trivial rfl (OpW.callR (al := [.int .u64 (IntKind.u64.wrap (p0.length : Int))]) Try.func51 fb_51 fn_51 rfl h (fun x1 w2 h => ?_))
 refine RL.opS trivial rfl (OpW.move (v := str p0) rfl ?_)
 refine RL.opS trivial rfl (OpW.callR (al := [str p0]) Try.func52 fb_52 fn_52 rfl h (fun x3 w4 h => ?_))
 refine RL.opS trivial rfl (OpW.move (v := str p0) rfl ?_)
 refine RL.opS trivial rfl (OpW.lenStr us_9 rfl ?_)
 obtain ⟨⟨h1, h2, h3⟩, h⟩ := h
 refine RL.opS trivial rfl (OpW.sliceStr (l := (p0.length : Int)) (h := (x3.length : Int)) str_9 rfl ⟨_, rfl⟩ rfl h1 h2 h3 ?_)
 obtain ⟨hq_, h⟩ := h
 refine RL.opS trivial rfl (OpW.strAdd rfl rfl hq_ ?_)
 refine RL.opS trivial rfl (OpW.move (v := str p0) rfl ?_)
 obtain ⟨hq_, h⟩ := h
 refine RL.opS trivial rfl (OpW.strAdd rfl rfl hq_ ?_)
 refine RL.opS trivial rfl (OpW.assign (v := str ((x1 ++ ((x3.take (Int.toNat (x3.length : Int))).drop (Int.toNat (p0.length : Int)))) ++ p0)) rfl ?_)
 refine RL.nil ?_
 refine CW.ret ?_
 exact ret_intro (res1 rfl rfl) ⟨((x1 ++ ((x3.take (Int.toNat (x3.length : Int))).drop (Int.toNat (p0.length : Int)))) ++ p0), rfl, h⟩
end Go.Proofs.Ytagkcbbbdlmcjaa
end
section
/- The document's numbers and frames; records that are added to a disk without falls. -/
namespace Go.Proofs.Ytagkcbbbdlmcjaa
open Go.Lift Go.Lift.Disk Go.Lift.Crc Go.Lift.Wal Go.RowKit
theorem rnum_ok : ∀ (k n : Nat) (w : World), n < 128 ^ (k + 1) → n < 18446744073709551616 → Calls Try.prog 51 #[.int .u64 (n : Int)] w (Ret r51 fun x w' => x = numB n ∧ Ext w w') := by
 intro k
 induction k with
 | zero =>
  intro n w hn _
  apply s51_calls
  refine ⟨fun _ => ?_, fun h => absurd (of_decide_eq_false h) (by omega)⟩
  intro b2 w3 hb2 hw3
  rw [u8n] at hw3
  refine ⟨[UInt8.ofNat n], rfl, At.new hb2 hw3, ?_, Ext.new hw3⟩
  unfold numB
  rw [if_pos (by omega)]
 | succ k ih =>
  intro n w hn h64
  apply s51_calls
  refine ⟨fun hlt => ?_, fun hge => ?_⟩
  ·have hlt := of_decide_eq_true hlt
   intro b2 w3 hb2 hw3
   rw [u8n] at hw3
   refine ⟨[UInt8.ofNat n], rfl, At.new hb2 hw3, ?_, Ext.new hw3⟩
   unfold numB
   rw [if_pos (by omega)]
  ·have hge := of_decide_eq_false hge
   intro w5 hw5
   have hx5 : Ext w w5 := by subst hw5; exact Ext.drew _
   refine ⟨fun _ x v => Bytes v x [UInt8.ofNat (n % 128 + 128)], fun _ _ _ _ hx h => h.ext hx, fun _ v hv _ => ?_, ?_⟩
   ·intro b14 w15 hb14 hw15
    rw [numByte] at hw15
    exact ⟨Ext.new hw15, rfl, At.new hb14 hw15⟩
   refine ⟨fun _ x v => x = [UInt8.ofNat (n % 128 + 128)], fun _ _ _ _ hx h => h, fun d v hv hb => ?_, ?_⟩
   ·exact ⟨_, hb.1, hb.2, Ext.refl _, rfl⟩
   refine ⟨fun _ x v => x = numB (n / 128), fun _ _ _ _ hx h => h, fun _ v hv _ => ?_, ?_⟩
   ·have e : IntKind.u64.wrap (Int.tdiv (n : Int) 128) = ((n / 128 : Nat) : Int) := by
     rw [Int.tdiv_eq_ediv_of_nonneg (by omega), wu64_eq (by omega) (by omega)]; omega
    rw [e]
    refine cR_of (ih (n / 128) v (by rw [Nat.div_lt_iff_lt_mul (by decide), ← Nat.pow_succ]; exact hn) (by omega)) ?_
    rintro x w' ⟨rfl, hx⟩
    exact ⟨hx, rfl⟩
   have hl := (numB_len (n / 128) (by omega)).2
   refine ⟨?_, ?_⟩
   ·rintro x7 x8 x9 v _ _ rfl rfl
    simp only [List.length_singleton]
    omega
   ·rintro x7 x8 x9 v hx _ rfl rfl
    refine ⟨?_, hx5.trans hx⟩
    conv => rhs; rw [numB]
    rw [if_neg (by omega)]
    rfl
theorem rframe_ok (w : World) (s : List UInt8) (hs : s.length ≤ 1000000000) : Calls Try.prog 18 #[str s] w (Ret r18 fun x w' => x = frameB s ∧ Ext w w') := by
 apply s18_calls
 show cR _ _ _ _ _ _
 rw [wu64_eq (by omega) (by omega)]
 refine cR_of (rnum_ok 9 s.length w (Nat.lt_of_le_of_lt hs (by decide)) (by omega)) ?_
 rintro x1 w2 ⟨rfl, hx2⟩
 refine cR_of (refseal_ok w2 s (by omega)) ?_
 rintro x3 w4 ⟨rfl, hx4⟩
 have hl := sealed_len s
 have hn := (numB_len s.length (by omega)).2
 have hd : ((sealed s).take (Int.toNat ((sealed s).length : Int))).drop (Int.toNat (s.length : Int)) = le4 (crc s) := by
  rw [Int.toNat_natCast, Int.toNat_natCast, List.take_length]
  unfold sealed
  exact List.drop_left
 have h4 : (le4 (crc s)).length = 4 := rfl
 refine ⟨⟨by omega, by omega, by omega⟩, ?_⟩
 rw [hd]
 refine ⟨by rw [h4]; omega, by rw [List.length_append, h4]; omega, ?_, hx2.trans hx4⟩
 unfold frameB
 rw [List.append_assoc]

/-! ### a disk without falls -/
theorem lay_free {n frm : Nat} {A : List UInt8} (hA : ∀ j, j * 512 < A.length → frm + 2 + j < n) : ∀ (f : Nat) {c : Nat} {D : Dk} (i : Nat), Free n c D → ∃ D' c', layF f D frm A i = (D', 0) ∧ Free n c' D'
 | 0, c, D, i, h => ⟨D, c, rfl, h⟩
 | f + 1, c, D, i, h => by
  unfold layF
  split
  ·exact ⟨D, c, rfl, h⟩
  ·rename_i hlt
   have hw := write_free h.down h.falls (i := frm + 2 + i) (by rw [h.len]; exact hA i (by omega)) (padB_len A i (by omega))
   rw [hw]
   simp only [if_true]
   exact lay_free hA f (i + 1) (h.put _ _)
theorem flushed_pend (D : Dk) : (flushed D).pend = [] := rfl
theorem addHead_free {n c frm seq k : Nat} {D : Dk} (h : Free n c D) (hf : frm + 1 < n) : addHead (D, 0) frm seq k = (headed (flushed D) frm seq k, 0) := by
 have h2 := h.flushed
 have hfl := flush_free h.down h.falls
 unfold addHead
 simp only [ne_eq, not_true, if_false, hfl]
 exact headW_free h2.down h2.falls (by rw [h2.len]; exact hf)
theorem add_free {n c frm room : Nat} {D : Dk} {L : Lg} {l : List (List UInt8)} {A : List UInt8} (h : Free n c D) (hb : L.broken = false) (hl : l ≠ []) (hs : L.seq ≠ last) (hg : gather l room L.data = some A) (hf : frm + 1 < n) (hr : frm * 512 + room + 1024 ≤ n * 512) :
  ∃ D' c', addD D L frm room l = (D', ⟨L.seq + 1, A, L.count + l.length, false⟩, 0) ∧ Free n c' D' ∧ D'.pend = [] := by
 have hgl := (gather_len l room _ hg).2
 obtain ⟨E, c1, e1, hE⟩ := lay_free (A := A) (frm := frm) (n := n) (fun j hj => by omega) (A.length / 512 + 1) (L.data.length / 512) h
 have e2 := addHead_free (seq := L.seq + 1) (k := A.length) hE hf
 have := add_done (D := D) (frm := frm) hb hl hg hs (by rw [e1, e2])
 rw [e1, e2] at this
 exact ⟨_, _, this, hE.flushed.headed _ _ _, rfl⟩
theorem Bnd.addHead {R : Dk × Int} {k : Nat} (h : Bnd R.1 (k + 3)) (frm seq n : Nat) : Bnd (addHead R frm seq n).1 k := by
 unfold Wal.addHead
 split
 ·exact h.mono (by omega)
 ·have hf := Bnd.flush (k := k + 2) h
  split
  ·exact hf.mono (by omega)
  ·exact hf.head frm seq n
theorem Bnd.addD {D : Dk} {k : Nat} {L : Lg} {frm room : Nat} {l : List (List UInt8)} (h : Bnd D (k + 4200)) (hr : room ≤ 2097152) : Bnd (addD D L frm room l).1 k := by
 unfold Wal.addD
 split
 ·exact h.mono (by omega)
 ·split
  ·exact h.mono (by omega)
  ·split
   ·exact h.mono (by omega)
   ·rename_i A hg
    have hgl := (gather_len l room _ hg).2
    split
    ·exact h.mono (by omega)
    ·have hlay : Bnd (layF (A.length / 512 + 1) D frm A (L.data.length / 512)).1 (k + 3) := Bnd.lay _ frm A _ (h.mono (by omega))
     have := hlay.addHead frm (L.seq + 1) A.length
     split <;> exact this
theorem gather_one (s : List UInt8) (room : Nat) (data : List UInt8) : gather [s] room data = if room < data.length + (frameB s).length then none else some (data ++ frameB s) := by
 have := frameB_len s
 unfold gather
 by_cases h : (room : Int) - data.length < s.length
 ·rw [if_pos h, if_pos (by omega)]
 ·rw [if_neg h]
  unfold gather
  rw [List.length_append]
end Go.Proofs.Ytagkcbbbdlmcjaa
end
section
/- Frames that are parsed are the records again; heads that are read are what was written. No program here. -/
namespace Go.Proofs.Ytagkcbbbdlmcjaa
open Go.Lift Go.Lift.Disk Go.Lift.Crc Go.Lift.Wal Go.RowKit
theorem takeAux_numB : ∀ (k m : Nat) (i acc : Nat) (rest : List UInt8), m < 128 ^ (k + 1) → i + k ≤ 9 → (0 < m ∨ i = 0) → m * 128 ^ i < 18446744073709551616 → takeAux i acc (numB m ++ rest) = some (acc + m * 128 ^ i, rest) := by
 intro k
 induction k with
 | zero =>
  intro m i acc rest hm hi h0 hs
  have hlt : m < 128 := by omega
  have e : numB m = [UInt8.ofNat m] := by unfold numB; rw [if_pos hlt]
  have hc : (UInt8.ofNat m).toNat = m := by simp; omega
  rw [e]
  show takeAux i acc (UInt8.ofNat m :: rest) = _
  unfold takeAux
  rw [hc, if_neg (by omega), if_neg ?_, if_neg (by omega), if_neg (by omega)]
  rintro ⟨h9, h1⟩
  subst h9
  have : 2 * 128 ^ 9 ≤ m * 128 ^ 9 := Nat.mul_le_mul_right _ (by omega)
  have h2 : (2 * 128 ^ 9 : Nat) = 18446744073709551616 := by decide
  omega
 | succ k ih =>
  intro m i acc rest hm hi h0 hs
  by_cases hlt : m < 128
  ·exact (by
    have e : numB m = [UInt8.ofNat m] := by unfold numB; rw [if_pos hlt]
    have hc : (UInt8.ofNat m).toNat = m := by simp; omega
    rw [e]
    show takeAux i acc (UInt8.ofNat m :: rest) = _
    unfold takeAux
    rw [hc, if_neg (by omega), if_neg (by omega), if_neg (by omega), if_neg (by omega)])
  ·have e : numB m = UInt8.ofNat (m % 128 + 128) :: numB (m / 128) := by
    conv => lhs; rw [numB]
    rw [if_neg hlt]
   have hc : (UInt8.ofNat (m % 128 + 128)).toNat = m % 128 + 128 := by simp; omega
   rw [e]
   show takeAux i acc (UInt8.ofNat (m % 128 + 128) :: (numB (m / 128) ++ rest)) = _
   unfold takeAux
   have hp : 128 ^ (i + 1) = 128 ^ i * 128 := Nat.pow_succ ..
   have hmul : m / 128 * 128 ^ (i + 1) + m % 128 * 128 ^ i = m * 128 ^ i := by
    rw [hp, ← Nat.mul_assoc, Nat.mul_right_comm, ← Nat.add_mul]
    congr 1
    omega
   rw [hc, if_neg (by omega), if_neg (by omega), if_pos (by omega)]
   rw [ih (m / 128) (i + 1) _ rest (by rw [Nat.div_lt_iff_lt_mul (by decide), ← Nat.pow_succ]; exact hm) (by omega) (.inl (by omega)) (by omega)]
   congr 2
   have : (m % 128 + 128) % 128 = m % 128 := by omega
   rw [this, ← hmul]
   omega
theorem takeNum_numB (m : Nat) (hm : m < 18446744073709551616) (rest : List UInt8) : takeNum (numB m ++ rest) = some (m, rest) := by
 have := takeAux_numB 9 m 0 0 rest (Nat.lt_of_lt_of_le hm (by decide)) (by decide) (.inr rfl) (by simpa using hm)
 simpa [takeNum] using this
theorem parseF_frames : ∀ (l : List (List UInt8)) (f : Nat) (out : List (List UInt8)), (l.flatMap frameB).length ≤ f → (∀ s ∈ l, s.length < 18446744073709551616) → parseF f (l.flatMap frameB) out = (out ++ l, 0)
 | [], f, out, _, _ => by cases f <;> simp [parseF]
 | s :: l, f, out, hf, hs => by
  have hfl := frameB_len s
  have hnl := (numB_len s.length (hs s (by simp))).1
  rw [List.flatMap_cons] at hf ⊢
  rw [List.length_append] at hf
  obtain ⟨f, rfl⟩ : ∃ f', f = f' + 1 := ⟨f - 1, by omega⟩
  have e1 : frameB s ++ l.flatMap frameB = numB s.length ++ (le4 (crc s) ++ (s ++ l.flatMap frameB)) := by unfold frameB; simp only [List.append_assoc]
  have ht : takeNum (frameB s ++ l.flatMap frameB) = some (s.length, le4 (crc s) ++ (s ++ l.flatMap frameB)) := by rw [e1]; exact takeNum_numB _ (hs s (by simp)) _
  have h4 : (le4 (crc s)).length = 4 := rfl
  have hne : frameB s ++ l.flatMap frameB ≠ [] := by
   intro e
   have := congrArg List.length e
   rw [List.length_append, List.length_nil] at this
   omega
  have hrl : (le4 (crc s) ++ (s ++ l.flatMap frameB)).length = 4 + s.length + (l.flatMap frameB).length := by simp only [List.length_append, h4]; omega
  have hsl : sliceB (le4 (crc s) ++ (s ++ l.flatMap frameB)) 4 (4 + s.length) = s := by
   unfold sliceB
   rw [← List.append_assoc, List.take_left' (by rw [List.length_append, h4]), List.drop_left' h4]
  have hd : (le4 (crc s) ++ (s ++ l.flatMap frameB)).drop (4 + s.length) = l.flatMap frameB := by
   rw [← List.append_assoc, List.drop_left' (by rw [List.length_append, h4])]
  have htk : (frameB s ++ l.flatMap frameB).take ((frameB s ++ l.flatMap frameB).length - (le4 (crc s) ++ (s ++ l.flatMap frameB)).length + 4 + s.length) = frameB s := by
   refine List.take_left' ?_
   rw [hrl, List.length_append]
   omega
  rw [parseF, if_neg hne, ht]
  simp only
  rw [if_neg (by rw [hrl]; omega), hsl, htk, if_pos rfl, hd, parseF_frames l f (out ++ [s]) (by omega) fun t h => hs t (by simp [h])]
  simp
theorem parse_frames (l : List (List UInt8)) (hs : ∀ s ∈ l, s.length < 18446744073709551616) : parse (l.flatMap frameB) = (l, 0) := by
 have := parseF_frames l _ [] (Nat.le_refl _) hs
 simpa [parse] using this
theorem gather_eq : ∀ (l : List (List UInt8)) (room : Nat) (all : List UInt8) {A : List UInt8}, gather l room all = some A → A = all ++ l.flatMap frameB
 | [], room, all, A, h => by
  unfold gather at h
  split at h
  ·cases h
  ·simp only [Option.some.injEq] at h
   rw [h]; simp
 | s :: l, room, all, A, h => by
  unfold gather at h
  split at h
  ·cases h
  ·have := gather_eq l room _ h
   rw [this, List.flatMap_cons, List.append_assoc]

/-! ### heads -/
theorem beB_low : ∀ (k a n : Nat), k ≤ 8 → a * 256 ^ k + n % 256 ^ k < 18446744073709551616 → (beB k n).foldl lowStep a = a * 256 ^ k + n % 256 ^ k
 | 0, a, n, _, h => by simp [beB, Nat.mod_one]
 | k + 1, a, n, hk, h => by
  have hp : 256 ^ (k + 1) = 256 ^ k * 256 := Nat.pow_succ ..
  have hc : (UInt8.ofNat (n / 256 ^ k)).toNat = n / 256 ^ k % 256 := by simp
  have hm : n % 256 ^ (k + 1) = n / 256 ^ k % 256 * 256 ^ k + n % 256 ^ k := by
   rw [hp, Nat.mod_mul]
   rw [Nat.mul_comm (256 ^ k)]
   omega
  have hpos : 0 < 256 ^ k := Nat.pow_pos (by decide)
  have e : (a * 256 + n / 256 ^ k % 256) * 256 ^ k + n % 256 ^ k = a * 256 ^ (k + 1) + n % 256 ^ (k + 1) := by
   rw [hm, hp, Nat.add_mul, Nat.mul_assoc, Nat.mul_comm 256 (256 ^ k)]
   omega
  have hlt : a * 256 + n / 256 ^ k % 256 < 18446744073709551616 := by
   have : (a * 256 + n / 256 ^ k % 256) * 1 ≤ (a * 256 + n / 256 ^ k % 256) * 256 ^ k := Nat.mul_le_mul_left _ hpos
   omega
  rw [beB, List.foldl_cons]
  have es : lowStep a (UInt8.ofNat (n / 256 ^ k)) = a * 256 + n / 256 ^ k % 256 := by
   unfold lowStep
   rw [hc, Nat.mod_eq_of_lt hlt]
  rw [es, beB_low k _ n (by omega) (by rw [e]; exact h), e]
theorem low_high {n : Nat} (h : n < 18446744073709551616) : lowB (beB 8 n) = n := by
 have h8 : (256 : Nat) ^ 8 = 18446744073709551616 := by decide
 have := beB_low 8 0 n (by decide) (by rw [h8]; omega)
 rw [h8] at this
 unfold lowB
 rw [this]
 omega
theorem sliceB_len {b : List UInt8} {i j : Nat} (h : j ≤ b.length) : (sliceB b i j).length = j - i := by unfold sliceB; simp; omega
theorem half_parts (a b : Nat) : sliceB (halfB a b) 8 16 = beB 8 a ∧ sliceB (halfB a b) 16 24 = beB 8 b := by
 have hm : magic.length = 8 := rfl
 constructor
 ·unfold sliceB halfB
  rw [← List.append_assoc, List.take_left' (by rw [List.length_append, hm, beB_len]), List.drop_left' hm]
 ·unfold sliceB halfB
  rw [List.take_of_length_le (by simp only [List.length_append, hm, beB_len]; omega), ← List.append_assoc, List.drop_left' (by rw [List.length_append, hm, beB_len])]
theorem slice_slice (b : List UInt8) (i j k m : Nat) (h : i + m ≤ j) : sliceB (sliceB b i j) k m = sliceB b (i + k) (i + m) := by
 unfold sliceB
 rw [List.take_drop, List.take_take, List.drop_drop, Nat.min_eq_left (by omega)]
/-- what a half says -/
theorem half_inj {a b c d : Nat} (ha : a < 18446744073709551616) (hb : b < 18446744073709551616) (hc : c < 18446744073709551616) (hd : d < 18446744073709551616) (h : halfB a b = halfB c d) : a = c ∧ b = d := by
 have h1 := (half_parts a b).1
 have h2 := (half_parts a b).2
 rw [h, (half_parts c d).1] at h1
 rw [h, (half_parts c d).2] at h2
 have e1 := congrArg lowB h1
 have e2 := congrArg lowB h2
 rw [low_high ha, low_high hc] at e1
 rw [low_high hb, low_high hd] at e2
 exact ⟨e1.symm, e2.symm⟩
/-- what is read of bytes whose first half is a head's -/
theorem right_of_half {b : List UInt8} {s n room : Nat} (h : sliceB b 0 24 = halfB s n) (hs : s < 18446744073709551616) (hn : n < 18446744073709551616) : lowB (sliceB b 8 16) = s ∧ lowB (sliceB b 16 24) = n := by
 have h1 : sliceB b 8 16 = sliceB (sliceB b 0 24) 8 16 := by rw [slice_slice _ _ _ _ _ (by decide)]
 have h2 : sliceB b 16 24 = sliceB (sliceB b 0 24) 16 24 := by rw [slice_slice _ _ _ _ _ (by decide)]
 rw [h1, h2, h, (half_parts s n).1, (half_parts s n).2, low_high hs, low_high hn]
 exact ⟨rfl, rfl⟩
theorem head_halves (s n : Nat) : sliceB (headB s n) 0 24 = halfB s n ∧ sliceB (headB s n) 24 48 = halfB n s := by
 constructor
 ·unfold sliceB headB
  rw [List.take_left' (halfB_len _ _), List.drop_zero]
 ·unfold sliceB headB
  rw [← List.append_assoc, List.take_left' (by rw [List.length_append, halfB_len, halfB_len]), List.drop_left' (halfB_len _ _)]
theorem right_head {s n room : Nat} (h1 : 1 ≤ s) (h2 : s ≤ last) (h3 : n ≤ room) (hr : room < 18446744073709551616) : right (headB s n) room = (s, n) := by
 have hl : last = 4611686018427387904 := rfl
 obtain ⟨a, b⟩ := head_halves s n
 obtain ⟨c, d⟩ := right_of_half (room := room) a (by omega) (by omega)
 unfold right
 simp only [c, d]
 rw [if_pos ⟨a, b, h1, h2, h3⟩]
/-- a block of which no half can be a head's that is as young -/
def El (s : Nat) (b : List UInt8) : Prop := ∀ x y, x < 18446744073709551616 → y < 18446744073709551616 → sliceB b 24 48 = halfB x y → y < s
theorem right_some {b : List UInt8} {room : Nat} : right b room = (0, 0) ∨ (sliceB b 0 24 = halfB (lowB (sliceB b 8 16)) (lowB (sliceB b 16 24)) ∧ sliceB b 24 48 = halfB (lowB (sliceB b 16 24)) (lowB (sliceB b 8 16)) ∧ right b room = (lowB (sliceB b 8 16), lowB (sliceB b 16 24))) := by
 unfold right
 simp only
 split
 ·rename_i h; exact .inr ⟨h.1, h.2.1, rfl⟩
 ·exact .inl rfl
theorem El.right {s : Nat} {b : List UInt8} {room : Nat} (h : El s b) (hs : 0 < s) : (right b room).1 < s := by
 rcases right_some (b := b) (room := room) with e | ⟨_, e2, e3⟩
 ·rw [e]; exact hs
 ·rw [e3]
  exact h _ _ (lowB_lt _) (lowB_lt _) e2
theorem El_zeros {s : Nat} {m : Nat} : El s (List.replicate m 0) := by
 intro x y _ _ h
 unfold sliceB halfB magic at h
 rw [List.take_replicate, List.drop_replicate] at h
 have h0 := congrArg (fun l : List UInt8 => l[0]?) h
 rw [List.getElem?_replicate] at h0
 split at h0 <;> simp at h0
theorem El_head {s s0 n0 : Nat} (h : s0 < s) (h1 : s0 < 18446744073709551616) (h2 : n0 < 18446744073709551616) : El s (headB s0 n0) := by
 intro x y hx hy e
 rw [(head_halves s0 n0).2] at e
 rw [← (half_inj h2 h1 hx hy e).2]
 exact h
/-- a head that is torn: it is another one's, or none, or the new one -/
theorem torn_head {s n t room : Nat} {b : List UInt8} (hb : El s b) (hl : b.length = 512) (ht : t ≤ 512) (hs : 0 < s) (hs2 : s + 1 < 18446744073709551616) (hn : n < 18446744073709551616) :
  (right ((headB (s + 1) n).take t ++ b.drop t) room).1 < s ∨ right ((headB (s + 1) n).take t ++ b.drop t) room = (s + 1, n) := by
 have hH := headB_len (s + 1) n
 have hmix : ∀ i j, t ≤ i → j ≤ 512 → sliceB ((headB (s + 1) n).take t ++ b.drop t) i j = sliceB b i j := by
  intro i j hi hj
  unfold sliceB
  rw [List.drop_take, List.drop_take, List.drop_append, List.length_take, hH, Nat.min_eq_left ht, List.drop_of_length_le (by rw [List.length_take, hH]; omega), List.nil_append, List.drop_drop]
  congr 2
  omega
 have hnew : ∀ i j, j ≤ t → sliceB ((headB (s + 1) n).take t ++ b.drop t) i j = sliceB (headB (s + 1) n) i j := by
  intro i j hj
  unfold sliceB
  rw [List.take_append_of_le_length (by rw [List.length_take, hH]; omega), List.take_take, Nat.min_eq_left hj]
 rcases right_some (b := (headB (s + 1) n).take t ++ b.drop t) (room := room) with e | ⟨e1, e2, e3⟩
 ·rw [e]; exact .inl hs
 by_cases h24 : 24 ≤ t
 ·right
  have h0 : sliceB ((headB (s + 1) n).take t ++ b.drop t) 0 24 = halfB (s + 1) n := by rw [hnew 0 24 h24]; exact (head_halves _ _).1
  obtain ⟨c, d⟩ := right_of_half (room := room) h0 hs2 hn
  rw [e3, c, d]
 ·left
  rw [e3]
  rw [hmix 24 48 (by omega) (by decide)] at e2
  exact hb _ _ (lowB_lt _) (lowB_lt _) e2
/-- which head counts -/
theorem headOf_eq {D : Dk} {frm room s n : Nat} (hs : 0 < s) (h1 : right (nowAt D (frm + s % 2)) room = (s, n)) (h2 : (right (nowAt D (frm + (s + 1) % 2)) room).1 < s) : headOf D frm room = (s, n) := by
 show headStep D frm room (headStep D frm room (0, 0) 0) 1 = _
 rcases Nat.mod_two_eq_zero_or_one s with e | e
 ·have e' : (s + 1) % 2 = 1 := by omega
  rw [e] at h1
  rw [e'] at h2
  have a : headStep D frm room (0, 0) 0 = (s, n) := by
   unfold headStep
   rw [h1]
   exact if_pos hs
  rw [a]
  unfold headStep
  exact if_neg (by simp only; omega)
 ·have e' : (s + 1) % 2 = 0 := by omega
  rw [e] at h1
  rw [e'] at h2
  have a : (headStep D frm room (0, 0) 0).1 < s := by
   unfold headStep
   split
   ·exact h2
   ·exact hs
  generalize headStep D frm room (0, 0) 0 = z at a
  unfold headStep
  rw [h1]
  exact if_pos a

/-! ### the bytes behind the heads -/
def DataP (D : Dk) (frm : Nat) (A : List UInt8) : Prop := ∀ j, 512 * j < A.length → (nowAt D (frm + 2 + j)).length = 512 ∧ (nowAt D (frm + 2 + j)).take (A.length - 512 * j) = (A.drop (512 * j)).take 512
theorem blocks_take {D : Dk} {frm : Nat} {A : List UInt8} (h : DataP D frm A) : ∀ k, 512 * k < A.length + 512 → (blocksOf D frm k).length = 512 * k ∧ (blocksOf D frm k).take A.length = A.take (512 * k)
 | 0, _ => ⟨rfl, by simp [blocksOf]⟩
 | k + 1, hk => by
  obtain ⟨h1, h2⟩ := blocks_take h k (by omega)
  obtain ⟨h3, h4⟩ := h k (by omega)
  rw [blocksOf_succ]
  refine ⟨by rw [List.length_append, h1, h3]; omega, ?_⟩
  rw [List.take_append, h1, h2, h4, Nat.mul_succ, List.take_add]
theorem data_of {D : Dk} {frm : Nat} {A : List UInt8} (h : DataP D frm A) : dataOf D frm A.length = A := by
 unfold dataOf
 rw [(blocks_take h _ (by omega)).2, List.take_of_length_le (by omega)]
end Go.Proofs.Ytagkcbbbdlmcjaa
end
section
/- The typed readings of the functions, and that the program meets each: written by gen.py (a program of this session). -/
namespace Go.Proofs.Ytagkcbbbdlmcjaa
open Go.Lift
set_option maxRecDepth 100000 in
set_option maxHeartbeats 4000000 in
theorem s44_calls (K : Sl → World → Prop) (p0 : Sl) (w : World) (h : s44 K p0 w) :
  Calls Try.prog 44 #[Sl.v p0] w (Ret r44 K) := by
 unfold s44 at h
 refine calls_of_CW (n := 19) Try.func44 rfl rfl rfl ?_
 refine CW.seq ?_
 refine CW.region ?_
 refine RL.opS trivial rfl (OpW.assign (v := Sl.v nilSl) rfl ?_)
 refine RL.nil ?_
 refine CW.seq ?_
 refine CW.region ?_
 refine RL.opS trivial rfl (OpW.assign (v := Sl.v nilSl) rfl ?_)
 refine RL.nil ?_
 refine CW.seq ?_
 refine CW.seq ?_
 refine CW.region ?_
 refine RL.opS trivial rfl (OpW.move (v := Sl.v p0) rfl ?_)
 refine RL.opS trivial rfl (OpW.len (s := p0) slice_22 rfl ?_)
 refine RL.opS trivial rfl (OpW.move (v := .int .i64 0) rfl ?_)
 refine RL.nil ?_
 refine CW.block ?_
 obtain ⟨I17, mu18, hI, hs⟩ := h
 refine CW.loop (σ := Sl × Int) (fun s1 ρ => ρ 3 = Sl.v s1.1 ∧ ρ 8 = .int .i64 s1.2 ∧ ρ 6 = Sl.v p0 ∧ ρ 7 = .int .i64 (p0.len : Int)) I17 mu18 (nilSl, 0) ⟨rfl, rfl, rfl, rfl⟩ hI ?_
 rintro s1 ρ w2 ⟨e4, e5, e6, e7⟩ hI
 have h := hs s1 w2 hI
 clear hs hI
 refine CW.seq ?_
 refine CW.region ?_
 refine RL.opS trivial rfl (OpW.bin (k := .i64) (a := s1.2) (b := (p0.len : Int)) (v := .bool (decide (s1.2 < (p0.len : Int)))) e5 e7 rfl ?_)
 refine RL.nil ?_
 refine CW.seq ?_
 obtain ⟨ha, hc⟩ := h
 refine CW.cond (b := (decide (s1.2 < (p0.len : Int)))) rfl (fun hb8 => ?_) (fun hb8 => ?_)
 ·have h := ha hb8; clear ha hc
  refine CW.skip ?_
  refine CW.seq ?_
  refine CW.block ?_
  refine CW.seq ?_
  refine CW.region ?_
  obtain ⟨a9_, a9, h1, h2, h3, h4, h⟩ := h
  refine RL.opS trivial rfl (OpW.indexE (a' := a9) slice_22 e6 e5 h1 h2 h3 h4 ?_)
  obtain ⟨x11, h1, h⟩ := h
  refine RL.opS trivial rfl (OpW.load1 (v := Sl.v x11) one_39 rfl h1 ?_)
  refine RL.opS trivial rfl (OpW.assign (v := Sl.v x11) rfl ?_)
  refine RL.nil ?_
  refine CW.region ?_
  refine RL.opS trivial rfl (OpW.move (v := Sl.v s1.1) e4 ?_)
  refine RL.opS trivial rfl (OpW.move (v := Sl.v x11) rfl ?_)
  obtain ⟨x12, h1, h2, h⟩ := h
  refine RL.opS trivial rfl (OpW.b2s bsl_39 str_9 rfl h1 h2 ?_)
  obtain ⟨b13, hb13_⟩ : ∃ b_, b_ = w2.heap.size := ⟨_, rfl⟩
  obtain ⟨w14, hw14_⟩ : ∃ w_, w_ = w2.alloc (.cells (List.toArray [str x12]) 9) := ⟨_, rfl⟩
  have h := h b13 w14 hb13_ hw14_
  refine RL.opS trivial rfl (OpW.buildSliceE (vs := [(0, str x12)]) (cs := [str x12]) (by rfl) (by kernel_rfl) hb13_ hw14_ ?_)
  obtain ⟨x15, w16, hr_, h⟩ := h
  refine RL.opS trivial rfl (OpW.appendL (v := Sl.v x15) rfl hr_ ?_)
  refine RL.opS trivial rfl (OpW.assign (v := Sl.v x15) rfl ?_)
  refine RL.nil ?_
  refine CW.region ?_
  refine RL.opS trivial rfl (OpW.bin (k := .i64) (a := s1.2) (b := 1) (v := .int .i64 (IntKind.i64.wrap (s1.2 + 1))) e5 rfl rfl ?_)
  refine RL.opS trivial rfl (OpW.move (v := .int .i64 (IntKind.i64.wrap (s1.2 + 1))) rfl ?_)
  refine RL.nil ?_
  exact ⟨(x15, (IntKind.i64.wrap (s1.2 + 1))), ⟨rfl, rfl, e6, e7⟩, h⟩
 ·have h := hc hb8; clear ha hc
  refine CW.exit ?_
  refine CW.seq ?_
  refine CW.region ?_
  refine RL.opS trivial rfl (OpW.move (v := Sl.v s1.1) e4 ?_)
  refine RL.opS trivial rfl (OpW.assign (v := Sl.v s1.1) rfl ?_)
  refine RL.nil ?_
  refine CW.ret ?_
  exact ret_intro (res1 rfl rfl) ⟨s1.1, rfl, h⟩
end Go.Proofs.Ytagkcbbbdlmcjaa
end
section
/- The typed readings of the functions, and that the program meets each: written by gen.py (a program of this session). -/
namespace Go.Proofs.Ytagkcbbbdlmcjaa
open Go.Lift
set_option maxRecDepth 100000 in
set_option maxHeartbeats 4000000 in
theorem s45_calls (K : Bool → World → Prop) (p0 : Sl) (p1 : Sl) (w : World) (h : s45 K p0 p1 w) :
  Calls Try.prog 45 #[Sl.v p0, Sl.v p1] w (Ret r45 K) := by
 unfold s45 at h
 refine calls_of_CW (n := 27) Try.func45 rfl rfl rfl ?_
 refine CW.seq ?_
 refine CW.region ?_
 refine RL.opS trivial rfl (OpW.assign (v := .bool false) rfl ?_)
 refine RL.nil ?_
 refine CW.seq ?_
 refine CW.seq ?_
 refine CW.region ?_
 refine RL.opS trivial rfl (OpW.move (v := Sl.v p0) rfl ?_)
 refine RL.opS trivial rfl (OpW.len (s := p0) slice_22 rfl ?_)
 refine RL.opS trivial rfl (OpW.move (v := Sl.v p1) rfl ?_)
 refine RL.opS trivial rfl (OpW.len (s := p1) slice_45 rfl ?_)
 refine RL.opS trivial rfl (OpW.bin (k := .i64) (a := (p0.len : Int)) (b := (p1.len : Int)) (v := .bool (!decide ((p0.len : Int) = (p1.len : Int)))) rfl rfl rfl ?_)
 refine RL.nil ?_
 obtain ⟨ha, hc⟩ := h
 refine CW.cond (b := (!decide ((p0.len : Int) = (p1.len : Int)))) rfl (fun hb1 => ?_) (fun hb1 => ?_)
 ·have h := ha hb1; clear ha hc
  refine CW.seq ?_
  refine CW.region ?_
  refine RL.opS trivial rfl (OpW.assign (v := .bool false) rfl ?_)
  refine RL.nil ?_
  refine CW.ret ?_
  exact ret_intro (res1 rfl rfl) ⟨false, rfl, h⟩
 ·have h := hc hb1; clear ha hc
  refine CW.skip ?_
  refine CW.seq ?_
  refine CW.seq ?_
  refine CW.region ?_
  refine RL.opS trivial rfl (OpW.move (v := Sl.v p1) rfl ?_)
  refine RL.opS trivial rfl (OpW.len (s := p1) slice_45 rfl ?_)
  refine RL.opS trivial rfl (OpW.move (v := .int .i64 0) rfl ?_)
  refine RL.nil ?_
  refine CW.block ?_
  obtain ⟨I18, mu19, hI, hs⟩ := h
  refine CW.loop (σ := Int) (fun s2 ρ => ρ 14 = .int .i64 s2 ∧ ρ 0 = Sl.v p0 ∧ ρ 12 = Sl.v p1 ∧ ρ 13 = .int .i64 (p1.len : Int)) I18 mu19 0 ⟨rfl, rfl, rfl, rfl⟩ hI ?_
  rintro s2 ρ w3 ⟨e5, e6, e7, e8⟩ hI
  have h := hs s2 w3 hI
  clear hs hI
  refine CW.seq ?_
  refine CW.region ?_
  refine RL.opS trivial rfl (OpW.bin (k := .i64) (a := s2) (b := (p1.len : Int)) (v := .bool (decide (s2 < (p1.len : Int)))) e5 e8 rfl ?_)
  refine RL.nil ?_
  refine CW.seq ?_
  obtain ⟨ha, hc⟩ := h
  refine CW.cond (b := (decide (s2 < (p1.len : Int)))) rfl (fun hb9 => ?_) (fun hb9 => ?_)
  ·have h := ha hb9; clear ha hc
   refine CW.skip ?_
   refine CW.seq ?_
   refine CW.block ?_
   refine CW.seq ?_
   refine CW.region ?_
   refine RL.opS trivial rfl (OpW.move (v := .int .i64 s2) e5 ?_)
   obtain ⟨a10_, a10, h1, h2, h3, h4, h⟩ := h
   refine RL.opS trivial rfl (OpW.indexE (a' := a10) slice_45 e7 e5 h1 h2 h3 h4 ?_)
   obtain ⟨x12, h1, h⟩ := h
   refine RL.opS trivial rfl (OpW.load1 (v := str x12) one_9 rfl h1 ?_)
   refine RL.opS trivial rfl (OpW.assign (v := .int .i64 s2) rfl ?_)
   refine RL.opS trivial rfl (OpW.assign (v := str x12) rfl ?_)
   refine RL.nil ?_
   refine CW.seq ?_
   refine CW.region ?_
   refine RL.opS trivial rfl (OpW.move (v := Sl.v p0) e6 ?_)
   refine RL.opS trivial rfl (OpW.move (v := .int .i64 s2) rfl ?_)
   obtain ⟨a13_, a13, h1, h2, h3, h4, h⟩ := h
   refine RL.opS trivial rfl (OpW.indexE (a' := a13) slice_22 rfl rfl h1 h2 h3 h4 ?_)
   obtain ⟨x15, h1, h⟩ := h
   refine RL.opS trivial rfl (OpW.load1 (v := Sl.v x15) one_39 rfl h1 ?_)
   obtain ⟨x16, h1, h2, h⟩ := h
   refine RL.opS trivial rfl (OpW.b2s bsl_39 str_9 rfl h1 h2 ?_)
   refine RL.opS trivial rfl (OpW.move (v := str x12) rfl ?_)
   refine RL.opS trivial rfl (OpW.strCmp (b := !decide (x16 = x12)) rfl rfl rfl ?_)
   refine RL.nil ?_
   obtain ⟨ha, hc⟩ := h
   refine CW.cond (b := (!decide (x16 = x12))) rfl (fun hb17 => ?_) (fun hb17 => ?_)
   ·have h := ha hb17; clear ha hc
    refine CW.seq ?_
    refine CW.region ?_
    refine RL.opS trivial rfl (OpW.assign (v := .bool false) rfl ?_)
    refine RL.nil ?_
    refine CW.ret ?_
    exact ret_intro (res1 rfl rfl) ⟨false, rfl, h⟩
   ·have h := hc hb17; clear ha hc
    refine CW.skip ?_
    refine CW.region ?_
    refine RL.opS trivial rfl (OpW.bin (k := .i64) (a := s2) (b := 1) (v := .int .i64 (IntKind.i64.wrap (s2 + 1))) e5 rfl rfl ?_)
    refine RL.opS trivial rfl (OpW.move (v := .int .i64 (IntKind.i64.wrap (s2 + 1))) rfl ?_)
    refine RL.nil ?_
    exact ⟨(IntKind.i64.wrap (s2 + 1)), ⟨rfl, e6, e7, e8⟩, h⟩
  ·have h := hc hb9; clear ha hc
   refine CW.exit ?_
   refine CW.seq ?_
   refine CW.region ?_
   refine RL.opS trivial rfl (OpW.assign (v := .bool true) rfl ?_)
   refine RL.nil ?_
   refine CW.ret ?_
   exact ret_intro (res1 rfl rfl) ⟨true, rfl, h⟩
end Go.Proofs.Ytagkcbbbdlmcjaa
end
section
/- Texts of bytes; are records these texts? -/
namespace Go.Proofs.Ytagkcbbbdlmcjaa
open Go.Lift Go.Lift.Disk Go.Lift.Crc Go.Lift.Wal Go.RowKit
theorem texts_ok (w : World) (p : Sl) (l : List (List UInt8)) (h : Parts w p l) (hl : l.length ≤ 1000000) : Calls Try.prog 44 #[p.v] w (Ret r44 fun x w' => Own w' w.heap.size 9 1 x (txts l) ∧ x.len = l.length ∧ Ext w w') := by
 apply s44_calls
 have hpl := h.len
 refine ⟨fun st w' => ∃ k : Nat, k ≤ l.length ∧ st.2 = (k : Int) ∧ Own w' w.heap.size 9 1 st.1 (txts (l.take k)) ∧ Ext w w', fun st _ => l.length - st.2.toNat, ⟨0, Nat.zero_le _, rfl, Own.nil _ _ _ _, Ext.refl _⟩, ?_⟩
 rintro ⟨s, i⟩ w2 ⟨k, hk, rfl, ho, hx⟩
 simp only at ho ⊢
 have hol := ho.length
 simp only [List.length_map, List.length_take] at hol
 refine ⟨fun hlt => ?_, fun hge => ?_⟩
 ·have hlt : k < l.length := by have := of_decide_eq_true hlt; omega
  obtain ⟨a, sl, ha, hc, hb⟩ := (h.ext hx).get hlt
  refine ⟨a, _, ha, by omega, by omega, rfl, sl, by rw [Int.toNat_natCast, Nat.mul_one]; exact hc, _, hb.1, hb.2, ?_⟩
  intro b13 w14 hb13 hw14
  have hx14 : Ext w2 w14 := Ext.new hw14
  refine app_ok (base := w.heap.size) mkz_45 rfl (by decide) (ho.ext hx14) (news := txts [l[k]]) rfl (At.new hb13 hw14) (txts_one _) (by simp only [maxLen]; omega) (by first | omega | (simp only; omega)) (hx.trans hx14).size ?_
  intro s' w' hl' ho' _ hB'
  rw [w64_eq (by omega) (by omega)]
  refine ⟨⟨k + 1, by omega, by omega, ?_, hB' _ _ (hx.trans hx14) (Nat.le_refl _) (hx.trans hx14).size⟩, by omega⟩
  rw [List.take_succ_eq_append_getElem hlt, txts, List.map_append]
  exact ho'
 ·have hge : k = l.length := by have := of_decide_eq_false hge; omega
  subst hge
  rw [List.take_length] at ho
  exact ⟨ho, by omega, hx⟩
theorem same_ok (w : World) (p q : Sl) (a b : List (List UInt8)) (h : Parts w p a) (hq : StrsAt w q b) (hl : b.length ≤ 4000000) : Calls Try.prog 45 #[p.v, q.v] w (Ret r45 fun x w' => x = decide (a = b) ∧ w = w') := by
 apply s45_calls
 have hpl := h.len
 have hql := hq.len
 refine ⟨fun hne => ?_, fun heq => ?_⟩
 ·have hne := nd_t hne
  refine ⟨(decide_eq_false fun e => hne ?_).symm, rfl⟩
  rw [e] at hpl
  omega
 have heq := nd_f heq
 have hlen : a.length = b.length := by omega
 refine ⟨fun st w' => w = w' ∧ ∃ k : Nat, k ≤ b.length ∧ st = (k : Int) ∧ a.take k = b.take k, fun st _ => b.length - st.toNat, ⟨rfl, 0, Nat.zero_le _, rfl, rfl⟩, ?_⟩
 rintro i w2 ⟨rfl, k, hk, rfl, hak⟩
 refine ⟨fun hlt => ?_, fun hge => ?_⟩
 ·have hlt : k < b.length := by have := of_decide_eq_true hlt; omega
  have hla : k < a.length := by omega
  obtain ⟨c, hc, hcell⟩ := hq.get hlt
  obtain ⟨d, sl, hd, hdc, hb⟩ := h.get hla
  refine ⟨c, _, hc, by omega, by omega, rfl, b[k], by rw [Int.toNat_natCast, Nat.mul_one]; exact hcell, d, _, hd, by omega, by omega, rfl, sl, by rw [Int.toNat_natCast, Nat.mul_one]; exact hdc, _, hb.1, hb.2, ?_⟩
  refine ⟨fun hne => ?_, fun he => ?_⟩
  ·refine ⟨(decide_eq_false fun e => nd_t hne ?_).symm, rfl⟩
   subst e
   rfl
  ·have he := nd_f he
   rw [w64_eq (by omega) (by omega)]
   refine ⟨⟨rfl, k + 1, by omega, by omega, ?_⟩, by simp only; omega⟩
   rw [List.take_succ_eq_append_getElem hla, List.take_succ_eq_append_getElem hlt, hak, he]
 ·have hge : k = b.length := by have := of_decide_eq_false hge; omega
  subst hge
  rw [List.take_length, ← hlen, List.take_length] at hak
  exact ⟨(decide_eq_true hak).symm, rfl⟩

end Go.Proofs.Ytagkcbbbdlmcjaa
end
section
/- The typed readings of the functions, and that the program meets each: written by gen.py (a program of this session). -/
namespace Go.Proofs.Ytagkcbbbdlmcjaa
open Go.Lift
set_option maxRecDepth 100000 in
set_option maxHeartbeats 4000000 in
theorem s41_calls (K : List UInt8 → World → Prop) (p0 : Int) (p1 : Int) (w : World) (h : s41 K p0 p1 w) :
  Calls Try.prog 41 #[.int .u64 p0, .int .u64 p1] w (Ret r41 K) := by
 unfold s41 at h
 refine calls_of_CW (n := 21) Try.func41 rfl rfl rfl ?_
 refine CW.seq ?_
 refine CW.region ?_
 refine RL.opS trivial rfl (OpW.assign (v := str []) rfl ?_)
 refine RL.nil ?_
 refine CW.seq ?_
 obtain ⟨w1, hw1_⟩ : ∃ w_, w_ = w.drew := ⟨_, rfl⟩
 have h := h w1 hw1_
 have hx2 : Ext w w1 := by rw [hw1_]; exact Ext.drew _
 refine CW.draws (m := 17) (listed := #[F,F,F,F,F,F,F,F,F,F,F,F,F,F,F,F,F]) mixed [] (Ext w) rfl rfl ?_
 rw [← hw1_]
 refine DL.takeP (listed' := #[T,F,F,F,F,F,F,F,F,F,F,F,F,F,F,F,F]) (v := .int .u64 p0) 0 rfl rfl (by kernel_rfl) rfl trivial rfl (fun w_ K_ h_ => OpW.move (v := .int .u64 p0) rfl h_) ?_
 refine DL.takeP (listed' := #[T,F,F,T,F,F,F,F,F,F,F,F,F,F,F,F,F]) (v := .int .u64 p1) 3 rfl rfl (by kernel_rfl) rfl trivial rfl (fun w_ K_ h_ => OpW.move (v := .int .u64 p1) rfl h_) ?_
 refine DL.takeP (listed' := #[T,F,F,T,F,F,F,T,F,F,F,F,F,F,F,F,F]) (v := .int .u64 p1) 7 rfl rfl (by kernel_rfl) rfl trivial rfl (fun w_ K_ h_ => OpW.move (v := .int .u64 p1) rfl h_) ?_
 refine DL.takeP (listed' := #[T,F,F,T,F,F,F,T,F,F,T,F,F,F,F,F,F]) (v := .int .u64 p0) 10 rfl rfl (by kernel_rfl) rfl trivial rfl (fun w_ K_ h_ => OpW.move (v := .int .u64 p0) rfl h_) ?_
 obtain ⟨F12, st_1, run_1, h⟩ := h
 obtain ⟨F18, st_4, run_4, h⟩ := h
 obtain ⟨F24, st_8, run_8, h⟩ := h
 obtain ⟨F30, st_11, run_11, h⟩ := h
 obtain ⟨F36, st_13, run_13, h⟩ := h
 obtain ⟨F43, st_14, run_14, h⟩ := h
 obtain ⟨c45, h⟩ := h
 obtain ⟨c46, h⟩ := h
 obtain ⟨c47, h⟩ := h
 obtain ⟨c48, h⟩ := h
 obtain ⟨c49, h⟩ := h
 obtain ⟨c50, h⟩ := h
 refine DL.state (fun ρ_ w51 => ∃ (x3 : List UInt8) (x4 : List UInt8) (x5 : List UInt8) (x6 : List UInt8) (x7 : Sl) (x8 : List UInt8), Ext w1 w51 ∧ F12 () x3 w51 ∧ F18 x3 x4 w51 ∧ F24 (x3, x4) x5 w51 ∧ F30 (x3, x4, x5) x6 w51 ∧ F36 () x7 w51 ∧ F43 x7 x8 w51 ∧ ρ_ 4 = str (((((([100, 111, 119, 115, 101, 114, 32, 108] ++ x3) ++ x4) ++ [100, 111, 119, 115, 101, 114, 32, 108]) ++ x5) ++ x6) ++ x8)) 0 #[T,T,T,T,T,T,T,T,T,T,T,T,T,T,T,T,T] ?_ ?_
 ·rintro ρ_ w51 ⟨x3, x4, x5, x6, x7, x8, hx_1, f_1, f_4, f_8, f_11, f_13, f_14, e_4⟩
  have h := h x3 x4 x5 x6 x7 x8 w51 hx_1 f_1 f_4 f_8 f_11 f_13 f_14
  have hx52 := Ext.trans hx2 hx_1
  refine DL.done (by kernel_rfl) ?_
  refine CW.ret ?_
  exact ret_intro (res1 rfl e_4) ⟨(((((([100, 111, 119, 115, 101, 114, 32, 108] ++ x3) ++ x4) ++ [100, 111, 119, 115, 101, 114, 32, 108]) ++ x5) ++ x6) ++ x8), rfl, h⟩
 intro hD_1_4_8_11_13_14
 refine DL.state (fun ρ_ w53 => ∃ (x3 : List UInt8) (x4 : List UInt8) (x5 : List UInt8) (x6 : List UInt8) (x7 : Sl), Ext w1 w53 ∧ F12 () x3 w53 ∧ F18 x3 x4 w53 ∧ F24 (x3, x4) x5 w53 ∧ F30 (x3, x4, x5) x6 w53 ∧ F36 () x7 w53 ∧ ρ_ 17 = str ((((([100, 111, 119, 115, 101, 114, 32, 108] ++ x3) ++ x4) ++ [100, 111, 119, 115, 101, 114, 32, 108]) ++ x5) ++ x6) ∧ ρ_ 18 = Sl.v x7) 3 #[T,T,T,T,T,T,T,T,T,T,T,T,T,T,F,F,F] ?_ ?_
 ·rintro ρ_ w53 ⟨x3, x4, x5, x6, x7, hx_1, f_1, f_4, f_8, f_11, f_13, e_17, e_18⟩
  refine DL.branch [14] (by kernel_rfl) rfl ?_
  refine all_cons ?_ (all_nil)
  ·clear h
   have h := run_14 x7 w53 hx_1 f_13
   obtain ⟨x54, h1, h2, h⟩ := h
   refine DLop.execS (listed' := #[T,T,T,T,T,T,T,T,T,T,T,T,T,T,T,F,F]) rfl rfl trivial rfl (OpW.b2s bsl_39 str_9 e_18 h1 h2 ?_)
   obtain ⟨hx55, f56⟩ := h
   refine ⟨(fun h_ => absurd h_ (by decide)), ?_⟩
   have h_c := c50 x3 x4 x5 x6 x7 x54 _ (Ext.trans hx_1 hx55) (st_1 _ _ _ _ hx55 f_1) (st_4 _ _ _ _ hx55 f_4) (st_8 _ _ _ _ hx55 f_8) (st_11 _ _ _ _ hx55 f_11) (st_13 _ _ _ _ hx55 f_13) f56
   have hq_ := h_c
   refine DL.takeP (listed' := #[T,T,T,T,T,T,T,T,T,T,T,T,T,T,T,T,F]) (v := str (((((([100, 111, 119, 115, 101, 114, 32, 108] ++ x3) ++ x4) ++ [100, 111, 119, 115, 101, 114, 32, 108]) ++ x5) ++ x6) ++ x54)) 15 rfl rfl (by kernel_rfl) rfl trivial rfl (fun w_ K_ h_ => OpW.strAdd e_17 rfl hq_ h_) ?_
   refine DL.takeP (listed' := #[T,T,T,T,T,T,T,T,T,T,T,T,T,T,T,T,T]) (v := str (((((([100, 111, 119, 115, 101, 114, 32, 108] ++ x3) ++ x4) ++ [100, 111, 119, 115, 101, 114, 32, 108]) ++ x5) ++ x6) ++ x54)) 16 rfl rfl (by kernel_rfl) rfl trivial rfl (fun w_ K_ h_ => OpW.assign (v := str (((((([100, 111, 119, 115, 101, 114, 32, 108] ++ x3) ++ x4) ++ [100, 111, 119, 115, 101, 114, 32, 108]) ++ x5) ++ x6) ++ x54)) rfl h_) ?_
   exact hD_1_4_8_11_13_14 _ _ ⟨x3, x4, x5, x6, x7, x54, Ext.trans hx_1 hx55, st_1 _ _ _ _ hx55 f_1, st_4 _ _ _ _ hx55 f_4, st_8 _ _ _ _ hx55 f_8, st_11 _ _ _ _ hx55 f_11, st_13 _ _ _ _ hx55 f_13, f56, rfl⟩

 intro hD_1_4_8_11_13
 refine DL.state (fun ρ_ w57 => ∃ (x3 : List UInt8) (x4 : List UInt8) (x5 : List UInt8) (x7 : Sl) (x8 : List UInt8), Ext w1 w57 ∧ F12 () x3 w57 ∧ F18 x3 x4 w57 ∧ F24 (x3, x4) x5 w57 ∧ F36 () x7 w57 ∧ F43 x7 x8 w57 ∧ ρ_ 14 = str (((([100, 111, 119, 115, 101, 114, 32, 108] ++ x3) ++ x4) ++ [100, 111, 119, 115, 101, 114, 32, 108]) ++ x5) ∧ ρ_ 15 = .int .u64 p0 ∧ ρ_ 19 = str x8) 4 #[T,T,T,T,T,T,T,T,T,T,T,F,F,T,T,F,F] ?_ ?_
 ·rintro ρ_ w57 ⟨x3, x4, x5, x7, x8, hx_1, f_1, f_4, f_8, f_13, f_14, e_14, e_15, e_19⟩
  refine DL.branch [11] (by kernel_rfl) rfl ?_
  refine all_cons ?_ (all_nil)
  ·clear h
   have h := run_11 (x3, x4, x5) w57 hx_1 ⟨f_1, f_4, f_8⟩
   refine DLop.execS (listed' := #[T,T,T,T,T,T,T,T,T,T,T,T,F,T,T,F,F]) rfl rfl trivial rfl (OpW.callR (al := [.int .u64 p0]) Try.func67 fb_67 fn_67 (by simp only [List.map_cons, List.map_nil, ev, upd, Nat.beq, cond_false, cond_true, e_15]) h (fun x58 w59 h => ?_))
   obtain ⟨hx60, f61⟩ := h
   refine ⟨(fun h_ => absurd h_ (by decide)), ?_⟩
   have h_c := c49 x3 x4 x5 x58 _ (Ext.trans hx_1 hx60) (st_1 _ _ _ _ hx60 f_1) (st_4 _ _ _ _ hx60 f_4) (st_8 _ _ _ _ hx60 f_8) f61
   have hq_ := h_c
   refine DL.takeP (listed' := #[T,T,T,T,T,T,T,T,T,T,T,T,T,T,T,F,F]) (v := str ((((([100, 111, 119, 115, 101, 114, 32, 108] ++ x3) ++ x4) ++ [100, 111, 119, 115, 101, 114, 32, 108]) ++ x5) ++ x58)) 12 rfl rfl (by kernel_rfl) rfl trivial rfl (fun w_ K_ h_ => OpW.strAdd e_14 rfl hq_ h_) ?_
   have h_c := c50 x3 x4 x5 x58 x7 x8 _ (Ext.trans hx_1 hx60) (st_1 _ _ _ _ hx60 f_1) (st_4 _ _ _ _ hx60 f_4) (st_8 _ _ _ _ hx60 f_8) f61 (st_13 _ _ _ _ hx60 f_13) (st_14 _ _ _ _ hx60 f_14)
   have hq_ := h_c
   refine DL.takeP (listed' := #[T,T,T,T,T,T,T,T,T,T,T,T,T,T,T,T,F]) (v := str (((((([100, 111, 119, 115, 101, 114, 32, 108] ++ x3) ++ x4) ++ [100, 111, 119, 115, 101, 114, 32, 108]) ++ x5) ++ x58) ++ x8)) 15 rfl rfl (by kernel_rfl) rfl trivial rfl (fun w_ K_ h_ => OpW.strAdd rfl e_19 hq_ h_) ?_
   refine DL.takeP (listed' := #[T,T,T,T,T,T,T,T,T,T,T,T,T,T,T,T,T]) (v := str (((((([100, 111, 119, 115, 101, 114, 32, 108] ++ x3) ++ x4) ++ [100, 111, 119, 115, 101, 114, 32, 108]) ++ x5) ++ x58) ++ x8)) 16 rfl rfl (by kernel_rfl) rfl trivial rfl (fun w_ K_ h_ => OpW.assign (v := str (((((([100, 111, 119, 115, 101, 114, 32, 108] ++ x3) ++ x4) ++ [100, 111, 119, 115, 101, 114, 32, 108]) ++ x5) ++ x58) ++ x8)) rfl h_) ?_
   exact hD_1_4_8_11_13_14 _ _ ⟨x3, x4, x5, x58, x7, x8, Ext.trans hx_1 hx60, st_1 _ _ _ _ hx60 f_1, st_4 _ _ _ _ hx60 f_4, st_8 _ _ _ _ hx60 f_8, f61, st_13 _ _ _ _ hx60 f_13, st_14 _ _ _ _ hx60 f_14, rfl⟩

 intro hD_1_4_8_13_14
 refine DL.state (fun ρ_ w62 => ∃ (x3 : List UInt8) (x4 : List UInt8) (x5 : List UInt8) (x6 : List UInt8), Ext w1 w62 ∧ F12 () x3 w62 ∧ F18 x3 x4 w62 ∧ F24 (x3, x4) x5 w62 ∧ F30 (x3, x4, x5) x6 w62 ∧ ρ_ 17 = str ((((([100, 111, 119, 115, 101, 114, 32, 108] ++ x3) ++ x4) ++ [100, 111, 119, 115, 101, 114, 32, 108]) ++ x5) ++ x6)) 4 #[T,T,T,T,T,T,T,T,T,T,T,T,T,F,F,F,F] ?_ ?_
 ·rintro ρ_ w62 ⟨x3, x4, x5, x6, hx_1, f_1, f_4, f_8, f_11, e_17⟩
  refine DL.branch [13] (by kernel_rfl) rfl ?_
  refine all_cons ?_ (all_nil)
  ·clear h
   have h := run_13 () w62 hx_1 trivial
   obtain ⟨h1, h2, h3, h4, h⟩ := h
   obtain ⟨b63, hb63_⟩ : ∃ b_, b_ = w62.heap.size := ⟨_, rfl⟩
   obtain ⟨w64, hw64_⟩ : ∃ w_, w_ = w62.alloc (.cells (List.replicate (Int.toNat 464 * 1) (Value.int .u8 0)).toArray 5) := ⟨_, rfl⟩
   have h := h b63 w64 hb63_ hw64_
   obtain ⟨x65, hx65_⟩ : ∃ s_ : Sl, s_ = ⟨some ⟨b63, 0, none⟩, Int.toNat 464, Int.toNat 464⟩ := ⟨_, rfl⟩
   rw [← hx65_] at h
   refine DLop.execS (listed' := #[T,T,T,T,T,T,T,T,T,T,T,T,T,T,F,F,F]) rfl rfl trivial rfl (OpW.makeSliceE mk_39 (by decide) rfl rfl h1 h2 h3 h4 hb63_ hw64_ hx65_ ?_)
   obtain ⟨hx66, f67⟩ := h
   refine ⟨(fun h_ => absurd h_ (by decide)), ?_⟩
   exact hD_1_4_8_11_13 _ _ ⟨x3, x4, x5, x6, x65, Ext.trans hx_1 hx66, st_1 _ _ _ _ hx66 f_1, st_4 _ _ _ _ hx66 f_4, st_8 _ _ _ _ hx66 f_8, st_11 _ _ _ _ hx66 f_11, f67, e_17, rfl⟩

 intro hD_1_4_8_11
 refine DL.state (fun ρ_ w68 => ∃ (x3 : List UInt8) (x4 : List UInt8) (x5 : List UInt8) (x7 : Sl), Ext w1 w68 ∧ F12 () x3 w68 ∧ F18 x3 x4 w68 ∧ F24 (x3, x4) x5 w68 ∧ F36 () x7 w68 ∧ ρ_ 14 = str (((([100, 111, 119, 115, 101, 114, 32, 108] ++ x3) ++ x4) ++ [100, 111, 119, 115, 101, 114, 32, 108]) ++ x5) ∧ ρ_ 15 = .int .u64 p0 ∧ ρ_ 18 = Sl.v x7) 5 #[T,T,T,T,T,T,T,T,T,T,T,F,F,T,F,F,F] ?_ ?_
 ·rintro ρ_ w68 ⟨x3, x4, x5, x7, hx_1, f_1, f_4, f_8, f_13, e_14, e_15, e_18⟩
  refine DL.branch [11, 14] (by kernel_rfl) rfl ?_
  refine all_cons ?_ (all_cons ?_ (all_nil))
  ·clear h
   have h := run_11 (x3, x4, x5) w68 hx_1 ⟨f_1, f_4, f_8⟩
   refine DLop.execS (listed' := #[T,T,T,T,T,T,T,T,T,T,T,T,F,T,F,F,F]) rfl rfl trivial rfl (OpW.callR (al := [.int .u64 p0]) Try.func67 fb_67 fn_67 (by simp only [List.map_cons, List.map_nil, ev, upd, Nat.beq, cond_false, cond_true, e_15]) h (fun x69 w70 h => ?_))
   obtain ⟨hx71, f72⟩ := h
   refine ⟨(fun h_ => absurd h_ (by decide)), ?_⟩
   have h_c := c49 x3 x4 x5 x69 _ (Ext.trans hx_1 hx71) (st_1 _ _ _ _ hx71 f_1) (st_4 _ _ _ _ hx71 f_4) (st_8 _ _ _ _ hx71 f_8) f72
   have hq_ := h_c
   refine DL.takeP (listed' := #[T,T,T,T,T,T,T,T,T,T,T,T,T,T,F,F,F]) (v := str ((((([100, 111, 119, 115, 101, 114, 32, 108] ++ x3) ++ x4) ++ [100, 111, 119, 115, 101, 114, 32, 108]) ++ x5) ++ x69)) 12 rfl rfl (by kernel_rfl) rfl trivial rfl (fun w_ K_ h_ => OpW.strAdd e_14 rfl hq_ h_) ?_
   exact hD_1_4_8_11_13 _ _ ⟨x3, x4, x5, x69, x7, Ext.trans hx_1 hx71, st_1 _ _ _ _ hx71 f_1, st_4 _ _ _ _ hx71 f_4, st_8 _ _ _ _ hx71 f_8, f72, st_13 _ _ _ _ hx71 f_13, rfl, e_18⟩
  ·clear h
   have h := run_14 x7 w68 hx_1 f_13
   obtain ⟨x73, h1, h2, h⟩ := h
   refine DLop.execS (listed' := #[T,T,T,T,T,T,T,T,T,T,T,F,F,T,T,F,F]) rfl rfl trivial rfl (OpW.b2s bsl_39 str_9 e_18 h1 h2 ?_)
   obtain ⟨hx74, f75⟩ := h
   refine ⟨(fun h_ => absurd h_ (by decide)), ?_⟩
   exact hD_1_4_8_13_14 _ _ ⟨x3, x4, x5, x7, x73, Ext.trans hx_1 hx74, st_1 _ _ _ _ hx74 f_1, st_4 _ _ _ _ hx74 f_4, st_8 _ _ _ _ hx74 f_8, st_13 _ _ _ _ hx74 f_13, f75, e_14, e_15, rfl⟩

 intro hD_1_4_8_13
 refine DL.state (fun ρ_ w76 => ∃ (x3 : List UInt8) (x4 : List UInt8) (x7 : Sl) (x8 : List UInt8), Ext w1 w76 ∧ F12 () x3 w76 ∧ F18 x3 x4 w76 ∧ F36 () x7 w76 ∧ F43 x7 x8 w76 ∧ ρ_ 11 = str ((([100, 111, 119, 115, 101, 114, 32, 108] ++ x3) ++ x4) ++ [100, 111, 119, 115, 101, 114, 32, 108]) ∧ ρ_ 12 = .int .u64 p1 ∧ ρ_ 15 = .int .u64 p0 ∧ ρ_ 19 = str x8) 6 #[T,T,T,T,T,T,T,T,F,F,T,F,F,T,T,F,F] ?_ ?_
 ·rintro ρ_ w76 ⟨x3, x4, x7, x8, hx_1, f_1, f_4, f_13, f_14, e_11, e_12, e_15, e_19⟩
  refine DL.branch [8] (by kernel_rfl) rfl ?_
  refine all_cons ?_ (all_nil)
  ·clear h
   have h := run_8 (x3, x4) w76 hx_1 ⟨f_1, f_4⟩
   refine DLop.execS (listed' := #[T,T,T,T,T,T,T,T,T,F,T,F,F,T,T,F,F]) rfl rfl trivial rfl (OpW.callR (al := [.int .u64 p1]) Try.func67 fb_67 fn_67 (by simp only [List.map_cons, List.map_nil, ev, upd, Nat.beq, cond_false, cond_true, e_12]) h (fun x77 w78 h => ?_))
   obtain ⟨hx79, f80⟩ := h
   refine ⟨(fun h_ => absurd h_ (by decide)), ?_⟩
   have h_c := c48 x3 x4 x77 _ (Ext.trans hx_1 hx79) (st_1 _ _ _ _ hx79 f_1) (st_4 _ _ _ _ hx79 f_4) f80
   have hq_ := h_c
   refine DL.takeP (listed' := #[T,T,T,T,T,T,T,T,T,T,T,F,F,T,T,F,F]) (v := str (((([100, 111, 119, 115, 101, 114, 32, 108] ++ x3) ++ x4) ++ [100, 111, 119, 115, 101, 114, 32, 108]) ++ x77)) 9 rfl rfl (by kernel_rfl) rfl trivial rfl (fun w_ K_ h_ => OpW.strAdd e_11 rfl hq_ h_) ?_
   exact hD_1_4_8_13_14 _ _ ⟨x3, x4, x77, x7, x8, Ext.trans hx_1 hx79, st_1 _ _ _ _ hx79 f_1, st_4 _ _ _ _ hx79 f_4, f80, st_13 _ _ _ _ hx79 f_13, st_14 _ _ _ _ hx79 f_14, rfl, e_15, e_19⟩

 intro hD_1_4_13_14
 refine DL.state (fun ρ_ w81 => ∃ (x3 : List UInt8) (x4 : List UInt8) (x5 : List UInt8), Ext w1 w81 ∧ F12 () x3 w81 ∧ F18 x3 x4 w81 ∧ F24 (x3, x4) x5 w81 ∧ ρ_ 14 = str (((([100, 111, 119, 115, 101, 114, 32, 108] ++ x3) ++ x4) ++ [100, 111, 119, 115, 101, 114, 32, 108]) ++ x5) ∧ ρ_ 15 = .int .u64 p0) 6 #[T,T,T,T,T,T,T,T,T,T,T,F,F,F,F,F,F] ?_ ?_
 ·rintro ρ_ w81 ⟨x3, x4, x5, hx_1, f_1, f_4, f_8, e_14, e_15⟩
  refine DL.branch [11, 13] (by kernel_rfl) rfl ?_
  refine all_cons ?_ (all_cons ?_ (all_nil))
  ·clear h
   have h := run_11 (x3, x4, x5) w81 hx_1 ⟨f_1, f_4, f_8⟩
   refine DLop.execS (listed' := #[T,T,T,T,T,T,T,T,T,T,T,T,F,F,F,F,F]) rfl rfl trivial rfl (OpW.callR (al := [.int .u64 p0]) Try.func67 fb_67 fn_67 (by simp only [List.map_cons, List.map_nil, ev, upd, Nat.beq, cond_false, cond_true, e_15]) h (fun x82 w83 h => ?_))
   obtain ⟨hx84, f85⟩ := h
   refine ⟨(fun h_ => absurd h_ (by decide)), ?_⟩
   have h_c := c49 x3 x4 x5 x82 _ (Ext.trans hx_1 hx84) (st_1 _ _ _ _ hx84 f_1) (st_4 _ _ _ _ hx84 f_4) (st_8 _ _ _ _ hx84 f_8) f85
   have hq_ := h_c
   refine DL.takeP (listed' := #[T,T,T,T,T,T,T,T,T,T,T,T,T,F,F,F,F]) (v := str ((((([100, 111, 119, 115, 101, 114, 32, 108] ++ x3) ++ x4) ++ [100, 111, 119, 115, 101, 114, 32, 108]) ++ x5) ++ x82)) 12 rfl rfl (by kernel_rfl) rfl trivial rfl (fun w_ K_ h_ => OpW.strAdd e_14 rfl hq_ h_) ?_
   exact hD_1_4_8_11 _ _ ⟨x3, x4, x5, x82, Ext.trans hx_1 hx84, st_1 _ _ _ _ hx84 f_1, st_4 _ _ _ _ hx84 f_4, st_8 _ _ _ _ hx84 f_8, f85, rfl⟩
  ·clear h
   have h := run_13 () w81 hx_1 trivial
   obtain ⟨h1, h2, h3, h4, h⟩ := h
   obtain ⟨b86, hb86_⟩ : ∃ b_, b_ = w81.heap.size := ⟨_, rfl⟩
   obtain ⟨w87, hw87_⟩ : ∃ w_, w_ = w81.alloc (.cells (List.replicate (Int.toNat 464 * 1) (Value.int .u8 0)).toArray 5) := ⟨_, rfl⟩
   have h := h b86 w87 hb86_ hw87_
   obtain ⟨x88, hx88_⟩ : ∃ s_ : Sl, s_ = ⟨some ⟨b86, 0, none⟩, Int.toNat 464, Int.toNat 464⟩ := ⟨_, rfl⟩
   rw [← hx88_] at h
   refine DLop.execS (listed' := #[T,T,T,T,T,T,T,T,T,T,T,F,F,T,F,F,F]) rfl rfl trivial rfl (OpW.makeSliceE mk_39 (by decide) rfl rfl h1 h2 h3 h4 hb86_ hw87_ hx88_ ?_)
   obtain ⟨hx89, f90⟩ := h
   refine ⟨(fun h_ => absurd h_ (by decide)), ?_⟩
   exact hD_1_4_8_13 _ _ ⟨x3, x4, x5, x88, Ext.trans hx_1 hx89, st_1 _ _ _ _ hx89 f_1, st_4 _ _ _ _ hx89 f_4, st_8 _ _ _ _ hx89 f_8, f90, e_14, e_15, rfl⟩

 intro hD_1_4_8
 refine DL.state (fun ρ_ w91 => ∃ (x3 : List UInt8) (x4 : List UInt8) (x7 : Sl), Ext w1 w91 ∧ F12 () x3 w91 ∧ F18 x3 x4 w91 ∧ F36 () x7 w91 ∧ ρ_ 11 = str ((([100, 111, 119, 115, 101, 114, 32, 108] ++ x3) ++ x4) ++ [100, 111, 119, 115, 101, 114, 32, 108]) ∧ ρ_ 12 = .int .u64 p1 ∧ ρ_ 15 = .int .u64 p0 ∧ ρ_ 18 = Sl.v x7) 7 #[T,T,T,T,T,T,T,T,F,F,T,F,F,T,F,F,F] ?_ ?_
 ·rintro ρ_ w91 ⟨x3, x4, x7, hx_1, f_1, f_4, f_13, e_11, e_12, e_15, e_18⟩
  refine DL.branch [8, 14] (by kernel_rfl) rfl ?_
  refine all_cons ?_ (all_cons ?_ (all_nil))
  ·clear h
   have h := run_8 (x3, x4) w91 hx_1 ⟨f_1, f_4⟩
   refine DLop.execS (listed' := #[T,T,T,T,T,T,T,T,T,F,T,F,F,T,F,F,F]) rfl rfl trivial rfl (OpW.callR (al := [.int .u64 p1]) Try.func67 fb_67 fn_67 (by simp only [List.map_cons, List.map_nil, ev, upd, Nat.beq, cond_false, cond_true, e_12]) h (fun x92 w93 h => ?_))
   obtain ⟨hx94, f95⟩ := h
   refine ⟨(fun h_ => absurd h_ (by decide)), ?_⟩
   have h_c := c48 x3 x4 x92 _ (Ext.trans hx_1 hx94) (st_1 _ _ _ _ hx94 f_1) (st_4 _ _ _ _ hx94 f_4) f95
   have hq_ := h_c
   refine DL.takeP (listed' := #[T,T,T,T,T,T,T,T,T,T,T,F,F,T,F,F,F]) (v := str (((([100, 111, 119, 115, 101, 114, 32, 108] ++ x3) ++ x4) ++ [100, 111, 119, 115, 101, 114, 32, 108]) ++ x92)) 9 rfl rfl (by kernel_rfl) rfl trivial rfl (fun w_ K_ h_ => OpW.strAdd e_11 rfl hq_ h_) ?_
   exact hD_1_4_8_13 _ _ ⟨x3, x4, x92, x7, Ext.trans hx_1 hx94, st_1 _ _ _ _ hx94 f_1, st_4 _ _ _ _ hx94 f_4, f95, st_13 _ _ _ _ hx94 f_13, rfl, e_15, e_18⟩
  ·clear h
   have h := run_14 x7 w91 hx_1 f_13
   obtain ⟨x96, h1, h2, h⟩ := h
   refine DLop.execS (listed' := #[T,T,T,T,T,T,T,T,F,F,T,F,F,T,T,F,F]) rfl rfl trivial rfl (OpW.b2s bsl_39 str_9 e_18 h1 h2 ?_)
   obtain ⟨hx97, f98⟩ := h
   refine ⟨(fun h_ => absurd h_ (by decide)), ?_⟩
   exact hD_1_4_13_14 _ _ ⟨x3, x4, x7, x96, Ext.trans hx_1 hx97, st_1 _ _ _ _ hx97 f_1, st_4 _ _ _ _ hx97 f_4, st_13 _ _ _ _ hx97 f_13, f98, e_11, e_12, e_15, rfl⟩

 intro hD_1_4_13
 refine DL.state (fun ρ_ w99 => ∃ (x3 : List UInt8) (x7 : Sl) (x8 : List UInt8), Ext w1 w99 ∧ F12 () x3 w99 ∧ F36 () x7 w99 ∧ F43 x7 x8 w99 ∧ ρ_ 7 = str ([100, 111, 119, 115, 101, 114, 32, 108] ++ x3) ∧ ρ_ 8 = .int .u64 p1 ∧ ρ_ 12 = .int .u64 p1 ∧ ρ_ 15 = .int .u64 p0 ∧ ρ_ 19 = str x8) 9 #[T,T,T,T,F,F,F,T,F,F,T,F,F,T,T,F,F] ?_ ?_
 ·rintro ρ_ w99 ⟨x3, x7, x8, hx_1, f_1, f_13, f_14, e_7, e_8, e_12, e_15, e_19⟩
  refine DL.branch [4] (by kernel_rfl) rfl ?_
  refine all_cons ?_ (all_nil)
  ·clear h
   have h := run_4 x3 w99 hx_1 f_1
   refine DLop.execS (listed' := #[T,T,T,T,T,F,F,T,F,F,T,F,F,T,T,F,F]) rfl rfl trivial rfl (OpW.callR (al := [.int .u64 p1]) Try.func67 fb_67 fn_67 (by simp only [List.map_cons, List.map_nil, ev, upd, Nat.beq, cond_false, cond_true, e_8]) h (fun x100 w101 h => ?_))
   obtain ⟨hx102, f103⟩ := h
   refine ⟨(fun h_ => absurd h_ (by decide)), ?_⟩
   have h_c := c46 x3 x100 _ (Ext.trans hx_1 hx102) (st_1 _ _ _ _ hx102 f_1) f103
   have hq_ := h_c
   refine DL.takeP (listed' := #[T,T,T,T,T,T,F,T,F,F,T,F,F,T,T,F,F]) (v := str (([100, 111, 119, 115, 101, 114, 32, 108] ++ x3) ++ x100)) 5 rfl rfl (by kernel_rfl) rfl trivial rfl (fun w_ K_ h_ => OpW.strAdd e_7 rfl hq_ h_) ?_
   have h_c := c47 x3 x100 _ (Ext.trans hx_1 hx102) (st_1 _ _ _ _ hx102 f_1) f103
   have hq_ := h_c
   refine DL.takeP (listed' := #[T,T,T,T,T,T,T,T,F,F,T,F,F,T,T,F,F]) (v := str ((([100, 111, 119, 115, 101, 114, 32, 108] ++ x3) ++ x100) ++ [100, 111, 119, 115, 101, 114, 32, 108])) 6 rfl rfl (by kernel_rfl) rfl trivial rfl (fun w_ K_ h_ => OpW.strAdd rfl rfl hq_ h_) ?_
   exact hD_1_4_13_14 _ _ ⟨x3, x100, x7, x8, Ext.trans hx_1 hx102, st_1 _ _ _ _ hx102 f_1, f103, st_13 _ _ _ _ hx102 f_13, st_14 _ _ _ _ hx102 f_14, rfl, e_12, e_15, e_19⟩

 intro hD_1_13_14
 refine DL.state (fun ρ_ w104 => ∃ (x3 : List UInt8) (x4 : List UInt8), Ext w1 w104 ∧ F12 () x3 w104 ∧ F18 x3 x4 w104 ∧ ρ_ 11 = str ((([100, 111, 119, 115, 101, 114, 32, 108] ++ x3) ++ x4) ++ [100, 111, 119, 115, 101, 114, 32, 108]) ∧ ρ_ 12 = .int .u64 p1 ∧ ρ_ 15 = .int .u64 p0) 8 #[T,T,T,T,T,T,T,T,F,F,T,F,F,F,F,F,F] ?_ ?_
 ·rintro ρ_ w104 ⟨x3, x4, hx_1, f_1, f_4, e_11, e_12, e_15⟩
  refine DL.branch [8, 13] (by kernel_rfl) rfl ?_
  refine all_cons ?_ (all_cons ?_ (all_nil))
  ·clear h
   have h := run_8 (x3, x4) w104 hx_1 ⟨f_1, f_4⟩
   refine DLop.execS (listed' := #[T,T,T,T,T,T,T,T,T,F,T,F,F,F,F,F,F]) rfl rfl trivial rfl (OpW.callR (al := [.int .u64 p1]) Try.func67 fb_67 fn_67 (by simp only [List.map_cons, List.map_nil, ev, upd, Nat.beq, cond_false, cond_true, e_12]) h (fun x105 w106 h => ?_))
   obtain ⟨hx107, f108⟩ := h
   refine ⟨(fun h_ => absurd h_ (by decide)), ?_⟩
   have h_c := c48 x3 x4 x105 _ (Ext.trans hx_1 hx107) (st_1 _ _ _ _ hx107 f_1) (st_4 _ _ _ _ hx107 f_4) f108
   have hq_ := h_c
   refine DL.takeP (listed' := #[T,T,T,T,T,T,T,T,T,T,T,F,F,F,F,F,F]) (v := str (((([100, 111, 119, 115, 101, 114, 32, 108] ++ x3) ++ x4) ++ [100, 111, 119, 115, 101, 114, 32, 108]) ++ x105)) 9 rfl rfl (by kernel_rfl) rfl trivial rfl (fun w_ K_ h_ => OpW.strAdd e_11 rfl hq_ h_) ?_
   exact hD_1_4_8 _ _ ⟨x3, x4, x105, Ext.trans hx_1 hx107, st_1 _ _ _ _ hx107 f_1, st_4 _ _ _ _ hx107 f_4, f108, rfl, e_15⟩
  ·clear h
   have h := run_13 () w104 hx_1 trivial
   obtain ⟨h1, h2, h3, h4, h⟩ := h
   obtain ⟨b109, hb109_⟩ : ∃ b_, b_ = w104.heap.size := ⟨_, rfl⟩
   obtain ⟨w110, hw110_⟩ : ∃ w_, w_ = w104.alloc (.cells (List.replicate (Int.toNat 464 * 1) (Value.int .u8 0)).toArray 5) := ⟨_, rfl⟩
   have h := h b109 w110 hb109_ hw110_
   obtain ⟨x111, hx111_⟩ : ∃ s_ : Sl, s_ = ⟨some ⟨b109, 0, none⟩, Int.toNat 464, Int.toNat 464⟩ := ⟨_, rfl⟩
   rw [← hx111_] at h
   refine DLop.execS (listed' := #[T,T,T,T,T,T,T,T,F,F,T,F,F,T,F,F,F]) rfl rfl trivial rfl (OpW.makeSliceE mk_39 (by decide) rfl rfl h1 h2 h3 h4 hb109_ hw110_ hx111_ ?_)
   obtain ⟨hx112, f113⟩ := h
   refine ⟨(fun h_ => absurd h_ (by decide)), ?_⟩
   exact hD_1_4_13 _ _ ⟨x3, x4, x111, Ext.trans hx_1 hx112, st_1 _ _ _ _ hx112 f_1, st_4 _ _ _ _ hx112 f_4, f113, e_11, e_12, e_15, rfl⟩

 intro hD_1_4
 refine DL.state (fun ρ_ w114 => ∃ (x3 : List UInt8) (x7 : Sl), Ext w1 w114 ∧ F12 () x3 w114 ∧ F36 () x7 w114 ∧ ρ_ 7 = str ([100, 111, 119, 115, 101, 114, 32, 108] ++ x3) ∧ ρ_ 8 = .int .u64 p1 ∧ ρ_ 12 = .int .u64 p1 ∧ ρ_ 15 = .int .u64 p0 ∧ ρ_ 18 = Sl.v x7) 10 #[T,T,T,T,F,F,F,T,F,F,T,F,F,T,F,F,F] ?_ ?_
 ·rintro ρ_ w114 ⟨x3, x7, hx_1, f_1, f_13, e_7, e_8, e_12, e_15, e_18⟩
  refine DL.branch [4, 14] (by kernel_rfl) rfl ?_
  refine all_cons ?_ (all_cons ?_ (all_nil))
  ·clear h
   have h := run_4 x3 w114 hx_1 f_1
   refine DLop.execS (listed' := #[T,T,T,T,T,F,F,T,F,F,T,F,F,T,F,F,F]) rfl rfl trivial rfl (OpW.callR (al := [.int .u64 p1]) Try.func67 fb_67 fn_67 (by simp only [List.map_cons, List.map_nil, ev, upd, Nat.beq, cond_false, cond_true, e_8]) h (fun x115 w116 h => ?_))
   obtain ⟨hx117, f118⟩ := h
   refine ⟨(fun h_ => absurd h_ (by decide)), ?_⟩
   have h_c := c46 x3 x115 _ (Ext.trans hx_1 hx117) (st_1 _ _ _ _ hx117 f_1) f118
   have hq_ := h_c
   refine DL.takeP (listed' := #[T,T,T,T,T,T,F,T,F,F,T,F,F,T,F,F,F]) (v := str (([100, 111, 119, 115, 101, 114, 32, 108] ++ x3) ++ x115)) 5 rfl rfl (by kernel_rfl) rfl trivial rfl (fun w_ K_ h_ => OpW.strAdd e_7 rfl hq_ h_) ?_
   have h_c := c47 x3 x115 _ (Ext.trans hx_1 hx117) (st_1 _ _ _ _ hx117 f_1) f118
   have hq_ := h_c
   refine DL.takeP (listed' := #[T,T,T,T,T,T,T,T,F,F,T,F,F,T,F,F,F]) (v := str ((([100, 111, 119, 115, 101, 114, 32, 108] ++ x3) ++ x115) ++ [100, 111, 119, 115, 101, 114, 32, 108])) 6 rfl rfl (by kernel_rfl) rfl trivial rfl (fun w_ K_ h_ => OpW.strAdd rfl rfl hq_ h_) ?_
   exact hD_1_4_13 _ _ ⟨x3, x115, x7, Ext.trans hx_1 hx117, st_1 _ _ _ _ hx117 f_1, f118, st_13 _ _ _ _ hx117 f_13, rfl, e_12, e_15, e_18⟩
  ·clear h
   have h := run_14 x7 w114 hx_1 f_13
   obtain ⟨x119, h1, h2, h⟩ := h
   refine DLop.execS (listed' := #[T,T,T,T,F,F,F,T,F,F,T,F,F,T,T,F,F]) rfl rfl trivial rfl (OpW.b2s bsl_39 str_9 e_18 h1 h2 ?_)
   obtain ⟨hx120, f121⟩ := h
   refine ⟨(fun h_ => absurd h_ (by decide)), ?_⟩
   exact hD_1_13_14 _ _ ⟨x3, x7, x119, Ext.trans hx_1 hx120, st_1 _ _ _ _ hx120 f_1, st_13 _ _ _ _ hx120 f_13, f121, e_7, e_8, e_12, e_15, rfl⟩

 intro hD_1_13
 refine DL.state (fun ρ_ w122 => ∃ (x7 : Sl) (x8 : List UInt8), Ext w1 w122 ∧ F36 () x7 w122 ∧ F43 x7 x8 w122 ∧ ρ_ 5 = .int .u64 p0 ∧ ρ_ 8 = .int .u64 p1 ∧ ρ_ 12 = .int .u64 p1 ∧ ρ_ 15 = .int .u64 p0 ∧ ρ_ 19 = str x8) 11 #[T,F,F,T,F,F,F,T,F,F,T,F,F,T,T,F,F] ?_ ?_
 ·rintro ρ_ w122 ⟨x7, x8, hx_1, f_13, f_14, e_5, e_8, e_12, e_15, e_19⟩
  refine DL.branch [1] (by kernel_rfl) rfl ?_
  refine all_cons ?_ (all_nil)
  ·clear h
   have h := run_1 () w122 hx_1 trivial
   refine DLop.execS (listed' := #[T,T,F,T,F,F,F,T,F,F,T,F,F,T,T,F,F]) rfl rfl trivial rfl (OpW.callR (al := [.int .u64 p0]) Try.func67 fb_67 fn_67 (by simp only [List.map_cons, List.map_nil, ev, upd, Nat.beq, cond_false, cond_true, e_5]) h (fun x123 w124 h => ?_))
   obtain ⟨hx125, f126⟩ := h
   refine ⟨(fun h_ => absurd h_ (by decide)), ?_⟩
   have h_c := c45 x123 _ (Ext.trans hx_1 hx125) f126
   have hq_ := h_c
   refine DL.takeP (listed' := #[T,T,T,T,F,F,F,T,F,F,T,F,F,T,T,F,F]) (v := str ([100, 111, 119, 115, 101, 114, 32, 108] ++ x123)) 2 rfl rfl (by kernel_rfl) rfl trivial rfl (fun w_ K_ h_ => OpW.strAdd rfl rfl hq_ h_) ?_
   exact hD_1_13_14 _ _ ⟨x123, x7, x8, Ext.trans hx_1 hx125, f126, st_13 _ _ _ _ hx125 f_13, st_14 _ _ _ _ hx125 f_14, rfl, e_8, e_12, e_15, e_19⟩

 intro hD_13_14
 refine DL.state (fun ρ_ w127 => ∃ (x3 : List UInt8), Ext w1 w127 ∧ F12 () x3 w127 ∧ ρ_ 7 = str ([100, 111, 119, 115, 101, 114, 32, 108] ++ x3) ∧ ρ_ 8 = .int .u64 p1 ∧ ρ_ 12 = .int .u64 p1 ∧ ρ_ 15 = .int .u64 p0) 11 #[T,T,T,T,F,F,F,T,F,F,T,F,F,F,F,F,F] ?_ ?_
 ·rintro ρ_ w127 ⟨x3, hx_1, f_1, e_7, e_8, e_12, e_15⟩
  refine DL.branch [4, 13] (by kernel_rfl) rfl ?_
  refine all_cons ?_ (all_cons ?_ (all_nil))
  ·clear h
   have h := run_4 x3 w127 hx_1 f_1
   refine DLop.execS (listed' := #[T,T,T,T,T,F,F,T,F,F,T,F,F,F,F,F,F]) rfl rfl trivial rfl (OpW.callR (al := [.int .u64 p1]) Try.func67 fb_67 fn_67 (by simp only [List.map_cons, List.map_nil, ev, upd, Nat.beq, cond_false, cond_true, e_8]) h (fun x128 w129 h => ?_))
   obtain ⟨hx130, f131⟩ := h
   refine ⟨(fun h_ => absurd h_ (by decide)), ?_⟩
   have h_c := c46 x3 x128 _ (Ext.trans hx_1 hx130) (st_1 _ _ _ _ hx130 f_1) f131
   have hq_ := h_c
   refine DL.takeP (listed' := #[T,T,T,T,T,T,F,T,F,F,T,F,F,F,F,F,F]) (v := str (([100, 111, 119, 115, 101, 114, 32, 108] ++ x3) ++ x128)) 5 rfl rfl (by kernel_rfl) rfl trivial rfl (fun w_ K_ h_ => OpW.strAdd e_7 rfl hq_ h_) ?_
   have h_c := c47 x3 x128 _ (Ext.trans hx_1 hx130) (st_1 _ _ _ _ hx130 f_1) f131
   have hq_ := h_c
   refine DL.takeP (listed' := #[T,T,T,T,T,T,T,T,F,F,T,F,F,F,F,F,F]) (v := str ((([100, 111, 119, 115, 101, 114, 32, 108] ++ x3) ++ x128) ++ [100, 111, 119, 115, 101, 114, 32, 108])) 6 rfl rfl (by kernel_rfl) rfl trivial rfl (fun w_ K_ h_ => OpW.strAdd rfl rfl hq_ h_) ?_
   exact hD_1_4 _ _ ⟨x3, x128, Ext.trans hx_1 hx130, st_1 _ _ _ _ hx130 f_1, f131, rfl, e_12, e_15⟩
  ·clear h
   have h := run_13 () w127 hx_1 trivial
   obtain ⟨h1, h2, h3, h4, h⟩ := h
   obtain ⟨b132, hb132_⟩ : ∃ b_, b_ = w127.heap.size := ⟨_, rfl⟩
   obtain ⟨w133, hw133_⟩ : ∃ w_, w_ = w127.alloc (.cells (List.replicate (Int.toNat 464 * 1) (Value.int .u8 0)).toArray 5) := ⟨_, rfl⟩
   have h := h b132 w133 hb132_ hw133_
   obtain ⟨x134, hx134_⟩ : ∃ s_ : Sl, s_ = ⟨some ⟨b132, 0, none⟩, Int.toNat 464, Int.toNat 464⟩ := ⟨_, rfl⟩
   rw [← hx134_] at h
   refine DLop.execS (listed' := #[T,T,T,T,F,F,F,T,F,F,T,F,F,T,F,F,F]) rfl rfl trivial rfl (OpW.makeSliceE mk_39 (by decide) rfl rfl h1 h2 h3 h4 hb132_ hw133_ hx134_ ?_)
   obtain ⟨hx135, f136⟩ := h
   refine ⟨(fun h_ => absurd h_ (by decide)), ?_⟩
   exact hD_1_13 _ _ ⟨x3, x134, Ext.trans hx_1 hx135, st_1 _ _ _ _ hx135 f_1, f136, e_7, e_8, e_12, e_15, rfl⟩

 intro hD_1
 refine DL.state (fun ρ_ w137 => ∃ (x7 : Sl), Ext w1 w137 ∧ F36 () x7 w137 ∧ ρ_ 5 = .int .u64 p0 ∧ ρ_ 8 = .int .u64 p1 ∧ ρ_ 12 = .int .u64 p1 ∧ ρ_ 15 = .int .u64 p0 ∧ ρ_ 18 = Sl.v x7) 12 #[T,F,F,T,F,F,F,T,F,F,T,F,F,T,F,F,F] ?_ ?_
 ·rintro ρ_ w137 ⟨x7, hx_1, f_13, e_5, e_8, e_12, e_15, e_18⟩
  refine DL.branch [1, 14] (by kernel_rfl) rfl ?_
  refine all_cons ?_ (all_cons ?_ (all_nil))
  ·clear h
   have h := run_1 () w137 hx_1 trivial
   refine DLop.execS (listed' := #[T,T,F,T,F,F,F,T,F,F,T,F,F,T,F,F,F]) rfl rfl trivial rfl (OpW.callR (al := [.int .u64 p0]) Try.func67 fb_67 fn_67 (by simp only [List.map_cons, List.map_nil, ev, upd, Nat.beq, cond_false, cond_true, e_5]) h (fun x138 w139 h => ?_))
   obtain ⟨hx140, f141⟩ := h
   refine ⟨(fun h_ => absurd h_ (by decide)), ?_⟩
   have h_c := c45 x138 _ (Ext.trans hx_1 hx140) f141
   have hq_ := h_c
   refine DL.takeP (listed' := #[T,T,T,T,F,F,F,T,F,F,T,F,F,T,F,F,F]) (v := str ([100, 111, 119, 115, 101, 114, 32, 108] ++ x138)) 2 rfl rfl (by kernel_rfl) rfl trivial rfl (fun w_ K_ h_ => OpW.strAdd rfl rfl hq_ h_) ?_
   exact hD_1_13 _ _ ⟨x138, x7, Ext.trans hx_1 hx140, f141, st_13 _ _ _ _ hx140 f_13, rfl, e_8, e_12, e_15, e_18⟩
  ·clear h
   have h := run_14 x7 w137 hx_1 f_13
   obtain ⟨x142, h1, h2, h⟩ := h
   refine DLop.execS (listed' := #[T,F,F,T,F,F,F,T,F,F,T,F,F,T,T,F,F]) rfl rfl trivial rfl (OpW.b2s bsl_39 str_9 e_18 h1 h2 ?_)
   obtain ⟨hx143, f144⟩ := h
   refine ⟨(fun h_ => absurd h_ (by decide)), ?_⟩
   exact hD_13_14 _ _ ⟨x7, x142, Ext.trans hx_1 hx143, st_13 _ _ _ _ hx143 f_13, f144, e_5, e_8, e_12, e_15, rfl⟩

 intro hD_13
 have hx_0 : Ext w1 w1 := Ext.refl _
 refine DL.branch [1, 13] (by kernel_rfl) rfl ?_
 refine all_cons ?_ (all_cons ?_ (all_nil))
 ·clear h
  have h := run_1 () w1 hx_0 trivial
  refine DLop.execS (listed' := #[T,T,F,T,F,F,F,T,F,F,T,F,F,F,F,F,F]) rfl rfl trivial rfl (OpW.callR (al := [.int .u64 p0]) Try.func67 fb_67 fn_67 rfl h (fun x145 w146 h => ?_))
  obtain ⟨hx147, f148⟩ := h
  refine ⟨(fun h_ => absurd h_ (by decide)), ?_⟩
  have h_c := c45 x145 _ (Ext.trans hx_0 hx147) f148
  have hq_ := h_c
  refine DL.takeP (listed' := #[T,T,T,T,F,F,F,T,F,F,T,F,F,F,F,F,F]) (v := str ([100, 111, 119, 115, 101, 114, 32, 108] ++ x145)) 2 rfl rfl (by kernel_rfl) rfl trivial rfl (fun w_ K_ h_ => OpW.strAdd rfl rfl hq_ h_) ?_
  exact hD_1 _ _ ⟨x145, Ext.trans hx_0 hx147, f148, rfl, rfl, rfl, rfl⟩
 ·clear h
  have h := run_13 () w1 hx_0 trivial
  obtain ⟨h1, h2, h3, h4, h⟩ := h
  obtain ⟨b149, hb149_⟩ : ∃ b_, b_ = w1.heap.size := ⟨_, rfl⟩
  obtain ⟨w150, hw150_⟩ : ∃ w_, w_ = w1.alloc (.cells (List.replicate (Int.toNat 464 * 1) (Value.int .u8 0)).toArray 5) := ⟨_, rfl⟩
  have h := h b149 w150 hb149_ hw150_
  obtain ⟨x151, hx151_⟩ : ∃ s_ : Sl, s_ = ⟨some ⟨b149, 0, none⟩, Int.toNat 464, Int.toNat 464⟩ := ⟨_, rfl⟩
  rw [← hx151_] at h
  refine DLop.execS (listed' := #[T,F,F,T,F,F,F,T,F,F,T,F,F,T,F,F,F]) rfl rfl trivial rfl (OpW.makeSliceE mk_39 (by decide) rfl rfl h1 h2 h3 h4 hb149_ hw150_ hx151_ ?_)
  obtain ⟨hx152, f153⟩ := h
  refine ⟨(fun h_ => absurd h_ (by decide)), ?_⟩
  exact hD_13 _ _ ⟨x151, Ext.trans hx_0 hx152, f153, rfl, rfl, rfl, rfl, rfl⟩

end Go.Proofs.Ytagkcbbbdlmcjaa
end
section
/- The typed readings of the functions, and that the program meets each: written by gen.py (a program of this session). -/
namespace Go.Proofs.Ytagkcbbbdlmcjaa
open Go.Lift
set_option maxRecDepth 100000 in
set_option maxHeartbeats 4000000 in
theorem s67_calls (K : List UInt8 → World → Prop) (p0 : Int) (w : World) (h : s67 K p0 w) :
  Calls Try.prog 67 #[.int .u64 p0] w (Ret r67 K) := by
 unfold s67 at h
 refine calls_of_CW (n := 19) Try.func67 rfl rfl rfl ?_
 refine CW.seq ?_
 refine CW.region ?_
 refine RL.opS trivial rfl (OpW.assign (v := str []) rfl ?_)
 refine RL.nil ?_
 refine CW.seq ?_
 refine CW.region ?_
 refine RL.opS trivial rfl (OpW.assign (v := str []) rfl ?_)
 refine RL.nil ?_
 refine CW.seq ?_
 refine CW.seq ?_
 refine CW.region ?_
 refine RL.opS trivial rfl (OpW.assign (v := .int .i64 0) rfl ?_)
 refine RL.nil ?_
 refine CW.block ?_
 obtain ⟨I11, mu12, hI, hs⟩ := h
 refine CW.loop (σ := Int × List UInt8 × Int) (fun s1 ρ => ρ 0 = .int .u64 s1.1 ∧ ρ 3 = str s1.2.1 ∧ ρ 4 = .int .i64 s1.2.2) I11 mu12 (p0, [], 0) ⟨rfl, rfl, rfl⟩ hI ?_
 rintro s1 ρ w2 ⟨e4, e5, e6⟩ hI
 have h := hs s1 w2 hI
 clear hs hI
 refine CW.seq ?_
 refine CW.seq ?_
 refine CW.region ?_
 refine RL.opS trivial rfl (OpW.move (v := .int .i64 s1.2.2) e6 ?_)
 refine RL.opS trivial rfl (OpW.bin (k := .i64) (a := s1.2.2) (b := 8) (v := .bool (decide (s1.2.2 < 8))) rfl rfl rfl ?_)
 refine RL.nil ?_
 obtain ⟨ha, hc⟩ := h
 refine CW.cond (b := (decide (s1.2.2 < 8))) rfl (fun hb7 => ?_) (fun hb7 => ?_)
 ·have h := ha hb7; clear ha hc
  refine CW.skip ?_
  refine CW.seq ?_
  refine CW.block ?_
  refine CW.seq ?_
  refine CW.region ?_
  refine RL.opS trivial rfl (OpW.move (v := .int .u64 s1.1) e4 ?_)
  refine RL.opS trivial rfl (OpW.quo (a := s1.1) (b := 256) (v := .int .u64 (Int.tmod s1.1 256)) rfl rfl (by decide) rfl ?_)
  refine RL.opS trivial rfl (OpW.convInt (a := (Int.tmod s1.1 256)) int_25 int_5 rfl ?_)
  obtain ⟨b8, hb8_⟩ : ∃ b_, b_ = w2.heap.size := ⟨_, rfl⟩
  obtain ⟨w9, hw9_⟩ : ∃ w_, w_ = w2.alloc (.cells (List.toArray [.int .u8 (IntKind.u8.wrap (Int.tmod s1.1 256))]) 5) := ⟨_, rfl⟩
  have h := h b8 w9 hb8_ hw9_
  refine RL.opS trivial rfl (OpW.buildSliceE (vs := [(0, .int .u8 (IntKind.u8.wrap (Int.tmod s1.1 256)))]) (cs := [.int .u8 (IntKind.u8.wrap (Int.tmod s1.1 256))]) (by rfl) (by kernel_rfl) hb8_ hw9_ ?_)
  obtain ⟨x10, h1, h2, h⟩ := h
  refine RL.opS trivial rfl (OpW.b2s bsl_39 str_9 rfl h1 h2 ?_)
  refine RL.opS trivial rfl (OpW.move (v := str s1.2.1) e5 ?_)
  obtain ⟨hq_, h⟩ := h
  refine RL.opS trivial rfl (OpW.strAdd rfl rfl hq_ ?_)
  refine RL.opS trivial rfl (OpW.assign (v := str (x10 ++ s1.2.1)) rfl ?_)
  refine RL.nil ?_
  refine CW.region ?_
  refine RL.opS trivial rfl (OpW.move (v := .int .u64 s1.1) e4 ?_)
  refine RL.opS trivial rfl (OpW.quo (a := s1.1) (b := 256) (v := .int .u64 (IntKind.u64.wrap (Int.tdiv s1.1 256))) rfl rfl (by decide) rfl ?_)
  refine RL.opS trivial rfl (OpW.assign (v := .int .u64 (IntKind.u64.wrap (Int.tdiv s1.1 256))) rfl ?_)
  refine RL.nil ?_
  refine CW.region ?_
  refine RL.opS trivial rfl (OpW.move (v := .int .i64 s1.2.2) e6 ?_)
  refine RL.opS trivial rfl (OpW.bin (k := .i64) (a := s1.2.2) (b := 1) (v := .int .i64 (IntKind.i64.wrap (s1.2.2 + 1))) rfl rfl rfl ?_)
  refine RL.opS trivial rfl (OpW.assign (v := .int .i64 (IntKind.i64.wrap (s1.2.2 + 1))) rfl ?_)
  refine RL.nil ?_
  exact ⟨((IntKind.u64.wrap (Int.tdiv s1.1 256)), (x10 ++ s1.2.1), (IntKind.i64.wrap (s1.2.2 + 1))), ⟨rfl, rfl, rfl⟩, h⟩
 ·have h := hc hb7; clear ha hc
  refine CW.exit ?_
  refine CW.seq ?_
  refine CW.region ?_
  refine RL.opS trivial rfl (OpW.move (v := str s1.2.1) e5 ?_)
  refine RL.opS trivial rfl (OpW.assign (v := str s1.2.1) rfl ?_)
  refine RL.nil ?_
  refine CW.ret ?_
  exact ret_intro (res1 rfl rfl) ⟨s1.2.1, rfl, h⟩
end Go.Proofs.Ytagkcbbbdlmcjaa
end
section
/- The typed readings of the functions, and that the program meets each: written by gen.py (a program of this session). -/
namespace Go.Proofs.Ytagkcbbbdlmcjaa
open Go.Lift
set_option maxRecDepth 100000 in
set_option maxHeartbeats 4000000 in
theorem s79_calls (K : Int × Int → World → Prop) (p0 : List UInt8) (p1 : Int) (w : World) (h : s79 K p0 p1 w) :
  Calls Try.prog 79 #[str p0, .int .i64 p1] w (Ret r79 K) := by
 unfold s79 at h
 refine calls_of_CW (n := 53) Try.func79 rfl rfl rfl ?_
 refine CW.seq ?_
 refine CW.region ?_
 refine RL.opS trivial rfl (OpW.assign (v := .int .u64 0) rfl ?_)
 refine RL.opS trivial rfl (OpW.assign (v := .int .i64 0) rfl ?_)
 refine RL.nil ?_
 refine CW.seq ?_
 obtain ⟨w1, hw1_⟩ : ∃ w_, w_ = w.drew := ⟨_, rfl⟩
 have h := h w1 hw1_
 have hx2 : Ext w w1 := by rw [hw1_]; exact Ext.drew _
 refine CW.draws (m := 8) (listed := #[F,F,F,F,F,F,F,F]) mixed [] (Ext w) rfl rfl ?_
 rw [← hw1_]
 refine DL.takeP (listed' := #[T,F,F,F,F,F,F,F]) (v := str p0) 0 rfl rfl (by kernel_rfl) rfl trivial rfl (fun w_ K_ h_ => OpW.move (v := str p0) rfl h_) ?_
 obtain ⟨⟨h1, h2, h3⟩, h⟩ := h
 refine DL.takeP (listed' := #[T,T,F,F,F,F,F,F]) (v := str ((p0.take (Int.toNat 16)).drop (Int.toNat 8))) 1 rfl rfl (by kernel_rfl) rfl trivial rfl (fun w_ K_ h_ => OpW.sliceStr (l := 8) (h := 16) str_9 rfl ⟨_, rfl⟩ ⟨_, rfl⟩ h1 h2 h3 h_) ?_
 refine DL.takeP (listed' := #[T,T,F,T,F,F,F,F]) (v := str p0) 3 rfl rfl (by kernel_rfl) rfl trivial rfl (fun w_ K_ h_ => OpW.move (v := str p0) rfl h_) ?_
 obtain ⟨⟨h1, h2, h3⟩, h⟩ := h
 refine DL.takeP (listed' := #[T,T,F,T,T,F,F,F]) (v := str ((p0.take (Int.toNat 24)).drop (Int.toNat 16))) 4 rfl rfl (by kernel_rfl) rfl trivial rfl (fun w_ K_ h_ => OpW.sliceStr (l := 16) (h := 24) str_9 rfl ⟨_, rfl⟩ ⟨_, rfl⟩ h1 h2 h3 h_) ?_
 refine DL.execS (listed' := #[T,T,T,T,T,F,F,F]) 2 rfl (by kernel_rfl) rfl trivial rfl (OpW.callR (al := [str ((p0.take (Int.toNat 16)).drop (Int.toNat 8))]) Try.func86 fb_86 fn_86 rfl h (fun x3 w4 h => ?_))
 refine ⟨(fun h_ => absurd h_ (by decide)), ?_⟩
 refine DL.execS (listed' := #[T,T,T,T,T,T,F,F]) 5 rfl (by kernel_rfl) rfl trivial rfl (OpW.callR (al := [str ((p0.take (Int.toNat 24)).drop (Int.toNat 16))]) Try.func86 fb_86 fn_86 rfl h (fun x5 w6 h => ?_))
 refine ⟨(fun h_ => absurd h_ (by decide)), ?_⟩
 refine DL.takeP (listed' := #[T,T,T,T,T,T,T,F]) (v := .int .u64 x3) 6 rfl rfl (by kernel_rfl) rfl trivial rfl (fun w_ K_ h_ => OpW.assign (v := .int .u64 x3) rfl h_) ?_
 refine DL.takeP (listed' := #[T,T,T,T,T,T,T,T]) (v := .int .u64 x5) 7 rfl rfl (by kernel_rfl) rfl trivial rfl (fun w_ K_ h_ => OpW.assign (v := .int .u64 x5) rfl h_) ?_
 refine DL.done (by kernel_rfl) ?_
 refine CW.seq ?_
 refine CW.seq ?_
 refine CW.region ?_
 refine RL.opS trivial rfl (OpW.move (v := str p0) rfl ?_)
 obtain ⟨⟨h1, h2, h3⟩, h⟩ := h
 refine RL.opS trivial rfl (OpW.sliceStr (l := 0) (h := 8) str_9 rfl rfl ⟨_, rfl⟩ h1 h2 h3 ?_)
 refine RL.opS trivial rfl (OpW.strCmp (b := !decide (((p0.take (Int.toNat 8)).drop (Int.toNat 0)) = [100, 111, 119, 115, 101, 114, 32, 108])) rfl rfl rfl ?_)
 refine RL.opS trivial rfl (OpW.move (v := .bool (!decide (((p0.take (Int.toNat 8)).drop (Int.toNat 0)) = [100, 111, 119, 115, 101, 114, 32, 108]))) rfl ?_)
 refine jn_elim h ?_; clear h; intro k71 hk72 h
 refine RL.joinAt (A := Bool) 4 (fun s9 ρ => ρ 21 = .bool s9 ∧ ρ 0 = str p0 ∧ ρ 1 = .int .i64 p1 ∧ ρ 6 = .int .u64 x3 ∧ ρ 7 = .int .u64 x5) k71 ?_ ?_
 ·rintro s9 ρ w10 ⟨e11, e12, e13, e14, e15⟩ h
  subst hk72
  dsimp only [List.drop]
  refine RL.opS trivial rfl (OpW.move (v := .bool s9) e11 ?_)
  refine jn_elim h ?_; clear h; intro k69 hk70 h
  refine RL.joinAt (A := Bool) 6 (fun s20 ρ => ρ 28 = .bool s20 ∧ ρ 0 = str p0 ∧ ρ 1 = .int .i64 p1 ∧ ρ 6 = .int .u64 x3 ∧ ρ 7 = .int .u64 x5) k69 ?_ ?_
  ·rintro s20 ρ w21 ⟨e22, e23, e24, e25, e26⟩ h
   subst hk70
   dsimp only [List.drop]
   refine RL.opS trivial rfl (OpW.move (v := .bool s20) e22 ?_)
   refine jn_elim h ?_; clear h; intro k67 hk68 h
   refine RL.joinAt (A := Bool) 6 (fun s31 ρ => ρ 35 = .bool s31 ∧ ρ 1 = .int .i64 p1 ∧ ρ 6 = .int .u64 x3 ∧ ρ 7 = .int .u64 x5) k67 ?_ ?_
   ·rintro s31 ρ w32 ⟨e33, e34, e35, e36⟩ h
    subst hk68
    dsimp only [List.drop]
    refine RL.opS trivial rfl (OpW.move (v := .bool s31) e33 ?_)
    refine jn_elim h ?_; clear h; intro k65 hk66 h
    refine RL.joinAt (A := Bool) 3 (fun s39 ρ => ρ 39 = .bool s39 ∧ ρ 1 = .int .i64 p1 ∧ ρ 6 = .int .u64 x3 ∧ ρ 7 = .int .u64 x5) k65 ?_ ?_
    ·rintro s39 ρ w40 ⟨e41, e42, e43, e44⟩ h
     subst hk66
     dsimp only [List.drop]
     refine RL.opS trivial rfl (OpW.move (v := .bool s39) e41 ?_)
     refine jn_elim h ?_; clear h; intro k63 hk64 h
     refine RL.joinAt (A := Bool) 3 (fun s47 ρ => ρ 43 = .bool s47 ∧ ρ 1 = .int .i64 p1 ∧ ρ 6 = .int .u64 x3 ∧ ρ 7 = .int .u64 x5) k63 ?_ ?_
     ·rintro s47 ρ w48 ⟨e49, e50, e51, e52⟩ h
      subst hk64
      dsimp only [List.drop]
      refine RL.opS trivial rfl (OpW.move (v := .bool s47) e49 ?_)
      refine jn_elim h ?_; clear h; intro k61 hk62 h
      refine RL.joinAt (A := Bool) 5 (fun s55 ρ => ρ 49 = .bool s55 ∧ ρ 6 = .int .u64 x3 ∧ ρ 7 = .int .u64 x5) k61 ?_ ?_
      ·rintro s55 ρ w56 ⟨e57, e58, e59⟩ h
       subst hk62
       dsimp only [List.drop]
       refine RL.nil ?_
       obtain ⟨ha, hc⟩ := h
       refine CW.cond (b := s55) e57 (fun hb60 => ?_) (fun hb60 => ?_)
       ·have h := ha hb60; clear ha hc
        refine CW.seq ?_
        refine CW.region ?_
        refine RL.opS trivial rfl (OpW.assign (v := .int .u64 0) rfl ?_)
        refine RL.opS trivial rfl (OpW.assign (v := .int .i64 0) rfl ?_)
        refine RL.nil ?_
        refine CW.ret ?_
        exact ret_intro (res2 rfl rfl rfl) ⟨(0, 0), rfl, h⟩
       ·have h := hc hb60; clear ha hc
        refine CW.skip ?_
        refine CW.seq ?_
        refine CW.region ?_
        refine RL.opS trivial rfl (OpW.move (v := .int .u64 x3) e58 ?_)
        refine RL.opS trivial rfl (OpW.move (v := .int .u64 x5) e59 ?_)
        refine RL.opS trivial rfl (OpW.convInt (a := x5) int_25 int_3 rfl ?_)
        refine RL.opS trivial rfl (OpW.assign (v := .int .u64 x3) rfl ?_)
        refine RL.opS trivial rfl (OpW.assign (v := .int .i64 (IntKind.i64.wrap x5)) rfl ?_)
        refine RL.nil ?_
        refine CW.ret ?_
        exact ret_intro (res2 rfl rfl rfl) ⟨(x3, (IntKind.i64.wrap x5)), rfl, h⟩
      ·clear hk62
       dsimp only [List.take]
       obtain ⟨ha, hc⟩ := h
       rcases Bool.eq_false_or_eq_true s47 with hb53 | hb53
       ·have h := ha hb53; clear ha hc
        refine RL.skipS (notWanted_of rfl rfl hb53) rfl ?_
        refine RL.skipS (notWanted_of rfl rfl hb53) rfl ?_
        refine RL.skipS (notWanted_of rfl rfl hb53) rfl ?_
        refine RL.skipS (notWanted_of rfl rfl hb53) rfl ?_
        refine RL.opS trivial rfl (OpW.pick (b := true) (v := .bool true) (congrArg Value.bool hb53) rfl ?_)
        refine RL.nil ?_
        exact ⟨true, ⟨rfl, e51, e52⟩, h⟩
       ·have h := hc hb53; clear ha hc
        refine RL.opS (wanted_of rfl rfl hb53) rfl (OpW.move (v := .int .u64 x5) e52 ?_)
        refine RL.opS (wanted_of rfl rfl hb53) rfl (OpW.move (v := .int .i64 p1) e50 ?_)
        refine RL.opS (wanted_of rfl rfl hb53) rfl (OpW.convInt (a := p1) int_3 int_25 rfl ?_)
        refine RL.opS (wanted_of rfl rfl hb53) rfl (OpW.bin (k := .u64) (a := x5) (b := (IntKind.u64.wrap p1)) (v := .bool (decide ((IntKind.u64.wrap p1) < x5))) rfl rfl rfl ?_)
        refine RL.opS trivial rfl (OpW.pick (b := false) (v := .bool (decide ((IntKind.u64.wrap p1) < x5))) (congrArg Value.bool hb53) rfl ?_)
        refine RL.nil ?_
        exact ⟨(decide ((IntKind.u64.wrap p1) < x5)), ⟨rfl, e51, e52⟩, h⟩
     ·clear hk64
      dsimp only [List.take]
      obtain ⟨ha, hc⟩ := h
      rcases Bool.eq_false_or_eq_true s39 with hb45 | hb45
      ·have h := ha hb45; clear ha hc
       refine RL.skipS (notWanted_of rfl rfl hb45) rfl ?_
       refine RL.skipS (notWanted_of rfl rfl hb45) rfl ?_
       refine RL.opS trivial rfl (OpW.pick (b := true) (v := .bool true) (congrArg Value.bool hb45) rfl ?_)
       refine RL.nil ?_
       exact ⟨true, ⟨rfl, e42, e43, e44⟩, h⟩
      ·have h := hc hb45; clear ha hc
       refine RL.opS (wanted_of rfl rfl hb45) rfl (OpW.move (v := .int .u64 x3) e43 ?_)
       refine RL.opS (wanted_of rfl rfl hb45) rfl (OpW.bin (k := .u64) (a := x3) (b := 4611686018427387904) (v := .bool (decide (4611686018427387904 < x3))) rfl rfl rfl ?_)
       refine RL.opS trivial rfl (OpW.pick (b := false) (v := .bool (decide (4611686018427387904 < x3))) (congrArg Value.bool hb45) rfl ?_)
       refine RL.nil ?_
       exact ⟨(decide (4611686018427387904 < x3)), ⟨rfl, e42, e43, e44⟩, h⟩
    ·clear hk66
     dsimp only [List.take]
     obtain ⟨ha, hc⟩ := h
     rcases Bool.eq_false_or_eq_true s31 with hb37 | hb37
     ·have h := ha hb37; clear ha hc
      refine RL.skipS (notWanted_of rfl rfl hb37) rfl ?_
      refine RL.skipS (notWanted_of rfl rfl hb37) rfl ?_
      refine RL.opS trivial rfl (OpW.pick (b := true) (v := .bool true) (congrArg Value.bool hb37) rfl ?_)
      refine RL.nil ?_
      exact ⟨true, ⟨rfl, e34, e35, e36⟩, h⟩
     ·have h := hc hb37; clear ha hc
      refine RL.opS (wanted_of rfl rfl hb37) rfl (OpW.move (v := .int .u64 x3) e35 ?_)
      refine RL.opS (wanted_of rfl rfl hb37) rfl (OpW.bin (k := .u64) (a := x3) (b := 0) (v := .bool (decide (x3 = 0))) rfl rfl rfl ?_)
      refine RL.opS trivial rfl (OpW.pick (b := false) (v := .bool (decide (x3 = 0))) (congrArg Value.bool hb37) rfl ?_)
      refine RL.nil ?_
      exact ⟨(decide (x3 = 0)), ⟨rfl, e34, e35, e36⟩, h⟩
   ·clear hk68
    dsimp only [List.take]
    obtain ⟨ha, hc⟩ := h
    rcases Bool.eq_false_or_eq_true s20 with hb27 | hb27
    ·have h := ha hb27; clear ha hc
     refine RL.skipS (notWanted_of rfl rfl hb27) rfl ?_
     refine RL.skipS (notWanted_of rfl rfl hb27) rfl ?_
     refine RL.skipS (notWanted_of rfl rfl hb27) rfl ?_
     refine RL.skipS (notWanted_of rfl rfl hb27) rfl ?_
     refine RL.skipS (notWanted_of rfl rfl hb27) rfl ?_
     refine RL.opS trivial rfl (OpW.pick (b := true) (v := .bool true) (congrArg Value.bool hb27) rfl ?_)
     refine RL.nil ?_
     exact ⟨true, ⟨rfl, e24, e25, e26⟩, h⟩
    ·have h := hc hb27; clear ha hc
     refine RL.opS (wanted_of rfl rfl hb27) rfl (OpW.move (v := str p0) e23 ?_)
     obtain ⟨⟨h1, h2, h3⟩, h⟩ := h
     refine RL.opS (wanted_of rfl rfl hb27) rfl (OpW.sliceStr (l := 40) (h := 48) str_9 rfl ⟨_, rfl⟩ ⟨_, rfl⟩ h1 h2 h3 ?_)
     refine RL.opS (wanted_of rfl rfl hb27) rfl (OpW.callR (al := [str ((p0.take (Int.toNat 48)).drop (Int.toNat 40))]) Try.func86 fb_86 fn_86 rfl h (fun x29 w30 h => ?_))
     refine RL.opS (wanted_of rfl rfl hb27) rfl (OpW.move (v := .int .u64 x3) e25 ?_)
     refine RL.opS (wanted_of rfl rfl hb27) rfl (OpW.bin (k := .u64) (a := x29) (b := x3) (v := .bool (!decide (x29 = x3))) rfl rfl rfl ?_)
     refine RL.opS trivial rfl (OpW.pick (b := false) (v := .bool (!decide (x29 = x3))) (congrArg Value.bool hb27) rfl ?_)
     refine RL.nil ?_
     exact ⟨(!decide (x29 = x3)), ⟨rfl, e24, e25, e26⟩, h⟩
  ·clear hk70
   dsimp only [List.take]
   obtain ⟨ha, hc⟩ := h
   rcases Bool.eq_false_or_eq_true s9 with hb16 | hb16
   ·have h := ha hb16; clear ha hc
    refine RL.skipS (notWanted_of rfl rfl hb16) rfl ?_
    refine RL.skipS (notWanted_of rfl rfl hb16) rfl ?_
    refine RL.skipS (notWanted_of rfl rfl hb16) rfl ?_
    refine RL.skipS (notWanted_of rfl rfl hb16) rfl ?_
    refine RL.skipS (notWanted_of rfl rfl hb16) rfl ?_
    refine RL.opS trivial rfl (OpW.pick (b := true) (v := .bool true) (congrArg Value.bool hb16) rfl ?_)
    refine RL.nil ?_
    exact ⟨true, ⟨rfl, e12, e13, e14, e15⟩, h⟩
   ·have h := hc hb16; clear ha hc
    refine RL.opS (wanted_of rfl rfl hb16) rfl (OpW.move (v := str p0) e12 ?_)
    obtain ⟨⟨h1, h2, h3⟩, h⟩ := h
    refine RL.opS (wanted_of rfl rfl hb16) rfl (OpW.sliceStr (l := 32) (h := 40) str_9 rfl ⟨_, rfl⟩ ⟨_, rfl⟩ h1 h2 h3 ?_)
    refine RL.opS (wanted_of rfl rfl hb16) rfl (OpW.callR (al := [str ((p0.take (Int.toNat 40)).drop (Int.toNat 32))]) Try.func86 fb_86 fn_86 rfl h (fun x18 w19 h => ?_))
    refine RL.opS (wanted_of rfl rfl hb16) rfl (OpW.move (v := .int .u64 x5) e15 ?_)
    refine RL.opS (wanted_of rfl rfl hb16) rfl (OpW.bin (k := .u64) (a := x18) (b := x5) (v := .bool (!decide (x18 = x5))) rfl rfl rfl ?_)
    refine RL.opS trivial rfl (OpW.pick (b := false) (v := .bool (!decide (x18 = x5))) (congrArg Value.bool hb16) rfl ?_)
    refine RL.nil ?_
    exact ⟨(!decide (x18 = x5)), ⟨rfl, e12, e13, e14, e15⟩, h⟩
 ·clear hk72
  dsimp only [List.take]
  obtain ⟨ha, hc⟩ := h
  rcases Bool.eq_false_or_eq_true (!decide (((p0.take (Int.toNat 8)).drop (Int.toNat 0)) = [100, 111, 119, 115, 101, 114, 32, 108])) with hb7 | hb7
  ·have h := ha hb7; clear ha hc
   refine RL.skipS (notWanted_of rfl rfl hb7) rfl ?_
   refine RL.skipS (notWanted_of rfl rfl hb7) rfl ?_
   refine RL.skipS (notWanted_of rfl rfl hb7) rfl ?_
   refine RL.opS trivial rfl (OpW.pick (b := true) (v := .bool true) (congrArg Value.bool hb7) rfl ?_)
   refine RL.nil ?_
   exact ⟨true, ⟨rfl, rfl, rfl, rfl, rfl⟩, h⟩
  ·have h := hc hb7; clear ha hc
   refine RL.opS (wanted_of rfl rfl hb7) rfl (OpW.move (v := str p0) rfl ?_)
   obtain ⟨⟨h1, h2, h3⟩, h⟩ := h
   refine RL.opS (wanted_of rfl rfl hb7) rfl (OpW.sliceStr (l := 24) (h := 32) str_9 rfl ⟨_, rfl⟩ ⟨_, rfl⟩ h1 h2 h3 ?_)
   refine RL.opS (wanted_of rfl rfl hb7) rfl (OpW.strCmp (b := !decide (((p0.take (Int.toNat 32)).drop (Int.toNat 24)) = [100, 111, 119, 115, 101, 114, 32, 108])) rfl rfl rfl ?_)
   refine RL.opS trivial rfl (OpW.pick (b := false) (v := .bool (!decide (((p0.take (Int.toNat 32)).drop (Int.toNat 24)) = [100, 111, 119, 115, 101, 114, 32, 108]))) (congrArg Value.bool hb7) rfl ?_)
   refine RL.nil ?_
   exact ⟨(!decide (((p0.take (Int.toNat 32)).drop (Int.toNat 24)) = [100, 111, 119, 115, 101, 114, 32, 108])), ⟨rfl, rfl, rfl, rfl, rfl⟩, h⟩
end Go.Proofs.Ytagkcbbbdlmcjaa
end
section
/- The typed readings of the functions, and that the program meets each: written by gen.py (a program of this session). -/
namespace Go.Proofs.Ytagkcbbbdlmcjaa
open Go.Lift
set_option maxRecDepth 100000 in
set_option maxHeartbeats 4000000 in
theorem s81_calls (K : Sl × Int → World → Prop) (p0 : List UInt8) (w : World) (h : s81 K p0 w) :
  Calls Try.prog 81 #[str p0] w (Ret r81 K) := by
 unfold s81 at h
 refine calls_of_CW (n := 60) Try.func81 rfl rfl rfl ?_
 refine CW.seq ?_
 refine CW.region ?_
 refine RL.opS trivial rfl (OpW.assign (v := Sl.v nilSl) rfl ?_)
 refine RL.opS trivial rfl (OpW.assign (v := .int .i64 0) rfl ?_)
 refine RL.nil ?_
 refine CW.seq ?_
 refine CW.region ?_
 refine RL.opS trivial rfl (OpW.assign (v := Sl.v nilSl) rfl ?_)
 refine RL.nil ?_
 refine CW.seq ?_
 refine CW.block ?_
 obtain ⟨I48, mu49, hI, hs⟩ := h
 refine CW.loop (σ := List UInt8 × Sl) (fun s1 ρ => ρ 0 = str s1.1 ∧ ρ 4 = Sl.v s1.2) I48 mu49 (p0, nilSl) ⟨rfl, rfl⟩ hI ?_
 rintro s1 ρ w2 ⟨e4, e5⟩ hI
 have h := hs s1 w2 hI
 clear hs hI
 refine CW.seq ?_
 refine CW.seq ?_
 refine CW.region ?_
 refine RL.opS trivial rfl (OpW.move (v := str s1.1) e4 ?_)
 refine RL.opS trivial rfl (OpW.strCmp (b := !decide (s1.1 = [])) rfl rfl rfl ?_)
 refine RL.nil ?_
 obtain ⟨ha, hc⟩ := h
 refine CW.cond (b := (!decide (s1.1 = []))) rfl (fun hb6 => ?_) (fun hb6 => ?_)
 ·have h := ha hb6; clear ha hc
  refine CW.skip ?_
  refine CW.block ?_
  refine CW.seq ?_
  refine CW.region ?_
  refine RL.opS trivial rfl (OpW.move (v := str s1.1) e4 ?_)
  refine RL.opS trivial rfl (OpW.buildL (vs := [(0, str s1.1)]) (cs := [str s1.1, Value.int .i64 0]) (by rfl) (fun _ => by kernel_rfl) ?_)
  refine RL.opS trivial rfl (OpW.callR (al := [aggv [str s1.1, Value.int .i64 0]]) Try.func87 fb_87 fn_87 rfl h (fun x7 w8 h => ?_))
  refine RL.opS trivial rfl (OpW.move (v := .tuple #[aggv x7.1, .int .u64 x7.2]) rfl ?_)
  refine RL.opS trivial rfl (OpW.extract (v := aggv x7.1) rfl rfl ?_)
  refine RL.opS trivial rfl (OpW.extract (v := .int .u64 x7.2) rfl rfl ?_)
  obtain ⟨hl_b9, ho_b9, h⟩ := h
  obtain ⟨b9, hb9_⟩ : ∃ b_, b_ = w8.heap.size := ⟨_, rfl⟩
  obtain ⟨w10, hw10_⟩ : ∃ w_, w_ = w8.alloc (.cells (List.toArray x7.1) 144) := ⟨_, rfl⟩
  have h := h b9 w10 hb9_ hw10_
  refine RL.opS trivial rfl (OpW.allocZ (b := b9) zero_144 hb9_ ?_)
  refine RL.opN trivial (OpW.storeF (zs := [str [], Value.int .i64 0]) (cs := x7.1) size_144 rfl rfl hl_b9 (by decide) ho_b9 hb9_ hw10_ ?_)
  refine RL.opS trivial rfl (OpW.assign (v := .int .u64 x7.2) rfl ?_)
  refine RL.nil ?_
  refine CW.seq ?_
  refine CW.seq ?_
  refine CW.region ?_
  refine RL.opS trivial rfl (OpW.fieldAddr field_144_1 rfl ?_)
  obtain ⟨x11, h1, h⟩ := h
  refine RL.opS trivial rfl (OpW.load1 (v := .int .i64 x11) one_3 rfl h1 ?_)
  refine RL.opS trivial rfl (OpW.bin (k := .i64) (a := x11) (b := 0) (v := .bool (!decide (x11 = 0))) rfl rfl rfl ?_)
  refine RL.opS trivial rfl (OpW.move (v := .bool (!decide (x11 = 0))) rfl ?_)
  refine jn_elim h ?_; clear h; intro k46 hk47 h
  refine RL.joinAt (A := Bool) 5 (fun s15 ρ => ρ 24 = .bool s15 ∧ ρ 4 = Sl.v s1.2 ∧ ρ 5 = .pointer (some ⟨b9, 0, none⟩) ∧ ρ 6 = .int .u64 x7.2) k46 ?_ ?_
  ·rintro s15 ρ w16 ⟨e17, e18, e19, e20⟩ h
   subst hk47
   dsimp only [List.drop]
   refine RL.opS trivial rfl (OpW.move (v := .bool s15) e17 ?_)
   refine jn_elim h ?_; clear h; intro k44 hk45 h
   refine RL.joinAt (A := Bool) 8 (fun s24 ρ => ρ 33 = .bool s24 ∧ ρ 4 = Sl.v s1.2 ∧ ρ 5 = .pointer (some ⟨b9, 0, none⟩) ∧ ρ 6 = .int .u64 x7.2) k44 ?_ ?_
   ·rintro s24 ρ w25 ⟨e26, e27, e28, e29⟩ h
    subst hk45
    dsimp only [List.drop]
    refine RL.nil ?_
    obtain ⟨ha, hc⟩ := h
    refine CW.cond (b := s24) e26 (fun hb30 => ?_) (fun hb30 => ?_)
    ·have h := ha hb30; clear ha hc
     refine CW.seq ?_
     refine CW.region ?_
     refine RL.opS trivial rfl (OpW.assign (v := Sl.v nilSl) rfl ?_)
     refine RL.opS trivial rfl (OpW.assign (v := .int .i64 7) rfl ?_)
     refine RL.nil ?_
     refine CW.ret ?_
     exact ret_intro (res2 rfl rfl rfl) ⟨(nilSl, 7), rfl, h⟩
    ·have h := hc hb30; clear ha hc
     refine CW.skip ?_
     refine CW.seq ?_
     refine CW.region ?_
     refine RL.opS trivial rfl (OpW.fieldAddr (off := 0) field_144_0 e28 ?_)
     obtain ⟨x31, h1, h⟩ := h
     refine RL.opS trivial rfl (OpW.load1 (v := str x31) one_9 rfl h1 ?_)
     refine RL.opS trivial rfl (OpW.move (v := .int .u64 x7.2) e29 ?_)
     refine RL.opS trivial rfl (OpW.convInt (a := x7.2) int_25 int_3 rfl ?_)
     refine RL.opS trivial rfl (OpW.bin (k := .i64) (a := 4) (b := (IntKind.i64.wrap x7.2)) (v := .int .i64 (IntKind.i64.wrap (4 + (IntKind.i64.wrap x7.2)))) rfl rfl rfl ?_)
     obtain ⟨⟨h1, h2, h3⟩, h⟩ := h
     refine RL.opS trivial rfl (OpW.sliceStr (l := 4) (h := (IntKind.i64.wrap (4 + (IntKind.i64.wrap x7.2)))) str_9 rfl ⟨_, rfl⟩ ⟨_, rfl⟩ h1 h2 h3 ?_)
     refine RL.opS trivial rfl (OpW.assign (v := str ((x31.take (Int.toNat (IntKind.i64.wrap (4 + (IntKind.i64.wrap x7.2))))).drop (Int.toNat 4))) rfl ?_)
     refine RL.nil ?_
     refine CW.seq ?_
     refine CW.seq ?_
     obtain ⟨w32, hw32_⟩ : ∃ w_, w_ = w25.drew := ⟨_, rfl⟩
     have h := h w32 hw32_
     have hx33 : Ext w25 w32 := by rw [hw32_]; exact Ext.drew _
     refine CW.draws (m := 9) (listed := #[F,F,F,F,F,F,F,F,F]) mixed [0, 1, 2, 3, 4, 5, 6, 7, 8] (Ext w25) rfl rfl ?_
     rw [← hw32_]
     refine DL.takeP (listed' := #[T,F,F,F,F,F,F,F,F]) (v := str ((x31.take (Int.toNat (IntKind.i64.wrap (4 + (IntKind.i64.wrap x7.2))))).drop (Int.toNat 4))) 0 rfl rfl (by kernel_rfl) rfl trivial rfl (fun w_ K_ h_ => OpW.move (v := str ((x31.take (Int.toNat (IntKind.i64.wrap (4 + (IntKind.i64.wrap x7.2))))).drop (Int.toNat 4))) rfl h_) ?_
     refine DL.takeP (listed' := #[T,F,T,F,F,F,F,F,F]) (v := str ((x31.take (Int.toNat (IntKind.i64.wrap (4 + (IntKind.i64.wrap x7.2))))).drop (Int.toNat 4))) 2 rfl rfl (by kernel_rfl) rfl trivial rfl (fun w_ K_ h_ => OpW.move (v := str ((x31.take (Int.toNat (IntKind.i64.wrap (4 + (IntKind.i64.wrap x7.2))))).drop (Int.toNat 4))) rfl h_) ?_
     refine DL.takeP (listed' := #[T,F,T,T,F,F,F,F,F]) (v := .int .i64 (((x31.take (Int.toNat (IntKind.i64.wrap (4 + (IntKind.i64.wrap x7.2))))).drop (Int.toNat 4)).length : Int)) 3 rfl rfl (by kernel_rfl) rfl trivial rfl (fun w_ K_ h_ => OpW.lenStr us_9 rfl h_) ?_
     refine DL.takeP (listed' := #[T,F,T,T,F,T,F,F,F]) (v := .pointer (some (Addr.add ⟨b9, 0, none⟩ 0))) 5 rfl rfl (by kernel_rfl) rfl trivial rfl (fun w_ K_ h_ => OpW.fieldAddr (off := 0) field_144_0 e28 h_) ?_
     obtain ⟨x34, h1, h⟩ := h
     refine DL.takeK (listed' := #[T,F,T,T,F,T,T,F,F]) (v := str x34) 6 rfl rfl (by kernel_rfl) (by kernel_rfl) rfl trivial rfl hx33 (fun w_ hS_ K_ h_ => OpW.load1 (v := str x34) one_9 rfl (hS_.cell h1) h_) ?_
     obtain ⟨⟨h1, h2, h3⟩, h⟩ := h
     refine DL.takeP (listed' := #[T,F,T,T,F,T,T,T,F]) (v := str ((x34.take (Int.toNat 4)).drop (Int.toNat 0))) 7 rfl rfl (by kernel_rfl) rfl trivial rfl (fun w_ K_ h_ => OpW.sliceStr (l := 0) (h := 4) str_9 rfl rfl ⟨_, rfl⟩ h1 h2 h3 h_) ?_
     refine DL.execS (listed' := #[T,T,T,T,F,T,T,T,F]) 1 rfl (by kernel_rfl) rfl trivial rfl (OpW.callR (al := [str ((x31.take (Int.toNat (IntKind.i64.wrap (4 + (IntKind.i64.wrap x7.2))))).drop (Int.toNat 4))]) Try.func52 fb_52 fn_52 rfl h (fun x35 w36 h => ?_))
     obtain ⟨hx37, h⟩ := h
     refine ⟨(fun _ _ => hx37), ?_⟩
     obtain ⟨⟨h1, h2, h3⟩, h⟩ := h
     refine DL.takeP (listed' := #[T,T,T,T,T,T,T,T,F]) (v := str ((x35.take (Int.toNat (x35.length : Int))).drop (Int.toNat (((x31.take (Int.toNat (IntKind.i64.wrap (4 + (IntKind.i64.wrap x7.2))))).drop (Int.toNat 4)).length : Int)))) 4 rfl rfl (by kernel_rfl) rfl trivial rfl (fun w_ K_ h_ => OpW.sliceStr (l := (((x31.take (Int.toNat (IntKind.i64.wrap (4 + (IntKind.i64.wrap x7.2))))).drop (Int.toNat 4)).length : Int)) (h := (x35.length : Int)) str_9 rfl ⟨_, rfl⟩ rfl h1 h2 h3 h_) ?_
     refine DL.takeP (listed' := #[T,T,T,T,T,T,T,T,T]) (v := .bool (!decide (((x35.take (Int.toNat (x35.length : Int))).drop (Int.toNat (((x31.take (Int.toNat (IntKind.i64.wrap (4 + (IntKind.i64.wrap x7.2))))).drop (Int.toNat 4)).length : Int))) = ((x34.take (Int.toNat 4)).drop (Int.toNat 0))))) 8 rfl rfl (by kernel_rfl) rfl trivial rfl (fun w_ K_ h_ => OpW.strCmp (b := !decide (((x35.take (Int.toNat (x35.length : Int))).drop (Int.toNat (((x31.take (Int.toNat (IntKind.i64.wrap (4 + (IntKind.i64.wrap x7.2))))).drop (Int.toNat 4)).length : Int))) = ((x34.take (Int.toNat 4)).drop (Int.toNat 0)))) rfl rfl rfl h_) ?_
     refine DL.done (by kernel_rfl) ?_
     obtain ⟨ha, hc⟩ := h
     refine CW.cond (b := (!decide (((x35.take (Int.toNat (x35.length : Int))).drop (Int.toNat (((x31.take (Int.toNat (IntKind.i64.wrap (4 + (IntKind.i64.wrap x7.2))))).drop (Int.toNat 4)).length : Int))) = ((x34.take (Int.toNat 4)).drop (Int.toNat 0))))) rfl (fun hb38 => ?_) (fun hb38 => ?_)
     ·have h := ha hb38; clear ha hc
      refine CW.seq ?_
      refine CW.region ?_
      refine RL.opS trivial rfl (OpW.assign (v := Sl.v nilSl) rfl ?_)
      refine RL.opS trivial rfl (OpW.assign (v := .int .i64 20) rfl ?_)
      refine RL.nil ?_
      refine CW.ret ?_
      exact ret_intro (res2 rfl rfl rfl) ⟨(nilSl, 20), rfl, h⟩
     ·have h := hc hb38; clear ha hc
      refine CW.skip ?_
      refine CW.seq ?_
      refine CW.region ?_
      refine RL.opS trivial rfl (OpW.move (v := Sl.v s1.2) e27 ?_)
      refine RL.opS trivial rfl (OpW.move (v := str ((x31.take (Int.toNat (IntKind.i64.wrap (4 + (IntKind.i64.wrap x7.2))))).drop (Int.toNat 4))) rfl ?_)
      obtain ⟨b39, hb39_⟩ : ∃ b_, b_ = w36.heap.size := ⟨_, rfl⟩
      obtain ⟨w40, hw40_⟩ : ∃ w_, w_ = w36.alloc (.cells (List.toArray [str ((x31.take (Int.toNat (IntKind.i64.wrap (4 + (IntKind.i64.wrap x7.2))))).drop (Int.toNat 4))]) 9) := ⟨_, rfl⟩
      have h := h b39 w40 hb39_ hw40_
      refine RL.opS trivial rfl (OpW.buildSliceE (vs := [(0, str ((x31.take (Int.toNat (IntKind.i64.wrap (4 + (IntKind.i64.wrap x7.2))))).drop (Int.toNat 4)))]) (cs := [str ((x31.take (Int.toNat (IntKind.i64.wrap (4 + (IntKind.i64.wrap x7.2))))).drop (Int.toNat 4))]) (by rfl) (by kernel_rfl) hb39_ hw40_ ?_)
      obtain ⟨x41, w42, hr_, h⟩ := h
      refine RL.opS trivial rfl (OpW.appendL (v := Sl.v x41) rfl hr_ ?_)
      refine RL.opS trivial rfl (OpW.assign (v := Sl.v x41) rfl ?_)
      refine RL.nil ?_
      refine CW.region ?_
      refine RL.opS trivial rfl (OpW.fieldAddr (off := 0) field_144_0 e28 ?_)
      obtain ⟨x43, h1, h⟩ := h
      refine RL.opS trivial rfl (OpW.load1 (v := str x43) one_9 rfl h1 ?_)
      refine RL.opS trivial rfl (OpW.move (v := .int .u64 x7.2) e29 ?_)
      refine RL.opS trivial rfl (OpW.convInt (a := x7.2) int_25 int_3 rfl ?_)
      refine RL.opS trivial rfl (OpW.bin (k := .i64) (a := 4) (b := (IntKind.i64.wrap x7.2)) (v := .int .i64 (IntKind.i64.wrap (4 + (IntKind.i64.wrap x7.2)))) rfl rfl rfl ?_)
      obtain ⟨⟨h1, h2, h3⟩, h⟩ := h
      refine RL.opS trivial rfl (OpW.sliceStr (l := (IntKind.i64.wrap (4 + (IntKind.i64.wrap x7.2)))) (h := (x43.length : Int)) str_9 rfl ⟨_, rfl⟩ rfl h1 h2 h3 ?_)
      refine RL.opS trivial rfl (OpW.assign (v := str ((x43.take (Int.toNat (x43.length : Int))).drop (Int.toNat (IntKind.i64.wrap (4 + (IntKind.i64.wrap x7.2)))))) rfl ?_)
      refine RL.nil ?_
      exact ⟨(((x43.take (Int.toNat (x43.length : Int))).drop (Int.toNat (IntKind.i64.wrap (4 + (IntKind.i64.wrap x7.2))))), x41), ⟨rfl, rfl⟩, h⟩
   ·clear hk45
    dsimp only [List.take]
    obtain ⟨ha, hc⟩ := h
    rcases Bool.eq_false_or_eq_true s15 with hb21 | hb21
    ·have h := ha hb21; clear ha hc
     refine RL.skipS (notWanted_of rfl rfl hb21) rfl ?_
     refine RL.skipS (notWanted_of rfl rfl hb21) rfl ?_
     refine RL.skipS (notWanted_of rfl rfl hb21) rfl ?_
     refine RL.skipS (notWanted_of rfl rfl hb21) rfl ?_
     refine RL.skipS (notWanted_of rfl rfl hb21) rfl ?_
     refine RL.skipS (notWanted_of rfl rfl hb21) rfl ?_
     refine RL.skipS (notWanted_of rfl rfl hb21) rfl ?_
     refine RL.opS trivial rfl (OpW.pick (b := true) (v := .bool true) (congrArg Value.bool hb21) rfl ?_)
     refine RL.nil ?_
     exact ⟨true, ⟨rfl, e18, e19, e20⟩, h⟩
    ·have h := hc hb21; clear ha hc
     refine RL.opS (wanted_of rfl rfl hb21) rfl (OpW.move (v := .int .u64 x7.2) e20 ?_)
     refine RL.opS (wanted_of rfl rfl hb21) rfl (OpW.fieldAddr (off := 0) field_144_0 e19 ?_)
     obtain ⟨x23, h1, h⟩ := h
     refine RL.opS (wanted_of rfl rfl hb21) rfl (OpW.load1 (v := str x23) one_9 rfl h1 ?_)
     refine RL.opS (wanted_of rfl rfl hb21) rfl (OpW.lenStr us_9 rfl ?_)
     refine RL.opS (wanted_of rfl rfl hb21) rfl (OpW.bin (k := .i64) (a := (x23.length : Int)) (b := 4) (v := .int .i64 (IntKind.i64.wrap ((x23.length : Int) - 4))) rfl rfl rfl ?_)
     refine RL.opS (wanted_of rfl rfl hb21) rfl (OpW.convInt (a := (IntKind.i64.wrap ((x23.length : Int) - 4))) int_3 int_25 rfl ?_)
     refine RL.opS (wanted_of rfl rfl hb21) rfl (OpW.bin (k := .u64) (a := x7.2) (b := (IntKind.u64.wrap (IntKind.i64.wrap ((x23.length : Int) - 4)))) (v := .bool (decide ((IntKind.u64.wrap (IntKind.i64.wrap ((x23.length : Int) - 4))) < x7.2))) rfl rfl rfl ?_)
     refine RL.opS trivial rfl (OpW.pick (b := false) (v := .bool (decide ((IntKind.u64.wrap (IntKind.i64.wrap ((x23.length : Int) - 4))) < x7.2))) (congrArg Value.bool hb21) rfl ?_)
     refine RL.nil ?_
     exact ⟨(decide ((IntKind.u64.wrap (IntKind.i64.wrap ((x23.length : Int) - 4))) < x7.2)), ⟨rfl, e18, e19, e20⟩, h⟩
  ·clear hk47
   dsimp only [List.take]
   obtain ⟨ha, hc⟩ := h
   rcases Bool.eq_false_or_eq_true (!decide (x11 = 0)) with hb12 | hb12
   ·have h := ha hb12; clear ha hc
    refine RL.skipS (notWanted_of rfl rfl hb12) rfl ?_
    refine RL.skipS (notWanted_of rfl rfl hb12) rfl ?_
    refine RL.skipS (notWanted_of rfl rfl hb12) rfl ?_
    refine RL.skipS (notWanted_of rfl rfl hb12) rfl ?_
    refine RL.opS trivial rfl (OpW.pick (b := true) (v := .bool true) (congrArg Value.bool hb12) rfl ?_)
    refine RL.nil ?_
    exact ⟨true, ⟨rfl, e5, rfl, rfl⟩, h⟩
   ·have h := hc hb12; clear ha hc
    refine RL.opS (wanted_of rfl rfl hb12) rfl (OpW.fieldAddr (off := 0) field_144_0 rfl ?_)
    obtain ⟨x14, h1, h⟩ := h
    refine RL.opS (wanted_of rfl rfl hb12) rfl (OpW.load1 (v := str x14) one_9 rfl h1 ?_)
    refine RL.opS (wanted_of rfl rfl hb12) rfl (OpW.lenStr us_9 rfl ?_)
    refine RL.opS (wanted_of rfl rfl hb12) rfl (OpW.bin (k := .i64) (a := (x14.length : Int)) (b := 4) (v := .bool (decide ((x14.length : Int) < 4))) rfl rfl rfl ?_)
    refine RL.opS trivial rfl (OpW.pick (b := false) (v := .bool (decide ((x14.length : Int) < 4))) (congrArg Value.bool hb12) rfl ?_)
    refine RL.nil ?_
    exact ⟨(decide ((x14.length : Int) < 4)), ⟨rfl, e5, rfl, rfl⟩, h⟩
 ·have h := hc hb6; clear ha hc
  refine CW.exit ?_
  refine CW.seq ?_
  refine CW.region ?_
  refine RL.opS trivial rfl (OpW.move (v := Sl.v s1.2) e5 ?_)
  refine RL.opS trivial rfl (OpW.assign (v := Sl.v s1.2) rfl ?_)
  refine RL.opS trivial rfl (OpW.assign (v := .int .i64 0) rfl ?_)
  refine RL.nil ?_
  refine CW.ret ?_
  exact ret_intro (res2 rfl rfl rfl) ⟨(s1.2, 0), rfl, h⟩
end Go.Proofs.Ytagkcbbbdlmcjaa
end
section
/- The typed readings of the functions, and that the program meets each: written by gen.py (a program of this session). -/
namespace Go.Proofs.Ytagkcbbbdlmcjaa
open Go.Lift
set_option maxRecDepth 100000 in
set_option maxHeartbeats 4000000 in
theorem s86_calls (K : Int → World → Prop) (p0 : List UInt8) (w : World) (h : s86 K p0 w) :
  Calls Try.prog 86 #[str p0] w (Ret r86 K) := by
 unfold s86 at h
 refine calls_of_CW (n := 19) Try.func86 rfl rfl rfl ?_
 refine CW.seq ?_
 refine CW.region ?_
 refine RL.opS trivial rfl (OpW.assign (v := .int .u64 0) rfl ?_)
 refine RL.nil ?_
 refine CW.seq ?_
 refine CW.region ?_
 refine RL.opS trivial rfl (OpW.assign (v := .int .u64 0) rfl ?_)
 refine RL.nil ?_
 refine CW.seq ?_
 refine CW.seq ?_
 refine CW.region ?_
 refine RL.opS trivial rfl (OpW.assign (v := .int .i64 0) rfl ?_)
 refine RL.nil ?_
 refine CW.block ?_
 obtain ⟨I9, mu10, hI, hs⟩ := h
 refine CW.loop (σ := Int × Int) (fun s1 ρ => ρ 3 = .int .u64 s1.1 ∧ ρ 4 = .int .i64 s1.2 ∧ ρ 0 = str p0) I9 mu10 (0, 0) ⟨rfl, rfl, rfl⟩ hI ?_
 rintro s1 ρ w2 ⟨e4, e5, e6⟩ hI
 have h := hs s1 w2 hI
 clear hs hI
 refine CW.seq ?_
 refine CW.seq ?_
 refine CW.region ?_
 refine RL.opS trivial rfl (OpW.move (v := .int .i64 s1.2) e5 ?_)
 refine RL.opS trivial rfl (OpW.move (v := str p0) e6 ?_)
 refine RL.opS trivial rfl (OpW.lenStr us_9 rfl ?_)
 refine RL.opS trivial rfl (OpW.bin (k := .i64) (a := s1.2) (b := (p0.length : Int)) (v := .bool (decide (s1.2 < (p0.length : Int)))) rfl rfl rfl ?_)
 refine RL.nil ?_
 obtain ⟨ha, hc⟩ := h
 refine CW.cond (b := (decide (s1.2 < (p0.length : Int)))) rfl (fun hb7 => ?_) (fun hb7 => ?_)
 ·have h := ha hb7; clear ha hc
  refine CW.skip ?_
  refine CW.seq ?_
  refine CW.block ?_
  refine CW.region ?_
  refine RL.opS trivial rfl (OpW.move (v := .int .u64 s1.1) e4 ?_)
  refine RL.opS trivial rfl (OpW.bin (k := .u64) (a := s1.1) (b := 256) (v := .int .u64 (IntKind.u64.wrap (s1.1 * 256))) rfl rfl rfl ?_)
  refine RL.opS trivial rfl (OpW.move (v := str p0) e6 ?_)
  refine RL.opS trivial rfl (OpW.move (v := .int .i64 s1.2) e5 ?_)
  obtain ⟨c8, h1, h2, h⟩ := h
  refine RL.opS trivial rfl (OpW.indexStr us_9 rfl rfl h1 h2 ?_)
  refine RL.opS trivial rfl (OpW.convInt (a := (c8.toNat : Int)) int_5 int_25 rfl ?_)
  refine RL.opS trivial rfl (OpW.bin (k := .u64) (a := (IntKind.u64.wrap (s1.1 * 256))) (b := (IntKind.u64.wrap (c8.toNat : Int))) (v := .int .u64 (IntKind.u64.wrap ((IntKind.u64.wrap (s1.1 * 256)) + (IntKind.u64.wrap (c8.toNat : Int))))) rfl rfl rfl ?_)
  refine RL.opS trivial rfl (OpW.assign (v := .int .u64 (IntKind.u64.wrap ((IntKind.u64.wrap (s1.1 * 256)) + (IntKind.u64.wrap (c8.toNat : Int))))) rfl ?_)
  refine RL.nil ?_
  refine CW.region ?_
  refine RL.opS trivial rfl (OpW.move (v := .int .i64 s1.2) e5 ?_)
  refine RL.opS trivial rfl (OpW.bin (k := .i64) (a := s1.2) (b := 1) (v := .int .i64 (IntKind.i64.wrap (s1.2 + 1))) rfl rfl rfl ?_)
  refine RL.opS trivial rfl (OpW.assign (v := .int .i64 (IntKind.i64.wrap (s1.2 + 1))) rfl ?_)
  refine RL.nil ?_
  exact ⟨((IntKind.u64.wrap ((IntKind.u64.wrap (s1.1 * 256)) + (IntKind.u64.wrap (c8.toNat : Int)))), (IntKind.i64.wrap (s1.2 + 1))), ⟨rfl, rfl, e6⟩, h⟩
 ·have h := hc hb7; clear ha hc
  refine CW.exit ?_
  refine CW.seq ?_
  refine CW.region ?_
  refine RL.opS trivial rfl (OpW.move (v := .int .u64 s1.1) e4 ?_)
  refine RL.opS trivial rfl (OpW.assign (v := .int .u64 s1.1) rfl ?_)
  refine RL.nil ?_
  refine CW.ret ?_
  exact ret_intro (res1 rfl rfl) ⟨s1.1, rfl, h⟩
end Go.Proofs.Ytagkcbbbdlmcjaa
end
section
/- The typed readings of the functions, and that the program meets each: written by gen.py (a program of this session). -/
namespace Go.Proofs.Ytagkcbbbdlmcjaa
open Go.Lift
set_option maxRecDepth 100000 in
set_option maxHeartbeats 4000000 in
theorem s87_calls (K : List Value × Int → World → Prop) (p0 : List Value) (w : World) (h : s87 K p0 w) :
  Calls Try.prog 87 #[aggv p0] w (Ret r87 K) := by
 unfold s87 at h
 refine calls_of_CW (n := 66) Try.func87 rfl rfl rfl ?_
 refine CW.seq ?_
 refine CW.region ?_
 obtain ⟨b1, hb1_⟩ : ∃ b_, b_ = w.heap.size := ⟨_, rfl⟩
 obtain ⟨w2, hw2_⟩ : ∃ w_, w_ = w.alloc (.cells (List.toArray p0) 144) := ⟨_, rfl⟩
 have h := h b1 w2 hb1_ hw2_
 refine RL.opS trivial rfl (OpW.boxE (cs := p0) (rfl) hb1_ hw2_ ?_)
 obtain ⟨b3, hb3_⟩ : ∃ b_, b_ = w2.heap.size := ⟨_, rfl⟩
 obtain ⟨w4, hw4_⟩ : ∃ w_, w_ = w2.alloc (.cells (List.toArray [str [], Value.int .i64 0]) 144) := ⟨_, rfl⟩
 have h := h b3 w4 hb3_ hw4_
 refine RL.opS trivial rfl (OpW.allocE (b := b3) zero_144 hb3_ hw4_ ?_)
 refine RL.opS trivial rfl (OpW.assign (v := .int .u64 0) rfl ?_)
 refine RL.nil ?_
 refine CW.seq ?_
 refine CW.seq ?_
 refine CW.region ?_
 refine RL.opS trivial rfl (OpW.fieldAddr field_144_1 rfl ?_)
 obtain ⟨x5, h1, h⟩ := h
 refine RL.opS trivial rfl (OpW.load1 (v := .int .i64 x5) one_3 rfl h1 ?_)
 refine RL.opS trivial rfl (OpW.bin (k := .i64) (a := x5) (b := 0) (v := .bool (!decide (x5 = 0))) rfl rfl rfl ?_)
 refine RL.nil ?_
 obtain ⟨ha, hc⟩ := h
 refine CW.cond (b := (!decide (x5 = 0))) rfl (fun hb6 => ?_) (fun hb6 => ?_)
 ·have h := ha hb6; clear ha hc
  refine CW.seq ?_
  refine CW.region ?_
  obtain ⟨x7, h1, h2, h⟩ := h
  refine RL.opS trivial rfl (OpW.loadA agg_144 rfl h1 h2 ?_)
  obtain ⟨g_, o_, e_, cur_, ha_, h1, h2, h3, h4, h⟩ := h
  obtain ⟨w8, hw8_⟩ : ∃ w_, w_ = w4.setRow g_ (cur_.toList.take o_ ++ x7 ++ cur_.toList.drop (o_ + List.length x7)).toArray := ⟨_, rfl⟩
  have h := h w8 hw8_
  refine RL.opN trivial (OpW.storeAE (cs := x7) size_144 rfl rfl ha_ h1 h2 h3 h4 hw8_ ?_)
  refine RL.opS trivial rfl (OpW.assign (v := .int .u64 0) rfl ?_)
  refine RL.nil ?_
  refine CW.ret ?_
  obtain ⟨x9, hc1, hc2, h⟩ := h
  exact ret_intro (res2c rfl agg_144 rfl hc1 hc2 rfl) ⟨(x9, 0), rfl, h⟩
 ·have h := hc hb6; clear ha hc
  refine CW.skip ?_
  refine CW.seq ?_
  refine CW.region ?_
  refine RL.opS trivial rfl (OpW.assign (v := .int .u64 0) rfl ?_)
  refine RL.opS trivial rfl (OpW.assign (v := .int .u64 1) rfl ?_)
  refine RL.nil ?_
  refine CW.seq ?_
  refine CW.seq ?_
  refine CW.region ?_
  refine RL.opS trivial rfl (OpW.assign (v := .int .i64 0) rfl ?_)
  refine RL.nil ?_
  refine CW.block ?_
  obtain ⟨I73, mu74, hI, hs⟩ := h
  refine CW.loop (σ := Int × Int × Int) (fun s10 ρ => ρ 4 = .int .u64 s10.1 ∧ ρ 5 = .int .u64 s10.2.1 ∧ ρ 6 = .int .i64 s10.2.2 ∧ ρ 1 = .pointer (some ⟨b1, 0, none⟩) ∧ ρ 2 = .pointer (some ⟨b3, 0, none⟩)) I73 mu74 (0, 1, 0) ⟨rfl, rfl, rfl, rfl, rfl⟩ hI ?_
  rintro s10 ρ w11 ⟨e13, e14, e15, e16, e17⟩ hI
  have h := hs s10 w11 hI
  clear hs hI
  refine CW.seq ?_
  refine CW.seq ?_
  refine CW.region ?_
  refine RL.opS trivial rfl (OpW.move (v := .int .i64 s10.2.2) e15 ?_)
  refine RL.opS trivial rfl (OpW.fieldAddr (off := 0) field_144_0 e16 ?_)
  obtain ⟨x18, h1, h⟩ := h
  refine RL.opS trivial rfl (OpW.load1 (v := str x18) one_9 rfl h1 ?_)
  refine RL.opS trivial rfl (OpW.lenStr us_9 rfl ?_)
  refine RL.opS trivial rfl (OpW.bin (k := .i64) (a := s10.2.2) (b := (x18.length : Int)) (v := .bool (decide (s10.2.2 < (x18.length : Int)))) rfl rfl rfl ?_)
  refine RL.opS trivial rfl (OpW.move (v := .bool (decide (s10.2.2 < (x18.length : Int)))) rfl ?_)
  refine jn_elim h ?_; clear h; intro k71 hk72 h
  refine RL.joinAt (A := Bool) 3 (fun s21 ρ => ρ 20 = .bool s21 ∧ ρ 1 = .pointer (some ⟨b1, 0, none⟩) ∧ ρ 2 = .pointer (some ⟨b3, 0, none⟩) ∧ ρ 4 = .int .u64 s10.1 ∧ ρ 5 = .int .u64 s10.2.1 ∧ ρ 6 = .int .i64 s10.2.2) k71 ?_ ?_
  ·rintro s21 ρ w22 ⟨e23, e24, e25, e26, e27, e28⟩ h
   subst hk72
   dsimp only [List.drop]
   refine RL.nil ?_
   obtain ⟨ha, hc⟩ := h
   refine CW.cond (b := s21) e23 (fun hb29 => ?_) (fun hb29 => ?_)
   ·have h := ha hb29; clear ha hc
    refine CW.skip ?_
    refine CW.seq ?_
    refine CW.block ?_
    refine CW.seq ?_
    refine CW.region ?_
    refine RL.opS trivial rfl (OpW.fieldAddr (off := 0) field_144_0 e24 ?_)
    obtain ⟨x30, h1, h⟩ := h
    refine RL.opS trivial rfl (OpW.load1 (v := str x30) one_9 rfl h1 ?_)
    refine RL.opS trivial rfl (OpW.move (v := .int .i64 s10.2.2) e28 ?_)
    obtain ⟨c31, h1, h2, h⟩ := h
    refine RL.opS trivial rfl (OpW.indexStr us_9 rfl rfl h1 h2 ?_)
    refine RL.opS trivial rfl (OpW.assign (v := .int .u8 (c31.toNat : Int)) rfl ?_)
    refine RL.nil ?_
    refine CW.seq ?_
    refine CW.seq ?_
    refine CW.region ?_
    refine RL.opS trivial rfl (OpW.move (v := .int .i64 s10.2.2) e28 ?_)
    refine RL.opS trivial rfl (OpW.bin (k := .i64) (a := s10.2.2) (b := 9) (v := .bool (decide (s10.2.2 = 9))) rfl rfl rfl ?_)
    refine RL.opS trivial rfl (OpW.move (v := .bool (decide (s10.2.2 = 9))) rfl ?_)
    refine jn_elim h ?_; clear h; intro k66 hk67 h
    refine RL.joinAt (A := Bool) 3 (fun s34 ρ => ρ 32 = .bool s34 ∧ ρ 1 = .pointer (some ⟨b1, 0, none⟩) ∧ ρ 2 = .pointer (some ⟨b3, 0, none⟩) ∧ ρ 4 = .int .u64 s10.1 ∧ ρ 5 = .int .u64 s10.2.1 ∧ ρ 6 = .int .i64 s10.2.2 ∧ ρ 7 = .int .u8 (c31.toNat : Int)) k66 ?_ ?_
    ·rintro s34 ρ w35 ⟨e36, e37, e38, e39, e40, e41, e42⟩ h
     subst hk67
     dsimp only [List.drop]
     refine RL.nil ?_
     obtain ⟨ha, hc⟩ := h
     refine CW.cond (b := s34) e36 (fun hb43 => ?_) (fun hb43 => ?_)
     ·have h := ha hb43; clear ha hc
      refine CW.seq ?_
      refine CW.region ?_
      refine RL.opS trivial rfl (OpW.fieldAddr (off := 0) field_144_0 e37 ?_)
      obtain ⟨x44, h1, h⟩ := h
      refine RL.opS trivial rfl (OpW.load1 (v := str x44) one_9 rfl h1 ?_)
      refine RL.opS trivial rfl (OpW.buildL (vs := [(0, str x44), (1, .int .i64 7)]) (cs := [str x44, .int .i64 7]) (by rfl) (fun _ => by kernel_rfl) ?_)
      obtain ⟨g_, o_, e_, cur_, ha_, h1, h2, h3, h4, h⟩ := h
      obtain ⟨w45, hw45_⟩ : ∃ w_, w_ = w35.setRow g_ (cur_.toList.take o_ ++ [str x44, .int .i64 7] ++ cur_.toList.drop (o_ + List.length [str x44, .int .i64 7])).toArray := ⟨_, rfl⟩
      have h := h w45 hw45_
      refine RL.opN trivial (OpW.storeAE (cs := [str x44, .int .i64 7]) size_144 e38 rfl ha_ h1 h2 h3 h4 hw45_ ?_)
      refine RL.opS trivial rfl (OpW.assign (v := .int .u64 0) rfl ?_)
      refine RL.nil ?_
      refine CW.ret ?_
      obtain ⟨x46, hc1, hc2, h⟩ := h
      exact ret_intro (res2c rfl agg_144 e38 hc1 hc2 rfl) ⟨(x46, 0), rfl, h⟩
     ·have h := hc hb43; clear ha hc
      refine CW.skip ?_
      refine CW.seq ?_
      refine CW.region ?_
      refine RL.opS trivial rfl (OpW.move (v := .int .u64 s10.1) e39 ?_)
      refine RL.opS trivial rfl (OpW.move (v := .int .u64 s10.2.1) e40 ?_)
      refine RL.opS trivial rfl (OpW.move (v := .int .u8 (c31.toNat : Int)) e42 ?_)
      refine RL.opS trivial rfl (OpW.quo (a := (c31.toNat : Int)) (b := 128) (v := .int .u8 (Int.tmod (c31.toNat : Int) 128)) rfl rfl (by decide) rfl ?_)
      refine RL.opS trivial rfl (OpW.convInt (a := (Int.tmod (c31.toNat : Int) 128)) int_5 int_25 rfl ?_)
      refine RL.opS trivial rfl (OpW.bin (k := .u64) (a := s10.2.1) (b := (IntKind.u64.wrap (Int.tmod (c31.toNat : Int) 128))) (v := .int .u64 (IntKind.u64.wrap (s10.2.1 * (IntKind.u64.wrap (Int.tmod (c31.toNat : Int) 128))))) rfl rfl rfl ?_)
      refine RL.opS trivial rfl (OpW.bin (k := .u64) (a := s10.1) (b := (IntKind.u64.wrap (s10.2.1 * (IntKind.u64.wrap (Int.tmod (c31.toNat : Int) 128))))) (v := .int .u64 (IntKind.u64.wrap (s10.1 + (IntKind.u64.wrap (s10.2.1 * (IntKind.u64.wrap (Int.tmod (c31.toNat : Int) 128))))))) rfl rfl rfl ?_)
      refine RL.opS trivial rfl (OpW.assign (v := .int .u64 (IntKind.u64.wrap (s10.1 + (IntKind.u64.wrap (s10.2.1 * (IntKind.u64.wrap (Int.tmod (c31.toNat : Int) 128))))))) rfl ?_)
      refine RL.nil ?_
      refine CW.seq ?_
      refine CW.region ?_
      refine RL.opS trivial rfl (OpW.move (v := .int .u64 s10.2.1) e40 ?_)
      refine RL.opS trivial rfl (OpW.bin (k := .u64) (a := s10.2.1) (b := 128) (v := .int .u64 (IntKind.u64.wrap (s10.2.1 * 128))) rfl rfl rfl ?_)
      refine RL.opS trivial rfl (OpW.assign (v := .int .u64 (IntKind.u64.wrap (s10.2.1 * 128))) rfl ?_)
      refine RL.nil ?_
      refine CW.seq ?_
      refine CW.region ?_
      refine RL.opS trivial rfl (OpW.move (v := .int .u8 (c31.toNat : Int)) e42 ?_)
      refine RL.opS trivial rfl (OpW.bin (k := .u8) (a := (c31.toNat : Int)) (b := 128) (v := .bool (decide ((c31.toNat : Int) < 128))) rfl rfl rfl ?_)
      refine RL.nil ?_
      obtain ⟨ha, hc⟩ := h
      refine CW.cond (b := (decide ((c31.toNat : Int) < 128))) rfl (fun hb47 => ?_) (fun hb47 => ?_)
      ·have h := ha hb47; clear ha hc
       refine CW.seq ?_
       refine CW.seq ?_
       refine CW.region ?_
       refine RL.opS trivial rfl (OpW.move (v := .int .u8 (c31.toNat : Int)) e42 ?_)
       refine RL.opS trivial rfl (OpW.bin (k := .u8) (a := (c31.toNat : Int)) (b := 0) (v := .bool (decide ((c31.toNat : Int) = 0))) rfl rfl rfl ?_)
       refine RL.opS trivial rfl (OpW.move (v := .bool (decide ((c31.toNat : Int) = 0))) rfl ?_)
       refine jn_elim h ?_; clear h; intro k64 hk65 h
       refine RL.joinAt (A := Bool) 3 (fun s50 ρ => ρ 52 = .bool s50 ∧ ρ 1 = .pointer (some ⟨b1, 0, none⟩) ∧ ρ 2 = .pointer (some ⟨b3, 0, none⟩) ∧ ρ 4 = .int .u64 (IntKind.u64.wrap (s10.1 + (IntKind.u64.wrap (s10.2.1 * (IntKind.u64.wrap (Int.tmod (c31.toNat : Int) 128)))))) ∧ ρ 6 = .int .i64 s10.2.2) k64 ?_ ?_
       ·rintro s50 ρ w51 ⟨e52, e53, e54, e55, e56⟩ h
        subst hk65
        dsimp only [List.drop]
        refine RL.nil ?_
        obtain ⟨ha, hc⟩ := h
        refine CW.cond (b := s50) e52 (fun hb57 => ?_) (fun hb57 => ?_)
        ·have h := ha hb57; clear ha hc
         refine CW.seq ?_
         refine CW.region ?_
         refine RL.opS trivial rfl (OpW.fieldAddr (off := 0) field_144_0 e53 ?_)
         obtain ⟨x58, h1, h⟩ := h
         refine RL.opS trivial rfl (OpW.load1 (v := str x58) one_9 rfl h1 ?_)
         refine RL.opS trivial rfl (OpW.buildL (vs := [(0, str x58), (1, .int .i64 7)]) (cs := [str x58, .int .i64 7]) (by rfl) (fun _ => by kernel_rfl) ?_)
         obtain ⟨g_, o_, e_, cur_, ha_, h1, h2, h3, h4, h⟩ := h
         obtain ⟨w59, hw59_⟩ : ∃ w_, w_ = w51.setRow g_ (cur_.toList.take o_ ++ [str x58, .int .i64 7] ++ cur_.toList.drop (o_ + List.length [str x58, .int .i64 7])).toArray := ⟨_, rfl⟩
         have h := h w59 hw59_
         refine RL.opN trivial (OpW.storeAE (cs := [str x58, .int .i64 7]) size_144 e54 rfl ha_ h1 h2 h3 h4 hw59_ ?_)
         refine RL.opS trivial rfl (OpW.assign (v := .int .u64 0) rfl ?_)
         refine RL.nil ?_
         refine CW.ret ?_
         obtain ⟨x60, hc1, hc2, h⟩ := h
         exact ret_intro (res2c rfl agg_144 e54 hc1 hc2 rfl) ⟨(x60, 0), rfl, h⟩
        ·have h := hc hb57; clear ha hc
         refine CW.skip ?_
         refine CW.seq ?_
         refine CW.region ?_
         refine RL.opS trivial rfl (OpW.fieldAddr (off := 0) field_144_0 e53 ?_)
         obtain ⟨x61, h1, h⟩ := h
         refine RL.opS trivial rfl (OpW.load1 (v := str x61) one_9 rfl h1 ?_)
         refine RL.opS trivial rfl (OpW.move (v := .int .i64 s10.2.2) e56 ?_)
         refine RL.opS trivial rfl (OpW.bin (k := .i64) (a := s10.2.2) (b := 1) (v := .int .i64 (IntKind.i64.wrap (s10.2.2 + 1))) rfl rfl rfl ?_)
         obtain ⟨⟨h1, h2, h3⟩, h⟩ := h
         refine RL.opS trivial rfl (OpW.sliceStr (l := (IntKind.i64.wrap (s10.2.2 + 1))) (h := (x61.length : Int)) str_9 rfl ⟨_, rfl⟩ rfl h1 h2 h3 ?_)
         refine RL.opS trivial rfl (OpW.buildL (vs := [(0, str ((x61.take (Int.toNat (x61.length : Int))).drop (Int.toNat (IntKind.i64.wrap (s10.2.2 + 1))))), (1, .int .i64 0)]) (cs := [str ((x61.take (Int.toNat (x61.length : Int))).drop (Int.toNat (IntKind.i64.wrap (s10.2.2 + 1)))), .int .i64 0]) (by rfl) (fun _ => by kernel_rfl) ?_)
         refine RL.opS trivial rfl (OpW.move (v := .int .u64 (IntKind.u64.wrap (s10.1 + (IntKind.u64.wrap (s10.2.1 * (IntKind.u64.wrap (Int.tmod (c31.toNat : Int) 128))))))) e55 ?_)
         obtain ⟨g_, o_, e_, cur_, ha_, h1, h2, h3, h4, h⟩ := h
         obtain ⟨w62, hw62_⟩ : ∃ w_, w_ = w51.setRow g_ (cur_.toList.take o_ ++ [str ((x61.take (Int.toNat (x61.length : Int))).drop (Int.toNat (IntKind.i64.wrap (s10.2.2 + 1)))), .int .i64 0] ++ cur_.toList.drop (o_ + List.length [str ((x61.take (Int.toNat (x61.length : Int))).drop (Int.toNat (IntKind.i64.wrap (s10.2.2 + 1)))), .int .i64 0])).toArray := ⟨_, rfl⟩
         have h := h w62 hw62_
         refine RL.opN trivial (OpW.storeAE (cs := [str ((x61.take (Int.toNat (x61.length : Int))).drop (Int.toNat (IntKind.i64.wrap (s10.2.2 + 1)))), .int .i64 0]) size_144 e54 rfl ha_ h1 h2 h3 h4 hw62_ ?_)
         refine RL.opS trivial rfl (OpW.assign (v := .int .u64 (IntKind.u64.wrap (s10.1 + (IntKind.u64.wrap (s10.2.1 * (IntKind.u64.wrap (Int.tmod (c31.toNat : Int) 128))))))) rfl ?_)
         refine RL.nil ?_
         refine CW.ret ?_
         obtain ⟨x63, hc1, hc2, h⟩ := h
         exact ret_intro (res2c rfl agg_144 e54 hc1 hc2 rfl) ⟨(x63, (IntKind.u64.wrap (s10.1 + (IntKind.u64.wrap (s10.2.1 * (IntKind.u64.wrap (Int.tmod (c31.toNat : Int) 128))))))), rfl, h⟩
       ·clear hk65
        dsimp only [List.take]
        obtain ⟨ha, hc⟩ := h
        rcases Bool.eq_false_or_eq_true (decide ((c31.toNat : Int) = 0)) with hb48 | hb48
        ·have h := ha hb48; clear ha hc
         refine RL.opS (wanted_of rfl rfl hb48) rfl (OpW.move (v := .int .i64 s10.2.2) e41 ?_)
         refine RL.opS (wanted_of rfl rfl hb48) rfl (OpW.bin (k := .i64) (a := s10.2.2) (b := 0) (v := .bool (decide (0 < s10.2.2))) rfl rfl rfl ?_)
         refine RL.opS trivial rfl (OpW.pick (b := true) (v := .bool (decide (0 < s10.2.2))) (congrArg Value.bool hb48) rfl ?_)
         refine RL.nil ?_
         exact ⟨(decide (0 < s10.2.2)), ⟨rfl, e37, e38, rfl, e41⟩, h⟩
        ·have h := hc hb48; clear ha hc
         refine RL.skipS (notWanted_of rfl rfl hb48) rfl ?_
         refine RL.skipS (notWanted_of rfl rfl hb48) rfl ?_
         refine RL.opS trivial rfl (OpW.pick (b := false) (v := .bool false) (congrArg Value.bool hb48) rfl ?_)
         refine RL.nil ?_
         exact ⟨false, ⟨rfl, e37, e38, rfl, e41⟩, h⟩
      ·have h := hc hb47; clear ha hc
       refine CW.skip ?_
       refine CW.region ?_
       refine RL.opS trivial rfl (OpW.move (v := .int .i64 s10.2.2) e41 ?_)
       refine RL.opS trivial rfl (OpW.bin (k := .i64) (a := s10.2.2) (b := 1) (v := .int .i64 (IntKind.i64.wrap (s10.2.2 + 1))) rfl rfl rfl ?_)
       refine RL.opS trivial rfl (OpW.assign (v := .int .i64 (IntKind.i64.wrap (s10.2.2 + 1))) rfl ?_)
       refine RL.nil ?_
       exact ⟨((IntKind.u64.wrap (s10.1 + (IntKind.u64.wrap (s10.2.1 * (IntKind.u64.wrap (Int.tmod (c31.toNat : Int) 128)))))), (IntKind.u64.wrap (s10.2.1 * 128)), (IntKind.i64.wrap (s10.2.2 + 1))), ⟨rfl, rfl, rfl, e37, e38⟩, h⟩
    ·clear hk67
     dsimp only [List.take]
     obtain ⟨ha, hc⟩ := h
     rcases Bool.eq_false_or_eq_true (decide (s10.2.2 = 9)) with hb32 | hb32
     ·have h := ha hb32; clear ha hc
      refine RL.opS (wanted_of rfl rfl hb32) rfl (OpW.move (v := .int .u8 (c31.toNat : Int)) rfl ?_)
      refine RL.opS (wanted_of rfl rfl hb32) rfl (OpW.bin (k := .u8) (a := (c31.toNat : Int)) (b := 1) (v := .bool (decide (1 < (c31.toNat : Int)))) rfl rfl rfl ?_)
      refine RL.opS trivial rfl (OpW.pick (b := true) (v := .bool (decide (1 < (c31.toNat : Int)))) (congrArg Value.bool hb32) rfl ?_)
      refine RL.nil ?_
      exact ⟨(decide (1 < (c31.toNat : Int))), ⟨rfl, e24, e25, e26, e27, e28, rfl⟩, h⟩
     ·have h := hc hb32; clear ha hc
      refine RL.skipS (notWanted_of rfl rfl hb32) rfl ?_
      refine RL.skipS (notWanted_of rfl rfl hb32) rfl ?_
      refine RL.opS trivial rfl (OpW.pick (b := false) (v := .bool false) (congrArg Value.bool hb32) rfl ?_)
      refine RL.nil ?_
      exact ⟨false, ⟨rfl, e24, e25, e26, e27, e28, rfl⟩, h⟩
   ·have h := hc hb29; clear ha hc
    refine CW.exit ?_
    refine CW.seq ?_
    refine CW.region ?_
    refine RL.opS trivial rfl (OpW.fieldAddr (off := 0) field_144_0 e24 ?_)
    obtain ⟨x68, h1, h⟩ := h
    refine RL.opS trivial rfl (OpW.load1 (v := str x68) one_9 rfl h1 ?_)
    refine RL.opS trivial rfl (OpW.buildL (vs := [(0, str x68), (1, .int .i64 10)]) (cs := [str x68, .int .i64 10]) (by rfl) (fun _ => by kernel_rfl) ?_)
    obtain ⟨g_, o_, e_, cur_, ha_, h1, h2, h3, h4, h⟩ := h
    obtain ⟨w69, hw69_⟩ : ∃ w_, w_ = w22.setRow g_ (cur_.toList.take o_ ++ [str x68, .int .i64 10] ++ cur_.toList.drop (o_ + List.length [str x68, .int .i64 10])).toArray := ⟨_, rfl⟩
    have h := h w69 hw69_
    refine RL.opN trivial (OpW.storeAE (cs := [str x68, .int .i64 10]) size_144 e25 rfl ha_ h1 h2 h3 h4 hw69_ ?_)
    refine RL.opS trivial rfl (OpW.assign (v := .int .u64 0) rfl ?_)
    refine RL.nil ?_
    refine CW.ret ?_
    obtain ⟨x70, hc1, hc2, h⟩ := h
    exact ret_intro (res2c rfl agg_144 e25 hc1 hc2 rfl) ⟨(x70, 0), rfl, h⟩
  ·clear hk72
   dsimp only [List.take]
   obtain ⟨ha, hc⟩ := h
   rcases Bool.eq_false_or_eq_true (decide (s10.2.2 < (x18.length : Int))) with hb19 | hb19
   ·have h := ha hb19; clear ha hc
    refine RL.opS (wanted_of rfl rfl hb19) rfl (OpW.move (v := .int .i64 s10.2.2) e15 ?_)
    refine RL.opS (wanted_of rfl rfl hb19) rfl (OpW.bin (k := .i64) (a := s10.2.2) (b := 10) (v := .bool (decide (s10.2.2 < 10))) rfl rfl rfl ?_)
    refine RL.opS trivial rfl (OpW.pick (b := true) (v := .bool (decide (s10.2.2 < 10))) (congrArg Value.bool hb19) rfl ?_)
    refine RL.nil ?_
    exact ⟨(decide (s10.2.2 < 10)), ⟨rfl, e16, e17, e13, e14, e15⟩, h⟩
   ·have h := hc hb19; clear ha hc
    refine RL.skipS (notWanted_of rfl rfl hb19) rfl ?_
    refine RL.skipS (notWanted_of rfl rfl hb19) rfl ?_
    refine RL.opS trivial rfl (OpW.pick (b := false) (v := .bool false) (congrArg Value.bool hb19) rfl ?_)
    refine RL.nil ?_
    exact ⟨false, ⟨rfl, e16, e17, e13, e14, e15⟩, h⟩
end Go.Proofs.Ytagkcbbbdlmcjaa
end
section
/- The document's journal: heads, numbers, records. -/
namespace Go.Proofs.Ytagkcbbbdlmcjaa
open Go.Lift Go.Lift.Disk Go.Lift.Crc Go.Lift.Wal Go.RowKit
theorem u8m (m : Nat) : IntKind.u8.wrap (Int.tmod (m : Int) 256) = ((UInt8.ofNat m).toNat : Int) := by
 rw [Int.tmod_eq_emod_of_nonneg (by omega), wu8_mod]
 simp
theorem rhigh_ok (w : World) (n : Nat) (hn : n < 18446744073709551616) : Calls Try.prog 67 #[.int .u64 (n : Int)] w (Ret r67 fun x w' => x = beB 8 n ∧ Ext w w') := by
 apply s67_calls
 refine ⟨fun st w' => ∃ i : Nat, i ≤ 8 ∧ st.2.2 = (i : Int) ∧ st.1 = ((n / 256 ^ i : Nat) : Int) ∧ st.2.1 = beB i n ∧ Ext w w', fun st _ => 8 - st.2.2.toNat, ⟨0, by omega, rfl, by simp, rfl, Ext.refl _⟩, ?_⟩
 rintro ⟨m, s, st⟩ w2 ⟨i, hi, rfl, rfl, rfl, hx⟩
 refine ⟨fun hlt => ?_, fun hge => ?_⟩
 ·have hlt : i < 8 := by have := of_decide_eq_true hlt; simp only at this; omega
  intro b8 w9 hb8 hw9
  simp only at hw9
  rw [u8m] at hw9
  refine ⟨[UInt8.ofNat (n / 256 ^ i)], rfl, At.new hb8 hw9, ?_⟩
  have hl := beB_len i n
  refine ⟨by simp only [List.length_singleton]; omega, ?_⟩
  have hlt64 : n / 256 ^ i ≤ n := Nat.div_le_self _ _
  have e : IntKind.u64.wrap (Int.tdiv ((n / 256 ^ i : Nat) : Int) 256) = ((n / 256 ^ (i + 1) : Nat) : Int) := by
   rw [Nat.pow_succ, ← Nat.div_div_eq_div_mul]
   generalize n / 256 ^ i = m at hlt64 ⊢
   rw [Int.tdiv_eq_ediv_of_nonneg (by omega), wu64_eq (by omega) (by omega)]
   omega
  simp only
  rw [e, w64_eq (by omega) (by omega)]
  exact ⟨⟨i + 1, by omega, by omega, rfl, rfl, hx.trans (Ext.new hw9)⟩, by omega⟩
 ·have hge : i = 8 := by have := of_decide_eq_false hge; simp only at this; omega
  subst hge
  exact ⟨rfl, hx⟩
theorem rhead_bytes (w : World) (seq n : Nat) (hs : seq < 18446744073709551616) (hn : n < 18446744073709551616) : Calls Try.prog 41 #[.int .u64 (seq : Int), .int .u64 (n : Int)] w (Ret r41 fun x w' => x = headB seq n ∧ Ext w w') := by
 apply s41_calls
 intro w1 hw1
 have hx1 : Ext w w1 := by subst hw1; exact Ext.drew _
 refine ⟨fun _ x v => x = beB 8 seq, fun _ _ _ _ _ h => h, fun _ v hv _ => ?_, ?_⟩
 ·refine cR_of (rhigh_ok v seq hs) ?_
  rintro x w' ⟨rfl, hx⟩
  exact ⟨hx, rfl⟩
 refine ⟨fun _ x v => x = beB 8 n, fun _ _ _ _ _ h => h, fun _ v hv _ => ?_, ?_⟩
 ·refine cR_of (rhigh_ok v n hn) ?_
  rintro x w' ⟨rfl, hx⟩
  exact ⟨hx, rfl⟩
 refine ⟨fun _ x v => x = beB 8 n, fun _ _ _ _ _ h => h, fun _ v hv _ => ?_, ?_⟩
 ·refine cR_of (rhigh_ok v n hn) ?_
  rintro x w' ⟨rfl, hx⟩
  exact ⟨hx, rfl⟩
 refine ⟨fun _ x v => x = beB 8 seq, fun _ _ _ _ _ h => h, fun _ v hv _ => ?_, ?_⟩
 ·refine cR_of (rhigh_ok v seq hs) ?_
  rintro x w' ⟨rfl, hx⟩
  exact ⟨hx, rfl⟩
 refine ⟨fun _ x v => Bytes v x (zeros 464), fun _ _ _ _ hx h => h.ext hx, fun _ v hv _ => ?_, ?_⟩
 ·refine ⟨by decide, by decide, by decide, by decide, fun b w' hb hw => ?_⟩
  refine ⟨Ext.new hw, ?_⟩
  unfold zeros
  rw [zeros_u8'] at hw
  exact ⟨List.length_replicate .., At.new hb hw⟩
 refine ⟨fun _ x v => x = zeros 464, fun _ _ _ _ _ h => h, fun d v hv hd => ?_, ?_⟩
 ·exact ⟨_, hd.1, hd.2, Ext.refl _, rfl⟩
 have l8 := beB_len 8 seq
 have m8 := beB_len 8 n
 have z4 : (zeros 464).length = 464 := List.length_replicate ..
 refine ⟨?_, ?_, ?_, ?_, ?_, ?_, ?_⟩
 ·rintro x3 v _ rfl
  rw [l8]; decide
 ·rintro x3 x4 v _ rfl rfl
  rw [List.length_append, l8, m8]; decide
 ·rintro x3 x4 v _ rfl rfl
  simp only [List.length_append, l8, m8]; decide
 ·rintro x3 x4 x5 v _ rfl rfl rfl
  simp only [List.length_append, l8, m8]; decide
 ·rintro x3 x4 x5 x6 v _ rfl rfl rfl rfl
  simp only [List.length_append, l8, m8]; decide
 ·rintro x3 x4 x5 x6 x7 x8 v _ rfl rfl rfl rfl _ rfl
  simp only [List.length_append, l8, m8, z4]; decide
 ·rintro x3 x4 x5 x6 x7 x8 v hx rfl rfl rfl rfl _ rfl
  refine ⟨?_, hx1.trans hx⟩
  unfold headB halfB magic
  simp only [List.append_assoc]
theorem rnumber_ok (w : World) (bs : List UInt8) (hl : bs.length ≤ 1000000000) : Calls Try.prog 86 #[str bs] w (Ret r86 fun x w' => x = ((lowB bs : Nat) : Int) ∧ w = w') := by
 apply s86_calls
 refine ⟨fun st w' => w = w' ∧ ∃ k : Nat, k ≤ bs.length ∧ st.2 = (k : Int) ∧ st.1 = ((lowB (bs.take k) : Nat) : Int), fun st _ => bs.length - st.2.toNat, ⟨rfl, 0, Nat.zero_le _, rfl, rfl⟩, ?_⟩
 rintro ⟨a, i⟩ w' ⟨rfl, k, hk, rfl, rfl⟩
 refine ⟨fun hlt => ?_, fun hge => ?_⟩
 ·have hlt : k < bs.length := by have := of_decide_eq_true hlt; simp only at this; omega
  refine ⟨bs[k], by simp only; omega, by simp only [Int.toNat_natCast]; exact List.getElem?_eq_getElem hlt, ?_⟩
  have hlb := lowB_lt (bs.take k)
  have hc := u8_lt bs[k]
  simp only
  have e : IntKind.u64.wrap (IntKind.u64.wrap (((lowB (bs.take k) : Nat) : Int) * 256) + IntKind.u64.wrap (bs[k].toNat : Int)) = ((lowStep (lowB (bs.take k)) bs[k] : Nat) : Int) := by
   unfold lowStep
   rw [wu64_eq (x := (bs[k].toNat : Int)) (by omega) (by omega), wu64_mod, wu64_mod]
   omega
  rw [e, w64_eq (by omega) (by omega)]
  refine ⟨⟨trivial, k + 1, by omega, by omega, ?_⟩, by omega⟩
  rw [List.take_succ_eq_append_getElem hlt]
  unfold lowB
  rw [List.foldl_append]
  rfl
 ·have hge : k = bs.length := by have := of_decide_eq_false hge; simp only at this; omega
  subst hge
  rw [List.take_length]
  exact ⟨rfl, rfl⟩
theorem beB_mod : ∀ (k a v : Nat), beB k (a * 256 ^ k + v) = beB k v
 | 0, _, _ => rfl
 | k + 1, a, v => by
  have hp : a * 256 ^ (k + 1) + v = (a * 256) * 256 ^ k + v := by rw [Nat.pow_succ, Nat.mul_comm (256 ^ k) 256, Nat.mul_assoc]
  have hpos : 0 < 256 ^ k := Nat.pow_pos (by decide)
  rw [hp, beB, beB, beB_mod k (a * 256) v, Nat.mul_comm (a * 256), Nat.mul_add_div hpos]
  congr 1
  apply UInt8.toNat_inj.1
  simp
theorem low_lin : ∀ (bs : List UInt8) (a : Nat), bs.length ≤ 8 → (a + 1) * 256 ^ bs.length ≤ 18446744073709551616 → bs.foldl lowStep 0 < 256 ^ bs.length ∧ bs.foldl lowStep a = a * 256 ^ bs.length + bs.foldl lowStep 0
 | [], a, _, _ => by simp
 | c :: bs, a, hl, h => by
  simp only [List.length_cons] at hl h ⊢
  have hc := u8_lt c
  have hp : 256 ^ (bs.length + 1) = 256 ^ bs.length * 256 := Nat.pow_succ ..
  have hpos : 1 ≤ 256 ^ bs.length := Nat.pow_pos (by decide)
  have hle8 : 256 ^ (bs.length + 1) ≤ 256 ^ 8 := Nat.pow_le_pow_right (by decide) hl
  have h8 : (256 : Nat) ^ 8 = 18446744073709551616 := by decide
  have hcm : (c.toNat + 1) * 256 ^ bs.length ≤ 256 * 256 ^ bs.length := Nat.mul_le_mul_right _ (by omega)
  have ha : (a * 256 + c.toNat + 1) * 256 ^ bs.length ≤ (a + 1) * 256 ^ (bs.length + 1) := by
   rw [hp, ← Nat.mul_assoc, Nat.mul_right_comm]
   exact Nat.mul_le_mul_right _ (by omega)
  have hlt : a * 256 + c.toNat < 18446744073709551616 := by
   have : (a * 256 + c.toNat + 1) * 1 ≤ (a * 256 + c.toNat + 1) * 256 ^ bs.length := Nat.mul_le_mul_left _ hpos
   omega
  have e1 : lowStep a c = a * 256 + c.toNat := by unfold lowStep; exact Nat.mod_eq_of_lt hlt
  have e0 : lowStep 0 c = c.toNat := by unfold lowStep; rw [Nat.zero_mul, Nat.zero_add]; exact Nat.mod_eq_of_lt (by omega)
  obtain ⟨i1, i2⟩ := low_lin bs (a * 256 + c.toNat) (by omega) (by omega)
  obtain ⟨j1, j2⟩ := low_lin bs c.toNat (by omega) (by omega)
  rw [List.foldl_cons, List.foldl_cons, e1, e0, i2, j2]
  refine ⟨?_, ?_⟩
  ·rw [Nat.add_mul, Nat.one_mul] at hcm
   rw [hp, Nat.mul_comm (256 ^ bs.length) 256]
   omega
  ·rw [hp, Nat.add_mul, Nat.mul_assoc, Nat.mul_comm 256 (256 ^ bs.length)]
   omega
theorem high_low : ∀ (bs : List UInt8), bs.length ≤ 8 → beB bs.length (lowB bs) = bs
 | [], _ => rfl
 | c :: bs, hl => by
  simp only [List.length_cons] at hl ⊢
  have hc := u8_lt c
  have hle8 : 256 ^ (bs.length + 1) ≤ 256 ^ 8 := Nat.pow_le_pow_right (by decide) hl
  have h8 : (256 : Nat) ^ 8 = 18446744073709551616 := by decide
  have hp : 256 ^ (bs.length + 1) = 256 ^ bs.length * 256 := Nat.pow_succ ..
  have hpos : 0 < 256 ^ bs.length := Nat.pow_pos (by decide)
  have hcm : (c.toNat + 1) * 256 ^ bs.length ≤ 256 * 256 ^ bs.length := Nat.mul_le_mul_right _ (by omega)
  obtain ⟨j1, j2⟩ := low_lin bs c.toNat (by omega) (by omega)
  have e0 : lowStep 0 c = c.toNat := by unfold lowStep; rw [Nat.zero_mul, Nat.zero_add]; exact Nat.mod_eq_of_lt (by omega)
  have e : lowB (c :: bs) = c.toNat * 256 ^ bs.length + lowB bs := by
   unfold lowB
   rw [List.foldl_cons, e0, j2]
  have hlb : lowB bs < 256 ^ bs.length := j1
  rw [e, beB, beB_mod, high_low bs (by omega), Nat.mul_comm, Nat.mul_add_div hpos, Nat.div_eq_of_lt hlb, Nat.add_zero]
  congr 1
  apply UInt8.toNat_inj.1
  simp
theorem slice3 {b : List UInt8} {i j k m : Nat} (h1 : i ≤ j) (h2 : j ≤ k) (h3 : k ≤ m) (h4 : m ≤ b.length) : sliceB b i m = sliceB b i j ++ (sliceB b j k ++ sliceB b k m) := by
 have two : ∀ (i j k : Nat), i ≤ j → j ≤ k → k ≤ b.length → sliceB b i k = sliceB b i j ++ sliceB b j k := by
  intro i j k h1 h2 h3
  unfold sliceB
  have e : b.take k = b.take j ++ (b.take k).drop j := by
   conv => lhs; rw [← List.take_append_drop j (b.take k)]
   rw [List.take_take, Nat.min_eq_left h2]
  conv => lhs; rw [e]
  rw [List.drop_append_of_le_length (by rw [List.length_take]; omega)]
 rw [two i j m h1 (by omega) h4, two j k m h2 h3 h4]
theorem right_eq {b : List UInt8} (hl : b.length = 512) (room : Nat) : right b room =
  if sliceB b 0 8 = magic ∧ sliceB b 24 32 = magic ∧ lowB (sliceB b 32 40) = lowB (sliceB b 16 24) ∧ lowB (sliceB b 40 48) = lowB (sliceB b 8 16) ∧ lowB (sliceB b 8 16) ≠ 0 ∧ lowB (sliceB b 8 16) ≤ last ∧ lowB (sliceB b 16 24) ≤ room
  then (lowB (sliceB b 8 16), lowB (sliceB b 16 24)) else (0, 0) := by
 have l8 : ∀ i j, j - i = 8 → j ≤ 512 → beB 8 (lowB (sliceB b i j)) = sliceB b i j := by
  intro i j h1 h2
  have hs : (sliceB b i j).length = 8 := by rw [sliceB_len (by omega), h1]
  have := high_low (sliceB b i j) (by omega)
  rw [hs] at this
  exact this
 have a1 := l8 8 16 rfl (by decide)
 have a2 := l8 16 24 rfl (by decide)
 have a3 := l8 32 40 rfl (by decide)
 have a4 := l8 40 48 rfl (by decide)
 have s1 := slice3 (b := b) (i := 0) (j := 8) (k := 16) (m := 24) (by decide) (by decide) (by decide) (by omega)
 have s2 := slice3 (b := b) (i := 24) (j := 32) (k := 40) (m := 48) (by decide) (by decide) (by decide) (by omega)
 have hm : magic.length = 8 := rfl
 have q1 : (sliceB b 0 8).length = 8 := by rw [sliceB_len (by omega)]
 have q2 : (sliceB b 24 32).length = 8 := by rw [sliceB_len (by omega)]
 have q3 : (sliceB b 32 40).length = 8 := by rw [sliceB_len (by omega)]
 generalize hS : lowB (sliceB b 8 16) = S at *
 generalize hM : lowB (sliceB b 16 24) = M at *
 have hSl : S < 18446744073709551616 := by rw [← hS]; exact lowB_lt _
 have hMl : M < 18446744073709551616 := by rw [← hM]; exact lowB_lt _
 have e1 : sliceB b 0 24 = halfB S M ↔ sliceB b 0 8 = magic := by
  rw [s1, ← a1, ← a2]
  unfold halfB
  constructor
  ·intro h
   exact (List.append_inj h (by rw [q1, hm])).1
  ·intro h; rw [h]
 have e2 : sliceB b 24 48 = halfB M S ↔ (sliceB b 24 32 = magic ∧ lowB (sliceB b 32 40) = M ∧ lowB (sliceB b 40 48) = S) := by
  rw [s2]
  unfold halfB
  constructor
  ·intro h
   obtain ⟨h1, h2⟩ := List.append_inj h (by rw [q2, hm])
   obtain ⟨h3, h4⟩ := List.append_inj h2 (by rw [q3, beB_len])
   exact ⟨h1, by rw [h3, low_high hMl], by rw [h4, low_high hSl]⟩
  ·rintro ⟨h1, h2, h3⟩
   rw [h1, ← a3, ← a4, h2, h3]
 unfold right
 simp only [hS, hM]
 by_cases hc : sliceB b 0 8 = magic ∧ sliceB b 24 32 = magic ∧ lowB (sliceB b 32 40) = M ∧ lowB (sliceB b 40 48) = S ∧ S ≠ 0 ∧ S ≤ last ∧ M ≤ room
 ·rw [if_pos hc, if_pos ⟨e1.2 hc.1, e2.2 ⟨hc.2.1, hc.2.2.1, hc.2.2.2.1⟩, by omega, hc.2.2.2.2.2.1, hc.2.2.2.2.2.2⟩]
 ·rw [if_neg hc, if_neg]
  rintro ⟨h1, h2, h3, h4, h5⟩
  obtain ⟨g1, g2, g3⟩ := e2.1 h2
  exact hc ⟨e1.1 h1, g1, g2, g3, by omega, h4, h5⟩
theorem rright_ok (w : World) (b : List UInt8) (hl : b.length = 512) (room : Nat) (hr : room ≤ 1000000000) :
  Calls Try.prog 79 #[str b, .int .i64 (room : Int)] w (Ret r79 fun x w' => x = (((right b room).1 : Int), ((right b room).2 : Int)) ∧ Ext w w') := by
 apply s79_calls
 rw [right_eq hl]
 intro w1 hw1
 have hx1 : Ext w w1 := by subst hw1; exact Ext.drew _
 have hsl : ∀ i j, (sliceB b i j).length ≤ 1000000000 := by intro i j; simp [sliceB]; omega
 refine ⟨⟨by omega, by omega, by omega⟩, ⟨by omega, by omega, by omega⟩, ?_⟩
 refine cR_of (rnumber_ok w1 (sliceB b 8 16) (hsl _ _)) ?_
 rintro x3 w4 ⟨rfl, rfl⟩
 refine cR_of (rnumber_ok w1 (sliceB b 16 24) (hsl _ _)) ?_
 rintro x5 w6 ⟨rfl, rfl⟩
 have hSl := lowB_lt (sliceB b 8 16)
 have hMl := lowB_lt (sliceB b 16 24)
 have hll : last = 4611686018427387904 := rfl
 obtain ⟨S, hS⟩ : ∃ S, S = lowB (sliceB b 8 16) := ⟨_, rfl⟩
 obtain ⟨M, hM⟩ : ∃ M, M = lowB (sliceB b 16 24) := ⟨_, rfl⟩
 rw [← hS] at hSl
 rw [← hM] at hMl
 rw [← hS, ← hM]
 refine ⟨⟨by omega, by omega, by omega⟩, ?_⟩
 refine jn_of fun k1 hk1 => ?_
 have key1 : ∀ q : Bool, (q = false ↔ (sliceB b 0 8 = magic ∧ sliceB b 24 32 = magic)) → k1 q w1 := by
  intro q hq
  rw [hk1]
  refine jn_of fun k2 hk2 => ?_
  have key2 : ∀ q : Bool, (q = false ↔ ((sliceB b 0 8 = magic ∧ sliceB b 24 32 = magic) ∧ lowB (sliceB b 32 40) = M)) → k2 q w1 := by
   intro q hq
   rw [hk2]
   refine jn_of fun k3 hk3 => ?_
   have key3 : ∀ q : Bool, (q = false ↔ (((sliceB b 0 8 = magic ∧ sliceB b 24 32 = magic) ∧ lowB (sliceB b 32 40) = M) ∧ lowB (sliceB b 40 48) = S)) → k3 q w1 := by
    intro q hq
    rw [hk3]
    refine jn_of fun k4 hk4 => ?_
    have key4 : ∀ q : Bool, (q = false ↔ ((((sliceB b 0 8 = magic ∧ sliceB b 24 32 = magic) ∧ lowB (sliceB b 32 40) = M) ∧ lowB (sliceB b 40 48) = S) ∧ S ≠ 0)) → k4 q w1 := by
     intro q hq
     rw [hk4]
     refine jn_of fun k5 hk5 => ?_
     have key5 : ∀ q : Bool, (q = false ↔ (((((sliceB b 0 8 = magic ∧ sliceB b 24 32 = magic) ∧ lowB (sliceB b 32 40) = M) ∧ lowB (sliceB b 40 48) = S) ∧ S ≠ 0) ∧ S ≤ last)) → k5 q w1 := by
      intro q hq
      rw [hk5]
      refine jn_of fun k6 hk6 => ?_
      have key6 : ∀ q : Bool, (q = false ↔ ((((((sliceB b 0 8 = magic ∧ sliceB b 24 32 = magic) ∧ lowB (sliceB b 32 40) = M) ∧ lowB (sliceB b 40 48) = S) ∧ S ≠ 0) ∧ S ≤ last) ∧ M ≤ room)) → k6 q w1 := by
       intro q hq
       rw [hk6]
       refine ⟨fun ht => ?_, fun hf => ?_⟩
       ·rw [if_neg (fun hh => by rw [hq.2 ⟨⟨⟨⟨⟨⟨hh.1, hh.2.1⟩, hh.2.2.1⟩, hh.2.2.2.1⟩, hh.2.2.2.2.1⟩, hh.2.2.2.2.2.1⟩, hh.2.2.2.2.2.2⟩] at ht; cases ht)]
        exact ⟨rfl, hx1⟩
       ·obtain ⟨⟨⟨⟨⟨⟨a1, a2⟩, a3⟩, a4⟩, a5⟩, a6⟩, a7⟩ := hq.1 hf
        rw [if_pos ⟨a1, a2, a3, a4, a5, a6, a7⟩, w64_eq (by omega) (by omega)]
        exact ⟨rfl, hx1⟩
      refine ⟨fun ht => key6 true ⟨fun h => absurd h (by decide), fun hh => by rw [hq.2 hh.1] at ht; cases ht⟩, fun hf => key6 _ ?_⟩
      rw [wu64_eq (by omega) (by omega), decide_eq_false_iff_not]
      exact ⟨fun hh => ⟨hq.1 hf, by omega⟩, fun hh => by have := hh.2; omega⟩
     refine ⟨fun ht => key5 true ⟨fun h => absurd h (by decide), fun hh => by rw [hq.2 hh.1] at ht; cases ht⟩, fun hf => key5 _ ?_⟩
     rw [decide_eq_false_iff_not]
     exact ⟨fun hh => ⟨hq.1 hf, by omega⟩, fun hh => by have := hh.2; omega⟩
    refine ⟨fun ht => key4 true ⟨fun h => absurd h (by decide), fun hh => by rw [hq.2 hh.1] at ht; cases ht⟩, fun hf => key4 _ ?_⟩
    rw [decide_eq_false_iff_not]
    exact ⟨fun hh => ⟨hq.1 hf, by omega⟩, fun hh => by have := hh.2; omega⟩
   refine ⟨fun ht => key3 true ⟨fun h => absurd h (by decide), fun hh => by rw [hq.2 hh.1] at ht; cases ht⟩, fun hf => ?_⟩
   refine ⟨⟨by omega, by omega, by omega⟩, ?_⟩
   refine cR_of (rnumber_ok w1 (sliceB b 40 48) (hsl _ _)) ?_
   rintro x29 w30 ⟨rfl, rfl⟩
   refine key3 _ ?_
   rw [Bool.not_eq_false', decide_eq_true_iff]
   exact ⟨fun hh => ⟨hq.1 hf, by omega⟩, fun hh => by have := hh.2; omega⟩
  refine ⟨fun ht => key2 true ⟨fun h => absurd h (by decide), fun hh => by rw [hq.2 hh.1] at ht; cases ht⟩, fun hf => ?_⟩
  refine ⟨⟨by omega, by omega, by omega⟩, ?_⟩
  refine cR_of (rnumber_ok w1 (sliceB b 32 40) (hsl _ _)) ?_
  rintro x18 w19 ⟨rfl, rfl⟩
  refine key2 _ ?_
  rw [Bool.not_eq_false', decide_eq_true_iff]
  exact ⟨fun hh => ⟨hq.1 hf, by omega⟩, fun hh => by have := hh.2; omega⟩
 refine ⟨fun hne => key1 true ⟨fun h => absurd h (by decide), fun hh => absurd hh.1 (nd_t hne)⟩, fun he => ?_⟩
 refine ⟨⟨by omega, by omega, by omega⟩, key1 _ ?_⟩
 rw [Bool.not_eq_false', decide_eq_true_iff]
 exact ⟨fun hh => ⟨nd_f he, hh⟩, fun hh => hh.2⟩
end Go.Proofs.Ytagkcbbbdlmcjaa
end
section
/- The document's records: numbers that are taken, what is parsed. -/
namespace Go.Proofs.Ytagkcbbbdlmcjaa
open Go.Lift Go.Lift.Disk Go.Lift.Crc Go.Lift.Wal Go.RowKit
theorem takeAux_inv : ∀ (b : List UInt8) (i acc : Nat) {n : Nat} {rest : List UInt8}, takeAux i acc b = some (n, rest) → ∃ m, n = acc + m * 128 ^ i ∧ b = numB m ++ rest ∧ (0 < i → 0 < m)
 | [], _, _, _, _, h => by cases h
 | c :: b, i, acc, n, rest, h => by
  have hc := u8_lt c
  unfold takeAux at h
  split at h
  ·cases h
  ·split at h
   ·cases h
   ·split at h
    ·rename_i hge
     obtain ⟨m, h1, h2, h3⟩ := takeAux_inv b _ _ h
     have hm := h3 (by omega)
     refine ⟨c.toNat % 128 + 128 * m, ?_, ?_, fun _ => by omega⟩
     ·rw [h1, Nat.add_mul, Nat.pow_succ, Nat.mul_comm 128 m, Nat.mul_assoc m 128, Nat.mul_comm 128 (128 ^ i)]
      omega
     ·have e : numB (c.toNat % 128 + 128 * m) = UInt8.ofNat ((c.toNat % 128 + 128 * m) % 128 + 128) :: numB ((c.toNat % 128 + 128 * m) / 128) := by
       conv => lhs; rw [numB]
       rw [if_neg (by omega)]
      have e1 : (c.toNat % 128 + 128 * m) % 128 + 128 = c.toNat := by omega
      have e2 : (c.toNat % 128 + 128 * m) / 128 = m := by omega
      rw [e, e1, e2, h2]
      simp
    ·rename_i hlt
     split at h
     ·cases h
     ·rename_i h0
      simp only [Option.some.injEq, Prod.mk.injEq] at h
      refine ⟨c.toNat, h.1.symm, ?_, fun hi => ?_⟩
      ·have e : numB c.toNat = [UInt8.ofNat c.toNat] := by unfold numB; rw [if_pos (by omega)]
       rw [e, h.2]
       simp
      ·rcases Nat.eq_zero_or_pos c.toNat with h | h
       ·exact absurd ⟨h, hi⟩ h0
       ·exact h
theorem takeNum_inv {b : List UInt8} {n : Nat} {rest : List UInt8} (h : takeNum b = some (n, rest)) : b = numB n ++ rest := by
 obtain ⟨m, h1, h2, _⟩ := takeAux_inv b 0 0 h
 have : n = m := by rw [h1]; simp
 rw [this]; exact h2
theorem frame_eq {b : List UInt8} {n : Nat} {rest : List UInt8} (h : takeNum b = some (n, rest)) (h4 : 4 ≤ rest.length) (hn : n ≤ rest.length - 4) :
  frameB (sliceB rest 4 (4 + n)) = b.take (b.length - rest.length + 4 + n) ↔ le4 (crc (sliceB rest 4 (4 + n))) = sliceB rest 0 4 := by
 have hb := takeNum_inv h
 have hsl : (sliceB rest 4 (4 + n)).length = n := by rw [sliceB_len (by omega)]; omega
 have hl : b.length - rest.length = (numB n).length := by
  have := congrArg List.length hb
  rw [List.length_append] at this
  omega
 have e1 : b.take (b.length - rest.length + 4 + n) = numB n ++ (sliceB rest 0 4 ++ sliceB rest 4 (4 + n)) := by
  rw [hl]
  conv => lhs; rw [hb]
  rw [Nat.add_assoc, List.take_length_add_append]
  congr 1
  unfold sliceB
  have := (List.take_append_drop 4 (rest.take (4 + n))).symm
  rw [List.take_take, Nat.min_eq_left (by omega)] at this
  rw [List.drop_zero]
  exact this
 rw [e1]
 unfold frameB
 rw [hsl]
 constructor
 ·intro h
  have h2 := List.append_cancel_left h
  exact List.append_cancel_right h2
 ·intro h
  rw [h]
theorem rtake_ok (w : World) (S : List UInt8) (hl : S.length ≤ 1000000000) : Calls Try.prog 87 #[aggv [str S, Value.int .i64 0]] w (Ret r87 fun x w' => Ext w w' ∧
  ((takeNum S = none ∧ ∃ e : Int, e ≠ 0 ∧ x.1 = [str S, .int .i64 e]) ∨ ∃ n rest, takeNum S = some (n, rest) ∧ x.1 = [str rest, .int .i64 0] ∧ x.2 = (n : Int) ∧ n < 18446744073709551616)) := by
 apply s87_calls
 intro b1 w2 hb1 hw2
 have hx2 : Ext w w2 := Ext.new hw2
 have hB2 : Blk w2 b1 144 [str S, Value.int .i64 0] := Blk.new hb1 hw2
 intro b3 w4 hb3 hw4
 have hx4 : Ext w2 w4 := Ext.new hw4
 have hB4 := hB2.ext hx4
 have hR4 : Blk w4 b3 144 [str [], Value.int .i64 0] := Blk.new hb3 hw4
 have hxw := hx2.trans hx4
 have hwb3 : w.heap.size ≤ b3 := by rw [hb3]; exact hx2.size
 refine ⟨0, by rw [add_plain]; exact hB4.cell rfl, ?_⟩
 refine ⟨fun h => absurd h (by simp), fun _ => ?_⟩
 -- an answer
 have ans : ∀ (T : List UInt8) (e : Int) (K : List Value → World → Prop), (∀ w', Ext w w' → K [str T, .int .i64 e] w') → stA 2 ⟨b3, 0, none⟩ [str T, .int .i64 e] w4 fun w' => ldA 2 ⟨b3, 0, none⟩ w' fun x => K x w' := by
  intro T e K hK
  refine stA_blk hR4 rfl (by simp) (by intro v hv; simp only [List.mem_cons, List.not_mem_nil, or_false] at hv; rcases hv with rfl | rfl <;> rfl) fun w' hB' hf' => ?_
  have hB' : Blk w' b3 144 [str T, .int .i64 e] := hB'
  exact ⟨[str T, .int .i64 e], rfl, hB'.at rfl, hK w' (hf'.ext hxw fun k _ e => by rw [e]; exact hwb3)⟩
 refine ⟨fun st w' => w4 = w' ∧ ∃ (i acc : Nat), i ≤ 9 ∧ i ≤ S.length ∧ st.2.2 = (i : Int) ∧ st.2.1 = ((128 ^ i : Nat) : Int) ∧ st.1 = (acc : Int) ∧ acc < 128 ^ i ∧ takeAux i acc (S.drop i) = takeNum S, fun st _ => 10 - st.2.2.toNat, ⟨rfl, 0, 0, by omega, by omega, rfl, rfl, rfl, by decide, rfl⟩, ?_⟩
 rintro ⟨a, sh, i'⟩ w11 ⟨rfl, i, acc, hi, hib, rfl, rfl, rfl, hacc, htake⟩
 simp only at htake ⊢
 refine ⟨S, by rw [add_plain]; exact hB4.cell rfl, ?_⟩
 refine jn_of fun k1 hk1 => ?_
 have key1 : ∀ q : Bool, (q = true ↔ i < S.length) → k1 q w4 := by
  intro q hq
  rw [hk1]
  refine ⟨fun ht => ?_, fun hf => ?_⟩
  ·have hlt : i < S.length := hq.1 ht
   rw [List.drop_eq_getElem_cons hlt] at htake
   have hcl := u8_lt S[i]
   refine ⟨S, by rw [add_plain]; exact hB4.cell rfl, S[i], by omega, by rw [Int.toNat_natCast]; exact List.getElem?_eq_getElem hlt, ?_⟩
   generalize S[i] = c at htake hcl ⊢
   unfold takeAux at htake
   rw [if_neg (by omega)] at htake
   have hpow : 128 ^ i ≤ 128 ^ 9 := Nat.pow_le_pow_right (by decide) hi
   refine jn_of fun k2 hk2 => ?_
   have key2 : ∀ q : Bool, (q = true ↔ (i = 9 ∧ 1 < c.toNat)) → k2 q w4 := by
    intro q hq
    rw [hk2]
    refine ⟨fun ht => ?_, fun hf => ?_⟩
    ·rw [if_pos (hq.1 ht)] at htake
     refine ⟨S, by rw [add_plain]; exact hB4.cell rfl, ?_⟩
     exact ans S 7 _ fun w' hx => ⟨hx, .inl ⟨htake.symm, 7, by decide, rfl⟩⟩
    have hn9 : ¬ (i = 9 ∧ 1 < c.toNat) := fun hh => by rw [hq.2 hh] at hf; cases hf
    rw [if_neg hn9] at htake
    have hsm : 128 ^ i * (c.toNat % 128) + acc < 18446744073709551616 := by
     by_cases h8 : i ≤ 8
     ·have h7 : 128 ^ i ≤ 128 ^ 8 := Nat.pow_le_pow_right (by decide) h8
      have h9 : 128 ^ i * (c.toNat % 128) ≤ 128 ^ 8 * 127 := Nat.mul_le_mul h7 (by omega)
      have : (128 ^ 8 * 127 + 128 ^ 8 : Nat) < 18446744073709551616 := by decide
      omega
     ·have h9' : i = 9 := by omega
      have h1 : c.toNat ≤ 1 := by
       rcases Nat.lt_or_ge 1 c.toNat with h | h
       ·exact absurd ⟨h9', h⟩ hn9
       ·exact h
      subst h9'
      have h9 : 128 ^ 9 * (c.toNat % 128) ≤ 128 ^ 9 * 1 := Nat.mul_le_mul_left _ (by omega)
      have : (128 ^ 9 * 1 + 128 ^ 9 : Nat) ≤ 18446744073709551616 := by decide
      omega
    have hv : IntKind.u64.wrap ((acc : Int) + IntKind.u64.wrap (((128 ^ i : Nat) : Int) * IntKind.u64.wrap (Int.tmod (c.toNat : Int) 128))) = ((acc + c.toNat % 128 * 128 ^ i : Nat) : Int) := by
     have e0 : Int.tmod (c.toNat : Int) 128 = ((c.toNat % 128 : Nat) : Int) := by rw [Int.tmod_eq_emod_of_nonneg (by omega)]; omega
     rw [e0, wu64_eq (x := ((c.toNat % 128 : Nat) : Int)) (by omega) (by omega), ← Int.natCast_mul, wu64_eq (x := ((128 ^ i * (c.toNat % 128) : Nat) : Int)) (by omega) (by omega), wu64_eq (by omega) (by omega), Nat.mul_comm (c.toNat % 128)]
     omega
    refine ⟨fun hlt' => ?_, fun hge => ?_⟩
    ·have hlt' : c.toNat < 128 := by have := of_decide_eq_true hlt'; omega
     rw [if_neg (by omega)] at htake
     refine jn_of fun k3 hk3 => ?_
     have key3 : ∀ q : Bool, (q = true ↔ (c.toNat = 0 ∧ 0 < i)) → k3 q w4 := by
      intro q hq
      rw [hk3]
      refine ⟨fun ht => ?_, fun hf => ?_⟩
      ·rw [if_pos (hq.1 ht)] at htake
       refine ⟨S, by rw [add_plain]; exact hB4.cell rfl, ?_⟩
       exact ans S 7 _ fun w' hx => ⟨hx, .inl ⟨htake.symm, 7, by decide, rfl⟩⟩
      ·rw [if_neg (fun hh => by rw [hq.2 hh] at hf; cases hf)] at htake
       refine ⟨S, by rw [add_plain]; exact hB4.cell rfl, ?_⟩
       have e1 : IntKind.i64.wrap ((i : Int) + 1) = ((i + 1 : Nat) : Int) := by rw [w64_eq (by omega) (by omega)]; omega
       rw [e1, hv]
       refine ⟨⟨by omega, by omega, by omega⟩, ?_⟩
       have e2 : (S.take (Int.toNat (S.length : Int))).drop (Int.toNat ((i + 1 : Nat) : Int)) = S.drop (i + 1) := by rw [Int.toNat_natCast, Int.toNat_natCast, List.take_length]
       rw [e2]
       refine ans (S.drop (i + 1)) 0 (fun x w' => Ext w w' ∧ ((takeNum S = none ∧ ∃ e : Int, e ≠ 0 ∧ (x, ((acc + c.toNat % 128 * 128 ^ i : Nat) : Int)).1 = [str S, .int .i64 e]) ∨ ∃ n rest, takeNum S = some (n, rest) ∧ (x, ((acc + c.toNat % 128 * 128 ^ i : Nat) : Int)).1 = [str rest, .int .i64 0] ∧ (x, ((acc + c.toNat % 128 * 128 ^ i : Nat) : Int)).2 = (n : Int) ∧ n < 18446744073709551616)) fun w' hx => ⟨hx, .inr ⟨_, _, htake.symm, rfl, ?_, ?_⟩⟩
       ·rw [Nat.mod_eq_of_lt hlt']
       ·rw [Nat.mod_eq_of_lt hlt', Nat.mul_comm] at hsm
        omega
     refine ⟨fun h0 => key3 _ ?_, fun h0 => key3 false ⟨fun h => absurd h (by decide), fun hh => absurd (of_decide_eq_false h0) (by omega)⟩⟩
     have h0 := of_decide_eq_true h0
     rw [decide_eq_true_iff]
     omega
    ·have hge : 128 ≤ c.toNat := by have := of_decide_eq_false hge; omega
     rw [if_pos hge] at htake
     have hi8 : i ≤ 8 := by
      rcases Nat.lt_or_ge i 9 with h | h
      ·omega
      ·exact absurd ⟨by omega, by omega⟩ hn9
     have hp8 : 128 ^ i ≤ 128 ^ 8 := Nat.pow_le_pow_right (by decide) hi8
     have hp8' : (128 ^ 8 : Nat) * 128 < 18446744073709551616 := by decide
     have e3 : IntKind.u64.wrap (((128 ^ i : Nat) : Int) * 128) = ((128 ^ (i + 1) : Nat) : Int) := by
      rw [Nat.pow_succ, wu64_eq (by omega) (by omega)]; omega
     rw [hv, e3, w64_eq (by omega) (by omega)]
     refine ⟨⟨rfl, i + 1, acc + c.toNat % 128 * 128 ^ i, by omega, by omega, by omega, rfl, rfl, ?_, htake⟩, by omega⟩
     have h3 : c.toNat % 128 ≤ 127 := by omega
     have h4 := Nat.mul_le_mul_right (128 ^ i) h3
     rw [Nat.pow_succ]
     omega
   refine ⟨fun h9 => key2 _ ?_, fun h9 => key2 false ⟨fun h => absurd h (by decide), fun hh => absurd (of_decide_eq_false h9) (by omega)⟩⟩
   have h9 := of_decide_eq_true h9
   rw [decide_eq_true_iff]
   omega
  ·have hge : ¬ i < S.length := fun hh => by rw [hq.2 hh] at hf; cases hf
   rw [List.drop_of_length_le (by omega)] at htake
   refine ⟨S, by rw [add_plain]; exact hB4.cell rfl, ?_⟩
   exact ans S 10 _ fun w' hx => ⟨hx, .inl ⟨htake.symm, 10, by decide, rfl⟩⟩
 refine ⟨fun hlt => key1 _ ?_, fun hge => key1 false ⟨fun h => absurd h (by decide), fun hh => absurd (of_decide_eq_false hge) (by omega)⟩⟩
 have hlt := of_decide_eq_true hlt
 rw [decide_eq_true_iff]
 omega
theorem rrecords_ok (w : World) (b : List UInt8) (hl : b.length ≤ 4000000) : Calls Try.prog 81 #[str b] w (Ret r81 fun x w' => x.2 = (parse b).2 ∧ Own w' w.heap.size 9 1 x.1 (txts (parse b).1) ∧ x.1.len = (parse b).1.length ∧ Ext w w') := by
 apply s81_calls
 refine ⟨fun st w' => ∃ (f : Nat) (out : List (List UInt8)), st.1.length ≤ f ∧ parseF f st.1 out = parse b ∧ out.length + st.1.length ≤ b.length ∧ Own w' w.heap.size 9 1 st.2 (txts out) ∧ Ext w w',
  fun st _ => st.1.length, ⟨b.length, [], Nat.le_refl _, rfl, by simp, Own.nil _ _ _ _, Ext.refl _⟩, ?_⟩
 rintro ⟨S, s⟩ w2 ⟨f, out, hf, hpar, hob, ho, hx2⟩
 simp only at ho hf hpar hob ⊢
 have hol := ho.length
 simp only [List.length_map] at hol
 refine ⟨fun hne => ?_, fun h0 => ?_⟩
 ·have hne : S ≠ [] := by simpa using hne
  have hpos : 0 < S.length := List.length_pos_iff.2 hne
  obtain ⟨f, rfl⟩ : ∃ f', f = f' + 1 := ⟨f - 1, by omega⟩
  rw [parseF, if_neg hne] at hpar
  refine cR_of (rtake_ok w2 S (by omega)) ?_
  rintro ⟨x7a, x7b⟩ w8 ⟨hx8, hcase⟩
  simp only at hcase
  have hx8' := hx2.trans hx8
  rcases hcase with ⟨htn, e, he, rfl⟩ | ⟨n, rest, htn, rfl, rfl, hn64⟩
  ·rw [htn] at hpar
   simp only at hpar
   refine ⟨rfl, (by intro v hv; simp only [List.mem_cons, List.not_mem_nil, or_false] at hv; rcases hv with rfl | rfl <;> rfl), fun b9 w10 hb9 hw10 => ?_⟩
   have hx10 : Ext w8 w10 := Ext.new hw10
   have hB9 : Blk w10 b9 144 [str S, .int .i64 e] := Blk.new hb9 hw10
   refine ⟨e, by rw [add_plain]; exact hB9.cell rfl, ?_⟩
   refine jn_of fun k1 hk1 => ⟨fun _ => ?_, fun h => absurd (nd_f h) he⟩
   rw [hk1]
   refine jn_of fun k2 hk2 => ⟨fun _ => ?_, fun h => absurd h (by simp)⟩
   rw [hk2]
   refine ⟨fun _ => ?_, fun h => absurd h (by simp)⟩
   rw [← hpar]
   exact ⟨rfl, Own.nil _ _ _ _, rfl, hx8'.trans hx10⟩
  ·rw [htn] at hpar
   simp only at hpar
   have hrl := takeNum_len htn
   refine ⟨rfl, (by intro v hv; simp only [List.mem_cons, List.not_mem_nil, or_false] at hv; rcases hv with rfl | rfl <;> rfl), fun b9 w10 hb9 hw10 => ?_⟩
   have hx10 : Ext w8 w10 := Ext.new hw10
   have hB9 : Blk w10 b9 144 [str rest, .int .i64 0] := Blk.new hb9 hw10
   have hx10' := hx8'.trans hx10
   refine ⟨0, by rw [add_plain]; exact hB9.cell rfl, ?_⟩
   have hR : w10.cell? (Addr.add ⟨b9, 0, none⟩ 0) = some (str rest) := by rw [add_plain]; exact hB9.cell rfl
   refine jn_of fun k1 hk1 => ⟨fun h => absurd h (by simp), fun _ => ?_⟩
   refine ⟨rest, hR, ?_⟩
   rw [hk1]
   refine jn_of fun k2 hk2 => ?_
   have key : ∀ q : Bool, (q = true ↔ (rest.length < 4 ∨ rest.length - 4 < n)) → k2 q w10 := by
    intro q hq
    rw [hk2]
    refine ⟨fun ht => ?_, fun hfl => ?_⟩
    ·rw [if_pos (hq.1 ht)] at hpar
     rw [← hpar]
     exact ⟨rfl, Own.nil _ _ _ _, rfl, hx10'⟩
    have hnn : ¬ (rest.length < 4 ∨ rest.length - 4 < n) := fun hh => by rw [hq.2 hh] at hfl; cases hfl
    rw [if_neg hnn] at hpar
    have e1 : IntKind.i64.wrap (4 + IntKind.i64.wrap (n : Int)) = ((4 + n : Nat) : Int) := by
     rw [w64_eq (x := (n : Int)) (by omega) (by omega), w64_eq (by omega) (by omega)]; omega
    refine ⟨rest, hR, ?_⟩
    rw [e1]
    refine ⟨⟨by omega, by omega, by omega⟩, ?_⟩
    intro w32 hw32
    have hx32 : Ext w10 w32 := by subst hw32; exact Ext.drew _
    refine ⟨rest, hR, ⟨by omega, by omega, by omega⟩, ?_⟩
    have es : (rest.take (Int.toNat ((4 + n : Nat) : Int))).drop (Int.toNat 4) = sliceB rest 4 (4 + n) := by rw [Int.toNat_natCast]; rfl
    have e4 : (rest.take (Int.toNat 4)).drop (Int.toNat 0) = sliceB rest 0 4 := rfl
    rw [es, e4]
    have hsl : (sliceB rest 4 (4 + n)).length = n := by rw [sliceB_len (by omega)]; omega
    have hfe := frame_eq htn (by omega) (by omega)
    generalize hs : sliceB rest 4 (4 + n) = t at hsl hfe hpar ⊢
    refine cR_of (refseal_ok w32 t (by omega)) ?_
    rintro x35 w36 ⟨rfl, hx36⟩
    have hx36' := hx32.trans hx36
    have hsll := sealed_len t
    refine ⟨hx36', ⟨by omega, by omega, by omega⟩, ?_⟩
    have ed : ((sealed t).take (Int.toNat ((sealed t).length : Int))).drop (Int.toNat (t.length : Int)) = le4 (crc t) := by
     rw [Int.toNat_natCast, Int.toNat_natCast, List.take_length]
     unfold sealed
     exact List.drop_left
    rw [ed]
    refine ⟨fun hne' => ?_, fun heq => ?_⟩
    ·rw [if_neg (fun hh => nd_t hne' (hfe.1 hh))] at hpar
     rw [← hpar]
     exact ⟨rfl, Own.nil _ _ _ _, rfl, hx10'.trans hx36'⟩
    ·rw [if_pos (hfe.2 (nd_f heq))] at hpar
     intro b39 w40 hb39 hw40
     have hx40 : Ext w36 w40 := Ext.new hw40
     have hxo := ((hx8.trans hx10).trans hx36').trans hx40
     refine app_ok (base := w.heap.size) mkz_45 rfl (by decide) (ho.ext hxo) (news := txts [t]) rfl (At.new hb39 hw40) (txts_one _) (by simp only [maxLen]; omega) (by first | omega | (simp only; omega)) (hx2.trans hxo).size ?_
     intro s' w' hl' ho' hg' hB'
     have hxw' : Ext w w' := hB' _ _ (hx2.trans hxo) (Nat.le_refl _) (hx2.trans hxo).size
     have hR' : w'.cell? (Addr.add ⟨b9, 0, none⟩ 0) = some (str rest) := by
      have h10 : Ext w10 w40 := hx36'.trans hx40
      have hB40 := hB9.ext h10
      -- the row is another one
      have hg : Blk w' b9 144 [str rest, .int .i64 0] := by
       refine (hg'.block b9 hB40.lt fun e => ?_).trans hB40
       rcases (ho.ext hxo).2 with ⟨h1, _⟩ | ⟨g, cap, cur, h1, _, h3, _⟩
       ·rw [h1] at e
        cases e
       ·rw [h1] at e
        have e : some b9 = some g := e
        cases e
        have hB40 : w40.heap[b9]? = _ := hB40
        rw [hB40] at h3
        simp at h3
      rw [add_plain]; exact hg.cell rfl
     refine ⟨rest, hR', ⟨by omega, by omega, by omega⟩, ?_⟩
     have e5 : (rest.take (Int.toNat (rest.length : Int))).drop (Int.toNat ((4 + n : Nat) : Int)) = rest.drop (4 + n) := by rw [Int.toNat_natCast, Int.toNat_natCast, List.take_length]
     rw [e5]
     have hrd : (rest.drop (4 + n)).length = rest.length - (4 + n) := List.length_drop
     refine ⟨⟨f, out ++ [t], by rw [hrd]; omega, hpar, by rw [List.length_append, List.length_singleton, hrd]; omega, ?_, hxw'⟩, by rw [hrd]; omega⟩
     rw [txts, List.map_append]
     exact ho'
   refine ⟨fun h4 => key true ⟨fun _ => .inl (by have := of_decide_eq_true h4; omega), fun _ => rfl⟩, fun h4 => ?_⟩
   have h4' : ¬ (rest.length < 4) := by have := of_decide_eq_false h4; omega
   refine ⟨rest, hR, ?_⟩
   show k2 _ _
   rw [w64_eq (by omega) (by omega), wu64_eq (by omega) (by omega)]
   refine key _ ?_
   rw [decide_eq_true_iff]
   omega
 ·have h0 : S = [] := by simpa using h0
  subst h0
  have : parseF f [] out = (out, 0) := by cases f <;> rfl
  rw [this] at hpar
  rw [← hpar]
  exact ⟨rfl, ho, (by show s.len = out.length; omega), hx2⟩
end Go.Proofs.Ytagkcbbbdlmcjaa
end
section
/- The typed readings of the functions, and that the program meets each: written by gen.py (a program of this session). -/
namespace Go.Proofs.Ytagkcbbbdlmcjaa
open Go.Lift
set_option maxRecDepth 100000 in
set_option maxHeartbeats 4000000 in
theorem s57_calls (K : List Value × Int → World → Prop) (p0 : List Value) (w : World) (h : s57 K p0 w) :
  Calls Try.prog 57 #[aggv p0] w (Ret r57 K) := by
 unfold s57 at h
 refine calls_of_CW (n := 25) Try.func57 rfl rfl rfl ?_
 refine CW.seq ?_
 refine CW.region ?_
 obtain ⟨b1, hb1_⟩ : ∃ b_, b_ = w.heap.size := ⟨_, rfl⟩
 obtain ⟨w2, hw2_⟩ : ∃ w_, w_ = w.alloc (.cells (List.toArray p0) 52) := ⟨_, rfl⟩
 have h := h b1 w2 hb1_ hw2_
 refine RL.opS trivial rfl (OpW.boxE (cs := p0) (rfl) hb1_ hw2_ ?_)
 obtain ⟨b3, hb3_⟩ : ∃ b_, b_ = w2.heap.size := ⟨_, rfl⟩
 obtain ⟨w4, hw4_⟩ : ∃ w_, w_ = w2.alloc (.cells (List.toArray [Value.slice none 0 0, Value.slice none 0 0, Value.slice none 0 0, Value.int .i64 0, Value.bool false, Value.int .i64 0, Value.int .i64 0, Value.int .u64 0, str [], Value.int .i64 0, Value.bool false]) 52) := ⟨_, rfl⟩
 have h := h b3 w4 hb3_ hw4_
 refine RL.opS trivial rfl (OpW.allocE (b := b3) zero_52 hb3_ hw4_ ?_)
 refine RL.opS trivial rfl (OpW.assign (v := .int .i64 0) rfl ?_)
 refine RL.nil ?_
 refine CW.seq ?_
 refine CW.seq ?_
 refine CW.region ?_
 refine RL.opS trivial rfl (OpW.fieldAddr field_52_6 rfl ?_)
 obtain ⟨x5, h1, h⟩ := h
 refine RL.opS trivial rfl (OpW.load1 (v := .bool x5) one_4 rfl h1 ?_)
 refine RL.nil ?_
 obtain ⟨ha, hc⟩ := h
 refine CW.cond (b := x5) rfl (fun hb6 => ?_) (fun hb6 => ?_)
 ·have h := ha hb6; clear ha hc
  refine CW.seq ?_
  refine CW.region ?_
  obtain ⟨x7, h1, h2, h⟩ := h
  refine RL.opS trivial rfl (OpW.loadA agg_52 rfl h1 h2 ?_)
  obtain ⟨g_, o_, e_, cur_, ha_, h1, h2, h3, h4, h⟩ := h
  obtain ⟨w8, hw8_⟩ : ∃ w_, w_ = w4.setRow g_ (cur_.toList.take o_ ++ x7 ++ cur_.toList.drop (o_ + List.length x7)).toArray := ⟨_, rfl⟩
  have h := h w8 hw8_
  refine RL.opN trivial (OpW.storeAE (cs := x7) size_52 rfl rfl ha_ h1 h2 h3 h4 hw8_ ?_)
  refine RL.opS trivial rfl (OpW.assign (v := .int .i64 3) rfl ?_)
  refine RL.nil ?_
  refine CW.ret ?_
  obtain ⟨x9, hc1, hc2, h⟩ := h
  exact ret_intro (res2c rfl agg_52 rfl hc1 hc2 rfl) ⟨(x9, 3), rfl, h⟩
 ·have h := hc hb6; clear ha hc
  refine CW.skip ?_
  refine CW.seq ?_
  refine CW.seq ?_
  refine CW.region ?_
  refine RL.opS trivial rfl (OpW.fieldAddr field_52_3 rfl ?_)
  obtain ⟨x10, h1, h⟩ := h
  refine RL.opS trivial rfl (OpW.load1 (v := .int .u64 x10) one_25 rfl h1 ?_)
  refine RL.opS trivial rfl (OpW.bin (k := .u64) (a := x10) (b := 4611686018427387904) (v := .bool (decide (x10 = 4611686018427387904))) rfl rfl rfl ?_)
  refine RL.nil ?_
  obtain ⟨ha, hc⟩ := h
  refine CW.cond (b := (decide (x10 = 4611686018427387904))) rfl (fun hb11 => ?_) (fun hb11 => ?_)
  ·have h := ha hb11; clear ha hc
   refine CW.seq ?_
   refine CW.region ?_
   obtain ⟨x12, h1, h2, h⟩ := h
   refine RL.opS trivial rfl (OpW.loadA agg_52 rfl h1 h2 ?_)
   obtain ⟨g_, o_, e_, cur_, ha_, h1, h2, h3, h4, h⟩ := h
   obtain ⟨w13, hw13_⟩ : ∃ w_, w_ = w4.setRow g_ (cur_.toList.take o_ ++ x12 ++ cur_.toList.drop (o_ + List.length x12)).toArray := ⟨_, rfl⟩
   have h := h w13 hw13_
   refine RL.opN trivial (OpW.storeAE (cs := x12) size_52 rfl rfl ha_ h1 h2 h3 h4 hw13_ ?_)
   refine RL.opS trivial rfl (OpW.assign (v := .int .i64 40) rfl ?_)
   refine RL.nil ?_
   refine CW.ret ?_
   obtain ⟨x14, hc1, hc2, h⟩ := h
   exact ret_intro (res2c rfl agg_52 rfl hc1 hc2 rfl) ⟨(x14, 40), rfl, h⟩
  ·have h := hc hb11; clear ha hc
   refine CW.skip ?_
   refine CW.seq ?_
   refine CW.region ?_
   obtain ⟨x15, h1, h2, h⟩ := h
   refine RL.opS trivial rfl (OpW.loadA agg_52 rfl h1 h2 ?_)
   refine RL.opS trivial rfl (OpW.fieldAddr field_52_3 rfl ?_)
   obtain ⟨x16, h1, h⟩ := h
   refine RL.opS trivial rfl (OpW.load1 (v := .int .u64 x16) one_25 rfl h1 ?_)
   refine RL.opS trivial rfl (OpW.bin (k := .u64) (a := x16) (b := 1) (v := .int .u64 (IntKind.u64.wrap (x16 + 1))) rfl rfl rfl ?_)
   refine RL.opS trivial rfl (OpW.callR (al := [aggv x15, .int .u64 (IntKind.u64.wrap (x16 + 1)), str []]) Try.func80 fb_80 fn_80 rfl h (fun x17 w18 h => ?_))
   refine RL.opS trivial rfl (OpW.move (v := .tuple #[aggv x17.1, .int .i64 x17.2]) rfl ?_)
   refine RL.opS trivial rfl (OpW.extract (v := aggv x17.1) rfl rfl ?_)
   refine RL.opS trivial rfl (OpW.extract (v := .int .i64 x17.2) rfl rfl ?_)
   obtain ⟨g_, o_, e_, cur_, ha_, h1, h2, h3, h4, h⟩ := h
   obtain ⟨w19, hw19_⟩ : ∃ w_, w_ = w18.setRow g_ (cur_.toList.take o_ ++ x17.1 ++ cur_.toList.drop (o_ + List.length x17.1)).toArray := ⟨_, rfl⟩
   have h := h w19 hw19_
   refine RL.opN trivial (OpW.storeAE (cs := x17.1) size_52 rfl rfl ha_ h1 h2 h3 h4 hw19_ ?_)
   refine RL.opS trivial rfl (OpW.assign (v := .int .i64 x17.2) rfl ?_)
   refine RL.nil ?_
   refine jn_elim h ?_; clear h; intro k31 hk32 h
   refine CW.seqJ (A := Unit) (fun s23 ρ => ρ 1 = .pointer (some ⟨b1, 0, none⟩) ∧ ρ 2 = .pointer (some ⟨b3, 0, none⟩) ∧ ρ 4 = .int .i64 x17.2) k31 ?_ ?_
   ·rintro s23 ρ w24 ⟨e25, e26, e27⟩ h
    subst hk32
    refine CW.seq ?_
    refine CW.region ?_
    obtain ⟨x28, h1, h2, h⟩ := h
    refine RL.opS trivial rfl (OpW.loadA agg_52 e25 h1 h2 ?_)
    refine RL.opS trivial rfl (OpW.move (v := .int .i64 x17.2) e27 ?_)
    obtain ⟨g_, o_, e_, cur_, ha_, h1, h2, h3, h4, h⟩ := h
    obtain ⟨w29, hw29_⟩ : ∃ w_, w_ = w24.setRow g_ (cur_.toList.take o_ ++ x28 ++ cur_.toList.drop (o_ + List.length x28)).toArray := ⟨_, rfl⟩
    have h := h w29 hw29_
    refine RL.opN trivial (OpW.storeAE (cs := x28) size_52 e26 rfl ha_ h1 h2 h3 h4 hw29_ ?_)
    refine RL.opS trivial rfl (OpW.assign (v := .int .i64 x17.2) rfl ?_)
    refine RL.nil ?_
    refine CW.ret ?_
    obtain ⟨x30, hc1, hc2, h⟩ := h
    exact ret_intro (res2c rfl agg_52 e26 hc1 hc2 rfl) ⟨(x30, x17.2), rfl, h⟩
   ·clear hk32
    refine CW.seq ?_
    refine CW.region ?_
    refine RL.opS trivial rfl (OpW.move (v := .int .i64 x17.2) rfl ?_)
    refine RL.opS trivial rfl (OpW.bin (k := .i64) (a := x17.2) (b := 0) (v := .bool (decide (x17.2 = 0))) rfl rfl rfl ?_)
    refine RL.nil ?_
    obtain ⟨ha, hc⟩ := h
    refine CW.cond (b := (decide (x17.2 = 0))) rfl (fun hb21 => ?_) (fun hb21 => ?_)
    ·have h := ha hb21; clear ha hc
     refine CW.region ?_
     refine RL.opS trivial rfl (OpW.fieldAddr field_52_5 rfl ?_)
     obtain ⟨u_, h1, h2, h⟩ := h
     obtain ⟨w22, hw22_⟩ : ∃ w_, w_ = w19.setCell (Addr.add ⟨b1, 0, none⟩ 9) (.int .i64 0) := ⟨_, rfl⟩
     have h := h w22 hw22_
     refine RL.opN trivial (OpW.store1E (v := .int .i64 0) size_3 rfl rfl rfl h1 h2 hw22_ ?_)
     refine RL.nil ?_
     exact ⟨(), ⟨rfl, rfl, rfl⟩, h⟩
    ·have h := hc hb21; clear ha hc
     refine CW.skip ?_
     exact ⟨(), ⟨rfl, rfl, rfl⟩, h⟩
end Go.Proofs.Ytagkcbbbdlmcjaa
end
