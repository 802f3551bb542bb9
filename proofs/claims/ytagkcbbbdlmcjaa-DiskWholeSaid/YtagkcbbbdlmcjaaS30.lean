/- The typed readings of the functions, and that the program meets each: written by gen.py (a program of this session). -/
import Derived.Test.YtagkcbbbdlmcjaaLiftDraw
import Derived.Test.YtagkcbbbdlmcjaaRead
set_option linter.unusedVariables false
set_option linter.unusedSimpArgs false
namespace Go.Proofs.Ytagkcbbbdlmcjaa
open Go.Lift
set_option maxRecDepth 100000 in
set_option maxHeartbeats 4000000 in
theorem s30_calls (K : Bool → World → Prop)  (w : World) (h : s30 K  w) :
    Calls Try.prog 30 #[] w (Ret r30 K) := by
  unfold s30 at h
  refine calls_of_CW (n := 56) Try.func30 rfl rfl rfl ?_
  refine CW.seq ?_
  refine CW.region ?_
  refine RL.opS trivial rfl (OpW.assign (v := .bool false) rfl ?_)
  refine RL.nil ?_
  refine CW.seq ?_
  refine CW.region ?_
  refine RL.opS trivial rfl (OpW.callR (al := [.int .i64 2]) Try.func15 fb_15 fn_15 rfl h (fun x1 w2 h => ?_))
  refine RL.opS trivial rfl (OpW.move (v := .tuple #[.pointer x1.1, .int .i64 x1.2]) rfl ?_)
  refine RL.opS trivial rfl (OpW.extract (v := .pointer x1.1) rfl rfl ?_)
  refine RL.opS trivial rfl (OpW.extract (v := .int .i64 x1.2) rfl rfl ?_)
  refine RL.opS trivial rfl (OpW.assign (v := .pointer x1.1) rfl ?_)
  refine RL.opS trivial rfl (OpW.assign (v := .int .i64 x1.2) rfl ?_)
  refine RL.nil ?_
  refine CW.seq ?_
  refine CW.seq ?_
  refine CW.region ?_
  refine RL.opS trivial rfl (OpW.move (v := .pointer x1.1) rfl ?_)
  refine RL.opS trivial rfl (OpW.ptrNil (b := x1.1.isNone) (p := x1.1) ptr_31 rfl rfl rfl ?_)
  refine RL.opS trivial rfl (OpW.move (v := .bool (x1.1.isNone)) rfl ?_)
  refine jn_elim h ?_; clear h; intro k77 hk78 h
  refine RL.joinAt (A := Bool) 3 (fun s5 ρ => ρ 13 = .bool s5 ∧ ρ 1 = .pointer x1.1) k77 ?_ ?_
  · rintro s5 ρ w6 ⟨e7, e8⟩ h
    subst hk78
    dsimp only [List.drop]
    refine RL.opS trivial rfl (OpW.move (v := .bool s5) e7 ?_)
    refine jn_elim h ?_; clear h; intro k75 hk76 h
    refine RL.joinAt (A := Bool) 5 (fun s15 ρ => ρ 19 = .bool s15 ∧ ρ 1 = .pointer x1.1) k75 ?_ ?_
    · rintro s15 ρ w16 ⟨e17, e18⟩ h
      subst hk76
      dsimp only [List.drop]
      refine RL.opS trivial rfl (OpW.move (v := .bool s15) e17 ?_)
      refine jn_elim h ?_; clear h; intro k73 hk74 h
      refine RL.joinAt (A := Bool) 4 (fun s23 ρ => ρ 24 = .bool s23 ∧ ρ 1 = .pointer x1.1) k73 ?_ ?_
      · rintro s23 ρ w24 ⟨e25, e26⟩ h
        subst hk74
        dsimp only [List.drop]
        refine RL.opS trivial rfl (OpW.move (v := .bool s23) e25 ?_)
        refine jn_elim h ?_; clear h; intro k71 hk72 h
        refine RL.joinAt (A := Bool) 5 (fun s33 ρ => ρ 30 = .bool s33 ∧ ρ 1 = .pointer x1.1) k71 ?_ ?_
        · rintro s33 ρ w34 ⟨e35, e36⟩ h
          subst hk72
          dsimp only [List.drop]
          refine RL.nil ?_
          obtain ⟨ha, hc⟩ := h
          refine CW.cond (b := s33) e35 (fun hb37 => ?_) (fun hb37 => ?_)
          · have h := ha hb37; clear ha hc
            refine CW.seq ?_
            refine CW.region ?_
            refine RL.opS trivial rfl (OpW.assign (v := .bool false) rfl ?_)
            refine RL.nil ?_
            refine CW.ret ?_
            exact ret_intro (res1 rfl rfl) ⟨false, rfl, h⟩
          · have h := hc hb37; clear ha hc
            refine CW.skip ?_
            refine CW.seq ?_
            refine CW.region ?_
            refine RL.opS trivial rfl (OpW.move (v := .pointer x1.1) e36 ?_)
            refine RL.opS trivial rfl (OpW.buildL (vs := [(2, .int .i64 2)]) (cs := [Value.int .i64 0, Value.int .u64 0, .int .i64 2]) (by rfl) (fun _ => by kernel_rfl) ?_)
            refine RL.opS trivial rfl (OpW.callR (al := [.pointer x1.1, aggv [Value.int .i64 0, Value.int .u64 0, .int .i64 2]]) Try.func35 fb_35 fn_35 rfl h (fun x38 w39 h => ?_))
            refine RL.nil ?_
            refine CW.seq ?_
            refine CW.seq ?_
            refine CW.region ?_
            refine RL.opS trivial rfl (OpW.move (v := .pointer x1.1) e36 ?_)
            refine RL.opS trivial rfl (OpW.callR (al := [.pointer x1.1]) Try.func38 fb_38 fn_38 rfl h (fun x40 w41 h => ?_))
            refine RL.opS trivial rfl (OpW.not rfl ?_)
            refine RL.opS trivial rfl (OpW.move (v := .bool (!x40)) rfl ?_)
            refine jn_elim h ?_; clear h; intro k69 hk70 h
            refine RL.joinAt (A := Bool) 4 (fun s46 ρ => ρ 41 = .bool s46 ∧ ρ 1 = .pointer x1.1) k69 ?_ ?_
            · rintro s46 ρ w47 ⟨e48, e49⟩ h
              subst hk70
              dsimp only [List.drop]
              refine RL.nil ?_
              obtain ⟨ha, hc⟩ := h
              refine CW.cond (b := s46) e48 (fun hb50 => ?_) (fun hb50 => ?_)
              · have h := ha hb50; clear ha hc
                refine CW.seq ?_
                refine CW.region ?_
                refine RL.opS trivial rfl (OpW.assign (v := .bool false) rfl ?_)
                refine RL.nil ?_
                refine CW.ret ?_
                exact ret_intro (res1 rfl rfl) ⟨false, rfl, h⟩
              · have h := hc hb50; clear ha hc
                refine CW.skip ?_
                refine CW.seq ?_
                refine CW.region ?_
                refine RL.opS trivial rfl (OpW.move (v := .pointer x1.1) e49 ?_)
                refine RL.opS trivial rfl (OpW.callR (al := [.pointer x1.1, .int .i64 1]) Try.func28 fb_28 fn_28 rfl h (fun x51 w52 h => ?_))
                refine RL.opS trivial rfl (OpW.move (v := .tuple #[Sl.v x51.1, .int .i64 x51.2]) rfl ?_)
                refine RL.opS trivial rfl (OpW.extract (v := Sl.v x51.1) rfl rfl ?_)
                refine RL.opS trivial rfl (OpW.extract (v := .int .i64 x51.2) rfl rfl ?_)
                refine RL.opS trivial rfl (OpW.assign (v := Sl.v x51.1) rfl ?_)
                refine RL.opS trivial rfl (OpW.assign (v := .int .i64 x51.2) rfl ?_)
                refine RL.nil ?_
                refine CW.seq ?_
                obtain ⟨w53, hw53_⟩ : ∃ w_, w_ = w52.drew := ⟨_, rfl⟩
                have h := h w53 hw53_
                have hx54 : Ext w52 w53 := by rw [hw53_]; exact Ext.drew _
                refine CW.draws (m := 10) (listed := #[false, false, false, false, false, false, false, false, false, false]) mixed [0, 1, 2, 3, 4, 5, 6, 7, 8, 9] (Ext w52) rfl rfl ?_
                rw [← hw53_]
                refine DL.takeP (listed' := #[true, false, false, false, false, false, false, false, false, false]) (v := .int .i64 x51.2) 0 rfl rfl (by kernel_rfl) rfl trivial rfl (fun w_ K_ h_ => OpW.move (v := .int .i64 x51.2) rfl h_) ?_
                refine DL.takeP (listed' := #[true, true, false, false, false, false, false, false, false, false]) (v := .bool (decide (x51.2 = 0))) 1 rfl rfl (by kernel_rfl) rfl trivial rfl (fun w_ K_ h_ => OpW.bin (k := .i64) (a := x51.2) (b := 0) (v := .bool (decide (x51.2 = 0))) rfl rfl rfl h_) ?_
                refine DL.takeP (listed' := #[true, true, true, false, false, false, false, false, false, false]) (v := .bool (decide (x51.2 = 0))) 2 rfl rfl (by kernel_rfl) rfl trivial rfl (fun w_ K_ h_ => OpW.move (v := .bool (decide (x51.2 = 0))) rfl h_) ?_
                refine jn_elim h ?_; clear h; intro k67 hk68 h
                refine DL.cut (A := Bool) (fun s63 ρ => ρ 55 = .bool s63) k67 1 #[true, true, true, true, true, true, true, true, true, false] ?_ ?_
                · rintro s63 ρ w64 e66 h
                  subst hk68
                  refine DL.takeP (listed' := #[true, true, true, true, true, true, true, true, true, true]) (v := .bool s63) 9 rfl rfl (by kernel_rfl) rfl trivial rfl (fun w_ K_ h_ => OpW.assign (v := .bool s63) e66 h_) ?_
                  refine DL.done (by kernel_rfl) ?_
                  refine CW.ret ?_
                  exact ret_intro (res1 rfl rfl) ⟨s63, rfl, h⟩
                · intro hJJ55; clear hk68
                  obtain ⟨ha, hc⟩ := h
                  rcases Bool.eq_false_or_eq_true (decide (x51.2 = 0)) with hb56 | hb56
                  · have h := ha hb56; clear ha hc
                    refine DL.takeP (listed' := #[true, true, true, true, false, false, false, false, false, false]) (v := Sl.v x51.1) 3 rfl rfl (by kernel_rfl) rfl (wanted_of rfl rfl hb56) rfl (fun w_ K_ h_ => OpW.move (v := Sl.v x51.1) rfl h_) ?_
                    obtain ⟨x57, h1, h2, h⟩ := h
                    refine DL.takeK (listed' := #[true, true, true, true, true, false, false, false, false, false]) (v := str x57) 4 rfl rfl (by kernel_rfl) (by kernel_rfl) rfl (wanted_of rfl rfl hb56) rfl hx54 (fun w_ hS_ K_ h_ => OpW.b2s bsl_39 str_9 rfl h1 (hS_.atO h2) h_) ?_
                    refine DL.execS (listed' := #[true, true, true, true, true, true, false, false, false, false]) 5 rfl (by kernel_rfl) rfl (wanted_of rfl rfl hb56) rfl (OpW.callR (al := [.int .u8 120, str [121, 121]]) Try.func32 fb_32 fn_32 rfl h (fun x58 w59 h => ?_))
                    obtain ⟨hx60, h⟩ := h
                    refine ⟨(fun _ _ => hx60), ?_⟩
                    obtain ⟨x61, h1, h2, h⟩ := h
                    refine DL.execS (listed' := #[true, true, true, true, true, true, true, false, false, false]) 6 rfl (by kernel_rfl) rfl (wanted_of rfl rfl hb56) rfl (OpW.b2s bsl_39 str_9 rfl h1 h2 ?_)
                    refine ⟨(fun _ _ => hx60), ?_⟩
                    refine DL.takeP (listed' := #[true, true, true, true, true, true, true, true, false, false]) (v := .bool (decide (x57 = x61))) 7 rfl rfl (by kernel_rfl) rfl (wanted_of rfl rfl hb56) rfl (fun w_ K_ h_ => OpW.strCmp (b := decide (x57 = x61)) rfl rfl rfl h_) ?_
                    refine DL.takeP (listed' := #[true, true, true, true, true, true, true, true, true, false]) (v := .bool (decide (x57 = x61))) 8 rfl rfl (by kernel_rfl) rfl trivial rfl (fun w_ K_ h_ => OpW.pick (b := true) (v := .bool (decide (x57 = x61))) (congrArg Value.bool hb56) rfl h_) ?_
                    exact hJJ55 _ _ ⟨(decide (x57 = x61)), rfl, h⟩
                  · have h := hc hb56; clear ha hc
                    refine DL.skipP (listed' := #[true, true, true, true, false, false, false, false, false, false]) 3 rfl (by kernel_rfl) rfl (notWanted_of rfl rfl hb56) rfl ?_
                    refine DL.skipP (listed' := #[true, true, true, true, true, false, false, false, false, false]) 4 rfl (by kernel_rfl) rfl (notWanted_of rfl rfl hb56) rfl ?_
                    refine DL.skipX (listed' := #[true, true, true, true, true, true, false, false, false, false]) 5 rfl (by kernel_rfl) rfl (notWanted_of rfl rfl hb56) rfl ?_
                    refine DL.skipX (listed' := #[true, true, true, true, true, true, true, false, false, false]) 6 rfl (by kernel_rfl) rfl (notWanted_of rfl rfl hb56) rfl ?_
                    refine DL.skipP (listed' := #[true, true, true, true, true, true, true, true, false, false]) 7 rfl (by kernel_rfl) rfl (notWanted_of rfl rfl hb56) rfl ?_
                    refine DL.takeP (listed' := #[true, true, true, true, true, true, true, true, true, false]) (v := .bool false) 8 rfl rfl (by kernel_rfl) rfl trivial rfl (fun w_ K_ h_ => OpW.pick (b := false) (v := .bool false) (congrArg Value.bool hb56) rfl h_) ?_
                    exact hJJ55 _ _ ⟨false, rfl, h⟩
            · clear hk70
              dsimp only [List.take]
              obtain ⟨ha, hc⟩ := h
              rcases Bool.eq_false_or_eq_true (!x40) with hb42 | hb42
              · have h := ha hb42; clear ha hc
                refine RL.skipS (notWanted_of rfl rfl hb42) rfl ?_
                refine RL.skipS (notWanted_of rfl rfl hb42) rfl ?_
                refine RL.skipS (notWanted_of rfl rfl hb42) rfl ?_
                refine RL.opS trivial rfl (OpW.pick (b := true) (v := .bool true) (congrArg Value.bool hb42) rfl ?_)
                refine RL.nil ?_
                exact ⟨true, ⟨rfl, e36⟩, h⟩
              · have h := hc hb42; clear ha hc
                refine RL.opS (wanted_of rfl rfl hb42) rfl (OpW.move (v := .pointer x1.1) e36 ?_)
                refine RL.opS (wanted_of rfl rfl hb42) rfl (OpW.callR (al := [.pointer x1.1]) Try.func27 fb_27 fn_27 rfl h (fun x44 w45 h => ?_))
                refine RL.opS (wanted_of rfl rfl hb42) rfl (OpW.not rfl ?_)
                refine RL.opS trivial rfl (OpW.pick (b := false) (v := .bool (!x44)) (congrArg Value.bool hb42) rfl ?_)
                refine RL.nil ?_
                exact ⟨(!x44), ⟨rfl, e36⟩, h⟩
        · clear hk72
          dsimp only [List.take]
          obtain ⟨ha, hc⟩ := h
          rcases Bool.eq_false_or_eq_true s23 with hb27 | hb27
          · have h := ha hb27; clear ha hc
            refine RL.skipS (notWanted_of rfl rfl hb27) rfl ?_
            refine RL.skipS (notWanted_of rfl rfl hb27) rfl ?_
            refine RL.skipS (notWanted_of rfl rfl hb27) rfl ?_
            refine RL.skipS (notWanted_of rfl rfl hb27) rfl ?_
            refine RL.opS trivial rfl (OpW.pick (b := true) (v := .bool true) (congrArg Value.bool hb27) rfl ?_)
            refine RL.nil ?_
            exact ⟨true, ⟨rfl, e26⟩, h⟩
          · have h := hc hb27; clear ha hc
            refine RL.opS (wanted_of rfl rfl hb27) rfl (OpW.move (v := .pointer x1.1) e26 ?_)
            refine RL.opS (wanted_of rfl rfl hb27) rfl (OpW.callR (al := [.int .u8 121, str []]) Try.func32 fb_32 fn_32 rfl h (fun x29 w30 h => ?_))
            refine RL.opS (wanted_of rfl rfl hb27) rfl (OpW.callR (al := [.pointer x1.1, .int .i64 1, Sl.v x29]) Try.func33 fb_33 fn_33 rfl h (fun x31 w32 h => ?_))
            refine RL.opS (wanted_of rfl rfl hb27) rfl (OpW.bin (k := .i64) (a := x31) (b := 0) (v := .bool (!decide (x31 = 0))) rfl rfl rfl ?_)
            refine RL.opS trivial rfl (OpW.pick (b := false) (v := .bool (!decide (x31 = 0))) (congrArg Value.bool hb27) rfl ?_)
            refine RL.nil ?_
            exact ⟨(!decide (x31 = 0)), ⟨rfl, e26⟩, h⟩
      · clear hk74
        dsimp only [List.take]
        obtain ⟨ha, hc⟩ := h
        rcases Bool.eq_false_or_eq_true s15 with hb19 | hb19
        · have h := ha hb19; clear ha hc
          refine RL.skipS (notWanted_of rfl rfl hb19) rfl ?_
          refine RL.skipS (notWanted_of rfl rfl hb19) rfl ?_
          refine RL.skipS (notWanted_of rfl rfl hb19) rfl ?_
          refine RL.opS trivial rfl (OpW.pick (b := true) (v := .bool true) (congrArg Value.bool hb19) rfl ?_)
          refine RL.nil ?_
          exact ⟨true, ⟨rfl, e18⟩, h⟩
        · have h := hc hb19; clear ha hc
          refine RL.opS (wanted_of rfl rfl hb19) rfl (OpW.move (v := .pointer x1.1) e18 ?_)
          refine RL.opS (wanted_of rfl rfl hb19) rfl (OpW.callR (al := [.pointer x1.1]) Try.func34 fb_34 fn_34 rfl h (fun x21 w22 h => ?_))
          refine RL.opS (wanted_of rfl rfl hb19) rfl (OpW.bin (k := .i64) (a := x21) (b := 0) (v := .bool (!decide (x21 = 0))) rfl rfl rfl ?_)
          refine RL.opS trivial rfl (OpW.pick (b := false) (v := .bool (!decide (x21 = 0))) (congrArg Value.bool hb19) rfl ?_)
          refine RL.nil ?_
          exact ⟨(!decide (x21 = 0)), ⟨rfl, e18⟩, h⟩
    · clear hk76
      dsimp only [List.take]
      obtain ⟨ha, hc⟩ := h
      rcases Bool.eq_false_or_eq_true s5 with hb9 | hb9
      · have h := ha hb9; clear ha hc
        refine RL.skipS (notWanted_of rfl rfl hb9) rfl ?_
        refine RL.skipS (notWanted_of rfl rfl hb9) rfl ?_
        refine RL.skipS (notWanted_of rfl rfl hb9) rfl ?_
        refine RL.skipS (notWanted_of rfl rfl hb9) rfl ?_
        refine RL.opS trivial rfl (OpW.pick (b := true) (v := .bool true) (congrArg Value.bool hb9) rfl ?_)
        refine RL.nil ?_
        exact ⟨true, ⟨rfl, e8⟩, h⟩
      · have h := hc hb9; clear ha hc
        refine RL.opS (wanted_of rfl rfl hb9) rfl (OpW.move (v := .pointer x1.1) e8 ?_)
        refine RL.opS (wanted_of rfl rfl hb9) rfl (OpW.callR (al := [.int .u8 120, str []]) Try.func32 fb_32 fn_32 rfl h (fun x11 w12 h => ?_))
        refine RL.opS (wanted_of rfl rfl hb9) rfl (OpW.callR (al := [.pointer x1.1, .int .i64 1, Sl.v x11]) Try.func33 fb_33 fn_33 rfl h (fun x13 w14 h => ?_))
        refine RL.opS (wanted_of rfl rfl hb9) rfl (OpW.bin (k := .i64) (a := x13) (b := 0) (v := .bool (!decide (x13 = 0))) rfl rfl rfl ?_)
        refine RL.opS trivial rfl (OpW.pick (b := false) (v := .bool (!decide (x13 = 0))) (congrArg Value.bool hb9) rfl ?_)
        refine RL.nil ?_
        exact ⟨(!decide (x13 = 0)), ⟨rfl, e8⟩, h⟩
  · clear hk78
    dsimp only [List.take]
    obtain ⟨ha, hc⟩ := h
    rcases Bool.eq_false_or_eq_true (x1.1.isNone) with hb3 | hb3
    · have h := ha hb3; clear ha hc
      refine RL.skipS (notWanted_of rfl rfl hb3) rfl ?_
      refine RL.skipS (notWanted_of rfl rfl hb3) rfl ?_
      refine RL.opS trivial rfl (OpW.pick (b := true) (v := .bool true) (congrArg Value.bool hb3) rfl ?_)
      refine RL.nil ?_
      exact ⟨true, ⟨rfl, rfl⟩, h⟩
    · have h := hc hb3; clear ha hc
      refine RL.opS (wanted_of rfl rfl hb3) rfl (OpW.move (v := .int .i64 x1.2) rfl ?_)
      refine RL.opS (wanted_of rfl rfl hb3) rfl (OpW.bin (k := .i64) (a := x1.2) (b := 0) (v := .bool (!decide (x1.2 = 0))) rfl rfl rfl ?_)
      refine RL.opS trivial rfl (OpW.pick (b := false) (v := .bool (!decide (x1.2 = 0))) (congrArg Value.bool hb3) rfl ?_)
      refine RL.nil ?_
      exact ⟨(!decide (x1.2 = 0)), ⟨rfl, rfl⟩, h⟩
end Go.Proofs.Ytagkcbbbdlmcjaa
