/- The typed readings of the functions, and that the program meets each: written by gen.py (a program of this session). -/
import Derived.Test.YtmlbmnaknjdmgaaLiftDraw
import Derived.Test.YtmlbmnaknjdmgaaRead
set_option linter.unusedVariables false
set_option linter.unusedSimpArgs false
namespace Go.Proofs.Ytmlbmnaknjdmgaa
open Go.Lift
set_option maxRecDepth 100000 in
set_option maxHeartbeats 4000000 in
theorem s5_calls (K : Bool → World → Prop) (p0 : Sl) (p1 : Bool) (w : World) (h : s5 K p0 p1 w) :
    Calls Try.prog 5 #[Sl.v p0, .bool p1] w (Ret r5 K) := by
  unfold s5 at h
  refine calls_of_CW (n := 72) Try.func5 rfl rfl rfl ?_
  refine CW.seq ?_
  refine CW.region ?_
  refine RL.opS trivial rfl (OpW.assign (v := .bool false) rfl ?_)
  refine RL.nil ?_
  refine CW.seq ?_
  refine CW.seq ?_
  refine CW.region ?_
  refine RL.opS trivial rfl (OpW.callR (al := []) Try.func8 fb_8 fn_8 rfl h (fun x1 w2 h => ?_))
  refine RL.opS trivial rfl (OpW.not rfl ?_)
  refine RL.opS trivial rfl (OpW.move (v := .bool (!x1)) rfl ?_)
  refine jn_elim h ?_; clear h; intro k71 hk72 h
  refine RL.joinAt (A := Bool) 4 (fun s5 ρ => ρ 15 = .bool s5 ∧ ρ 0 = Sl.v p0 ∧ ρ 1 = .bool p1) k71 ?_ ?_
  · rintro s5 ρ w6 ⟨e7, e8, e9⟩ h
    subst hk72
    dsimp only [List.drop]
    refine RL.nil ?_
    obtain ⟨ha, hc⟩ := h
    refine CW.cond (b := s5) e7 (fun hb10 => ?_) (fun hb10 => ?_)
    · have h := ha hb10; clear ha hc
      refine CW.seq ?_
      refine CW.region ?_
      refine RL.opS trivial rfl (OpW.callR (al := []) Try.func8 fb_8 fn_8 rfl h (fun x11 w12 h => ?_))
      refine RL.opS trivial rfl (OpW.assign (v := .bool x11) rfl ?_)
      refine RL.nil ?_
      refine CW.ret ?_
      exact ret_intro (res1 rfl rfl) ⟨x11, rfl, h⟩
    · have h := hc hb10; clear ha hc
      refine CW.skip ?_
      refine CW.seq ?_
      refine CW.region ?_
      obtain ⟨b13, hb13_⟩ : ∃ b_, b_ = w6.heap.size := ⟨_, rfl⟩
      obtain ⟨w14, hw14_⟩ : ∃ w_, w_ = w6.alloc (.cells (List.toArray []) 5) := ⟨_, rfl⟩
      have h := h b13 w14 hb13_ hw14_
      refine RL.opS trivial rfl (OpW.buildSliceE (vs := []) (cs := []) (by rfl) (by kernel_rfl) hb13_ hw14_ ?_)
      refine RL.opS trivial rfl (OpW.move (v := Sl.v p0) e8 ?_)
      obtain ⟨x15, w16, hr_, h⟩ := h
      refine RL.opS trivial rfl (OpW.appendL (v := Sl.v x15) rfl hr_ ?_)
      refine RL.opS trivial rfl (OpW.assign (v := Sl.v x15) rfl ?_)
      refine RL.nil ?_
      refine jn_elim h ?_; clear h; intro k69 hk70 h
      refine CW.seqJ (A := Sl) (fun s29 ρ => ρ 5 = Sl.v s29) k69 ?_ ?_
      · rintro s29 ρ w30 e31 h
        subst hk70
        refine CW.seq ?_
        refine CW.region ?_
        refine RL.opS trivial rfl (OpW.move (v := Sl.v s29) e31 ?_)
        refine RL.opS trivial rfl (OpW.callR (al := [Sl.v s29]) Try.func14 fb_14 fn_14 rfl h (fun x32 w33 h => ?_))
        refine RL.opS trivial rfl (OpW.move (v := .tuple #[Sl.v x32.1, .int .i64 x32.2]) rfl ?_)
        refine RL.opS trivial rfl (OpW.extract (v := Sl.v x32.1) rfl rfl ?_)
        refine RL.opS trivial rfl (OpW.extract (v := .int .i64 x32.2) rfl rfl ?_)
        refine RL.opS trivial rfl (OpW.assign (v := Sl.v x32.1) rfl ?_)
        refine RL.opS trivial rfl (OpW.assign (v := .int .i64 x32.2) rfl ?_)
        refine RL.nil ?_
        refine CW.seq ?_
        refine CW.region ?_
        refine RL.opS trivial rfl (OpW.move (v := Sl.v s29) e31 ?_)
        refine RL.opS trivial rfl (OpW.len (s := s29) slice_25 rfl ?_)
        refine RL.opS trivial rfl (OpW.bin (k := .i64) (a := (s29.len : Int)) (b := 4) (v := .int .i64 (IntKind.i64.wrap ((s29.len : Int) - 4))) rfl rfl rfl ?_)
        refine RL.opS trivial rfl (OpW.assign (v := .int .i64 (IntKind.i64.wrap ((s29.len : Int) - 4))) rfl ?_)
        refine RL.nil ?_
        refine CW.seq ?_
        refine CW.seq ?_
        refine CW.region ?_
        refine RL.opS trivial rfl (OpW.move (v := .int .i64 (IntKind.i64.wrap ((s29.len : Int) - 4))) rfl ?_)
        refine RL.opS trivial rfl (OpW.bin (k := .i64) (a := (IntKind.i64.wrap ((s29.len : Int) - 4))) (b := 0) (v := .bool (decide ((IntKind.i64.wrap ((s29.len : Int) - 4)) < 0))) rfl rfl rfl ?_)
        refine RL.nil ?_
        obtain ⟨ha, hc⟩ := h
        refine CW.cond (b := (decide ((IntKind.i64.wrap ((s29.len : Int) - 4)) < 0))) rfl (fun hb34 => ?_) (fun hb34 => ?_)
        · have h := ha hb34; clear ha hc
          refine CW.seq ?_
          refine CW.region ?_
          refine RL.opS trivial rfl (OpW.move (v := .int .i64 x32.2) rfl ?_)
          refine RL.opS trivial rfl (OpW.bin (k := .i64) (a := x32.2) (b := 10) (v := .bool (decide (x32.2 = 10))) rfl rfl rfl ?_)
          refine RL.opS trivial rfl (OpW.move (v := .bool (decide (x32.2 = 10))) rfl ?_)
          refine jn_elim h ?_; clear h; intro k40 hk41 h
          refine RL.joinAt (A := Bool) 4 (fun s37 ρ => ρ 45 = .bool s37) k40 ?_ ?_
          · rintro s37 ρ w38 e39 h
            subst hk41
            dsimp only [List.drop]
            refine RL.opS trivial rfl (OpW.assign (v := .bool s37) e39 ?_)
            refine RL.nil ?_
            refine CW.ret ?_
            exact ret_intro (res1 rfl rfl) ⟨s37, rfl, h⟩
          · clear hk41
            dsimp only [List.take]
            obtain ⟨ha, hc⟩ := h
            rcases Bool.eq_false_or_eq_true (decide (x32.2 = 10)) with hb35 | hb35
            · have h := ha hb35; clear ha hc
              refine RL.opS (wanted_of rfl rfl hb35) rfl (OpW.move (v := Sl.v x32.1) rfl ?_)
              refine RL.opS (wanted_of rfl rfl hb35) rfl (OpW.len (s := x32.1) slice_25 rfl ?_)
              refine RL.opS (wanted_of rfl rfl hb35) rfl (OpW.bin (k := .i64) (a := (x32.1.len : Int)) (b := 0) (v := .bool (decide ((x32.1.len : Int) = 0))) rfl rfl rfl ?_)
              refine RL.opS trivial rfl (OpW.pick (b := true) (v := .bool (decide ((x32.1.len : Int) = 0))) (congrArg Value.bool hb35) rfl ?_)
              refine RL.nil ?_
              exact ⟨(decide ((x32.1.len : Int) = 0)), rfl, h⟩
            · have h := hc hb35; clear ha hc
              refine RL.skipS (notWanted_of rfl rfl hb35) rfl ?_
              refine RL.skipS (notWanted_of rfl rfl hb35) rfl ?_
              refine RL.skipS (notWanted_of rfl rfl hb35) rfl ?_
              refine RL.opS trivial rfl (OpW.pick (b := false) (v := .bool false) (congrArg Value.bool hb35) rfl ?_)
              refine RL.nil ?_
              exact ⟨false, rfl, h⟩
        · have h := hc hb34; clear ha hc
          refine CW.skip ?_
          refine CW.seq ?_
          refine CW.seq ?_
          obtain ⟨w42, hw42_⟩ : ∃ w_, w_ = w33.drew := ⟨_, rfl⟩
          have h := h w42 hw42_
          have hx43 : Ext w33 w42 := by rw [hw42_]; exact Ext.drew _
          refine CW.draws (m := 8) (listed := #[false, false, false, false, false, false, false, false]) mixed [0, 1, 2, 3, 5, 6, 4, 7] (Ext w33) rfl rfl ?_
          rw [← hw42_]
          refine DL.takeK (listed' := #[true, false, false, false, false, false, false, false]) (v := Sl.v s29) 0 rfl rfl (by kernel_rfl) (by kernel_rfl) rfl trivial rfl hx43 (fun w_ hS_ K_ h_ => OpW.move (v := Sl.v s29) e31 h_) ?_
          refine DL.takeK (listed' := #[true, true, false, false, false, false, false, false]) (v := .int .i64 (IntKind.i64.wrap ((s29.len : Int) - 4))) 1 rfl rfl (by kernel_rfl) (by kernel_rfl) rfl trivial rfl hx43 (fun w_ hS_ K_ h_ => OpW.move (v := .int .i64 (IntKind.i64.wrap ((s29.len : Int) - 4))) rfl h_) ?_
          obtain ⟨⟨h1, h2, h3⟩, h⟩ := h
          refine DL.takeK (listed' := #[true, true, true, false, false, false, false, false]) (v := Sl.v (s29.cut 1 0 (IntKind.i64.wrap ((s29.len : Int) - 4)) s29.cap)) 2 rfl rfl (by kernel_rfl) (by kernel_rfl) rfl trivial rfl hx43 (fun w_ hS_ K_ h_ => OpW.sliceSl (l := 0) (h := (IntKind.i64.wrap ((s29.len : Int) - 4))) slice_25 rfl rfl ⟨_, rfl⟩ h1 h2 (.inr h3) h_) ?_
          obtain ⟨x44, h1, h2, h⟩ := h
          refine DL.takeK (listed' := #[true, true, true, true, false, false, false, false]) (v := str x44) 3 rfl rfl (by kernel_rfl) (by kernel_rfl) rfl trivial rfl hx43 (fun w_ hS_ K_ h_ => OpW.b2s bsl_25 str_9 rfl h1 (hS_.atO h2) h_) ?_
          refine DL.takeK (listed' := #[true, true, true, true, false, true, false, false]) (v := Sl.v s29) 5 rfl rfl (by kernel_rfl) (by kernel_rfl) rfl trivial rfl hx43 (fun w_ hS_ K_ h_ => OpW.move (v := Sl.v s29) e31 h_) ?_
          obtain ⟨x45, h1, h2, h⟩ := h
          refine DL.takeK (listed' := #[true, true, true, true, false, true, true, false]) (v := str x45) 6 rfl rfl (by kernel_rfl) (by kernel_rfl) rfl trivial rfl hx43 (fun w_ hS_ K_ h_ => OpW.b2s bsl_25 str_9 rfl h1 (hS_.atO h2) h_) ?_
          refine DL.execS (listed' := #[true, true, true, true, true, true, true, false]) 4 rfl (by kernel_rfl) rfl trivial rfl (OpW.callR (al := [str x44]) Try.func13 fb_13 fn_13 rfl h (fun x46 w47 h => ?_))
          obtain ⟨hx48, h⟩ := h
          refine ⟨(fun _ => hx48), ?_⟩
          refine DL.takeK (listed' := #[true, true, true, true, true, true, true, true]) (v := .bool (!decide (x46 = x45))) 7 rfl rfl (by kernel_rfl) (by kernel_rfl) rfl trivial rfl hx48 (fun w_ hS_ K_ h_ => OpW.strCmp (b := !decide (x46 = x45)) rfl rfl rfl h_) ?_
          refine DL.done (by kernel_rfl) ?_
          obtain ⟨ha, hc⟩ := h
          refine CW.cond (b := (!decide (x46 = x45))) rfl (fun hb49 => ?_) (fun hb49 => ?_)
          · have h := ha hb49; clear ha hc
            refine CW.seq ?_
            refine CW.region ?_
            refine RL.opS trivial rfl (OpW.move (v := .int .i64 x32.2) rfl ?_)
            refine RL.opS trivial rfl (OpW.bin (k := .i64) (a := x32.2) (b := 20) (v := .bool (decide (x32.2 = 20))) rfl rfl rfl ?_)
            refine RL.opS trivial rfl (OpW.move (v := .bool (decide (x32.2 = 20))) rfl ?_)
            refine jn_elim h ?_; clear h; intro k55 hk56 h
            refine RL.joinAt (A := Bool) 4 (fun s52 ρ => ρ 60 = .bool s52) k55 ?_ ?_
            · rintro s52 ρ w53 e54 h
              subst hk56
              dsimp only [List.drop]
              refine RL.opS trivial rfl (OpW.assign (v := .bool s52) e54 ?_)
              refine RL.nil ?_
              refine CW.ret ?_
              exact ret_intro (res1 rfl rfl) ⟨s52, rfl, h⟩
            · clear hk56
              dsimp only [List.take]
              obtain ⟨ha, hc⟩ := h
              rcases Bool.eq_false_or_eq_true (decide (x32.2 = 20)) with hb50 | hb50
              · have h := ha hb50; clear ha hc
                refine RL.opS (wanted_of rfl rfl hb50) rfl (OpW.move (v := Sl.v x32.1) rfl ?_)
                refine RL.opS (wanted_of rfl rfl hb50) rfl (OpW.len (s := x32.1) slice_25 rfl ?_)
                refine RL.opS (wanted_of rfl rfl hb50) rfl (OpW.bin (k := .i64) (a := (x32.1.len : Int)) (b := 0) (v := .bool (decide ((x32.1.len : Int) = 0))) rfl rfl rfl ?_)
                refine RL.opS trivial rfl (OpW.pick (b := true) (v := .bool (decide ((x32.1.len : Int) = 0))) (congrArg Value.bool hb50) rfl ?_)
                refine RL.nil ?_
                exact ⟨(decide ((x32.1.len : Int) = 0)), rfl, h⟩
              · have h := hc hb50; clear ha hc
                refine RL.skipS (notWanted_of rfl rfl hb50) rfl ?_
                refine RL.skipS (notWanted_of rfl rfl hb50) rfl ?_
                refine RL.skipS (notWanted_of rfl rfl hb50) rfl ?_
                refine RL.opS trivial rfl (OpW.pick (b := false) (v := .bool false) (congrArg Value.bool hb50) rfl ?_)
                refine RL.nil ?_
                exact ⟨false, rfl, h⟩
          · have h := hc hb49; clear ha hc
            refine CW.skip ?_
            refine CW.seq ?_
            obtain ⟨w57, hw57_⟩ : ∃ w_, w_ = w47.drew := ⟨_, rfl⟩
            have h := h w57 hw57_
            have hx58 : Ext w47 w57 := by rw [hw57_]; exact Ext.drew _
            refine CW.draws (m := 12) (listed := #[false, false, false, false, false, false, false, false, false, false, false, false]) mixed [0, 1, 2, 3, 4, 5, 6, 7, 8, 9, 10, 11] (Ext w47) rfl rfl ?_
            rw [← hw57_]
            refine DL.takeK (listed' := #[true, false, false, false, false, false, false, false, false, false, false, false]) (v := .int .i64 x32.2) 0 rfl rfl (by kernel_rfl) (by kernel_rfl) rfl trivial rfl hx58 (fun w_ hS_ K_ h_ => OpW.move (v := .int .i64 x32.2) rfl h_) ?_
            refine DL.takeK (listed' := #[true, true, false, false, false, false, false, false, false, false, false, false]) (v := .bool (decide (x32.2 = 0))) 1 rfl rfl (by kernel_rfl) (by kernel_rfl) rfl trivial rfl hx58 (fun w_ hS_ K_ h_ => OpW.bin (k := .i64) (a := x32.2) (b := 0) (v := .bool (decide (x32.2 = 0))) rfl rfl rfl h_) ?_
            refine DL.takeK (listed' := #[true, true, true, false, false, false, false, false, false, false, false, false]) (v := .bool (decide (x32.2 = 0))) 2 rfl rfl (by kernel_rfl) (by kernel_rfl) rfl trivial rfl hx58 (fun w_ hS_ K_ h_ => OpW.move (v := .bool (decide (x32.2 = 0))) rfl h_) ?_
            refine jn_elim h ?_; clear h; intro k67 hk68 h
            refine DL.cutS (A := Bool) (fun s63 ρ => ρ 71 = .bool s63) k67 1 #[true, true, true, true, true, true, true, true, true, true, true, false] ?_ ?_
            · rintro s63 ρ w64 e66 hx65 h
              subst hk68
              refine DL.takeK (listed' := #[true, true, true, true, true, true, true, true, true, true, true, true]) (v := .bool s63) 11 rfl rfl (by kernel_rfl) (by kernel_rfl) rfl trivial rfl hx65 (fun w_ hS_ K_ h_ => OpW.assign (v := .bool s63) e66 h_) ?_
              refine DL.done (by kernel_rfl) ?_
              refine CW.ret ?_
              exact ret_intro (res1 rfl rfl) ⟨s63, rfl, h⟩
            · intro hJJ59; clear hk68
              obtain ⟨ha, hc⟩ := h
              rcases Bool.eq_false_or_eq_true (decide (x32.2 = 0)) with hb60 | hb60
              · have h := ha hb60; clear ha hc
                refine DL.takeK (listed' := #[true, true, true, true, false, false, false, false, false, false, false, false]) (v := Sl.v x32.1) 3 rfl rfl (by kernel_rfl) (by kernel_rfl) rfl (wanted_of rfl rfl hb60) rfl hx58 (fun w_ hS_ K_ h_ => OpW.move (v := Sl.v x32.1) rfl h_) ?_
                obtain ⟨x61, h1, h2, h⟩ := h
                refine DL.takeK (listed' := #[true, true, true, true, true, false, false, false, false, false, false, false]) (v := str x61) 4 rfl rfl (by kernel_rfl) (by kernel_rfl) rfl (wanted_of rfl rfl hb60) rfl hx58 (fun w_ hS_ K_ h_ => OpW.b2s bsl_25 str_9 rfl h1 (hS_.atO h2) h_) ?_
                refine DL.takeK (listed' := #[true, true, true, true, true, true, false, false, false, false, false, false]) (v := Sl.v s29) 5 rfl rfl (by kernel_rfl) (by kernel_rfl) rfl (wanted_of rfl rfl hb60) rfl hx58 (fun w_ hS_ K_ h_ => OpW.move (v := Sl.v s29) e31 h_) ?_
                refine DL.takeK (listed' := #[true, true, true, true, true, true, true, false, false, false, false, false]) (v := .int .i64 (IntKind.i64.wrap ((s29.len : Int) - 4))) 6 rfl rfl (by kernel_rfl) (by kernel_rfl) rfl (wanted_of rfl rfl hb60) rfl hx58 (fun w_ hS_ K_ h_ => OpW.move (v := .int .i64 (IntKind.i64.wrap ((s29.len : Int) - 4))) rfl h_) ?_
                obtain ⟨⟨h1, h2, h3⟩, h⟩ := h
                refine DL.takeK (listed' := #[true, true, true, true, true, true, true, true, false, false, false, false]) (v := Sl.v (s29.cut 1 0 (IntKind.i64.wrap ((s29.len : Int) - 4)) s29.cap)) 7 rfl rfl (by kernel_rfl) (by kernel_rfl) rfl (wanted_of rfl rfl hb60) rfl hx58 (fun w_ hS_ K_ h_ => OpW.sliceSl (l := 0) (h := (IntKind.i64.wrap ((s29.len : Int) - 4))) slice_25 rfl rfl ⟨_, rfl⟩ h1 h2 (.inr h3) h_) ?_
                obtain ⟨x62, h1, h2, h⟩ := h
                refine DL.takeK (listed' := #[true, true, true, true, true, true, true, true, true, false, false, false]) (v := str x62) 8 rfl rfl (by kernel_rfl) (by kernel_rfl) rfl (wanted_of rfl rfl hb60) rfl hx58 (fun w_ hS_ K_ h_ => OpW.b2s bsl_25 str_9 rfl h1 (hS_.atO h2) h_) ?_
                refine DL.takeK (listed' := #[true, true, true, true, true, true, true, true, true, true, false, false]) (v := .bool (decide (x61 = x62))) 9 rfl rfl (by kernel_rfl) (by kernel_rfl) rfl (wanted_of rfl rfl hb60) rfl hx58 (fun w_ hS_ K_ h_ => OpW.strCmp (b := decide (x61 = x62)) rfl rfl rfl h_) ?_
                refine DL.takeK (listed' := #[true, true, true, true, true, true, true, true, true, true, true, false]) (v := .bool (decide (x61 = x62))) 10 rfl rfl (by kernel_rfl) (by kernel_rfl) rfl trivial rfl hx58 (fun w_ hS_ K_ h_ => OpW.pick (b := true) (v := .bool (decide (x61 = x62))) (congrArg Value.bool hb60) rfl h_) ?_
                exact hJJ59 _ _ ⟨(decide (x61 = x62)), rfl, hx58, h⟩
              · have h := hc hb60; clear ha hc
                refine DL.skipK (listed' := #[true, true, true, true, false, false, false, false, false, false, false, false]) 3 rfl (by kernel_rfl) (by kernel_rfl) rfl (notWanted_of rfl rfl hb60) rfl hx58 ?_
                refine DL.skipK (listed' := #[true, true, true, true, true, false, false, false, false, false, false, false]) 4 rfl (by kernel_rfl) (by kernel_rfl) rfl (notWanted_of rfl rfl hb60) rfl hx58 ?_
                refine DL.skipK (listed' := #[true, true, true, true, true, true, false, false, false, false, false, false]) 5 rfl (by kernel_rfl) (by kernel_rfl) rfl (notWanted_of rfl rfl hb60) rfl hx58 ?_
                refine DL.skipK (listed' := #[true, true, true, true, true, true, true, false, false, false, false, false]) 6 rfl (by kernel_rfl) (by kernel_rfl) rfl (notWanted_of rfl rfl hb60) rfl hx58 ?_
                refine DL.skipK (listed' := #[true, true, true, true, true, true, true, true, false, false, false, false]) 7 rfl (by kernel_rfl) (by kernel_rfl) rfl (notWanted_of rfl rfl hb60) rfl hx58 ?_
                refine DL.skipK (listed' := #[true, true, true, true, true, true, true, true, true, false, false, false]) 8 rfl (by kernel_rfl) (by kernel_rfl) rfl (notWanted_of rfl rfl hb60) rfl hx58 ?_
                refine DL.skipK (listed' := #[true, true, true, true, true, true, true, true, true, true, false, false]) 9 rfl (by kernel_rfl) (by kernel_rfl) rfl (notWanted_of rfl rfl hb60) rfl hx58 ?_
                refine DL.takeK (listed' := #[true, true, true, true, true, true, true, true, true, true, true, false]) (v := .bool false) 10 rfl rfl (by kernel_rfl) (by kernel_rfl) rfl trivial rfl hx58 (fun w_ hS_ K_ h_ => OpW.pick (b := false) (v := .bool false) (congrArg Value.bool hb60) rfl h_) ?_
                exact hJJ59 _ _ ⟨false, rfl, hx58, h⟩
      · clear hk70
        refine CW.seq ?_
        refine CW.region ?_
        refine RL.opS trivial rfl (OpW.move (v := .bool p1) e9 ?_)
        refine RL.nil ?_
        obtain ⟨ha, hc⟩ := h
        refine CW.cond (b := p1) rfl (fun hb18 => ?_) (fun hb18 => ?_)
        · have h := ha hb18; clear ha hc
          refine CW.seq ?_
          refine CW.region ?_
          refine RL.opS trivial rfl (OpW.move (v := Sl.v p0) e8 ?_)
          refine RL.opS trivial rfl (OpW.callR (al := [Sl.v p0]) Try.func12 fb_12 fn_12 rfl h (fun x19 w20 h => ?_))
          refine RL.opS trivial rfl (OpW.assign (v := Sl.v x19) rfl ?_)
          refine RL.nil ?_
          refine CW.seq ?_
          obtain ⟨w21, hw21_⟩ : ∃ w_, w_ = w20.drew := ⟨_, rfl⟩
          have h := h w21 hw21_
          have hx22 : Ext w20 w21 := by rw [hw21_]; exact Ext.drew _
          refine CW.draws (m := 6) (listed := #[false, false, false, false, false, false]) mixed [0, 1, 2, 3, 4, 5] (Ext w20) rfl rfl ?_
          rw [← hw21_]
          refine DL.takeK (listed' := #[true, false, false, false, false, false]) (v := Sl.v x19) 0 rfl rfl (by kernel_rfl) (by kernel_rfl) rfl trivial rfl hx22 (fun w_ hS_ K_ h_ => OpW.move (v := Sl.v x19) rfl h_) ?_
          obtain ⟨x23, h1, h2, h⟩ := h
          refine DL.takeK (listed' := #[true, true, false, false, false, false]) (v := str x23) 1 rfl rfl (by kernel_rfl) (by kernel_rfl) rfl trivial rfl hx22 (fun w_ hS_ K_ h_ => OpW.b2s bsl_25 str_9 rfl h1 (hS_.atO h2) h_) ?_
          refine DL.takeK (listed' := #[true, true, true, false, false, false]) (v := Sl.v p0) 2 rfl rfl (by kernel_rfl) (by kernel_rfl) rfl trivial rfl hx22 (fun w_ hS_ K_ h_ => OpW.move (v := Sl.v p0) e8 h_) ?_
          obtain ⟨x24, h1, h2, h⟩ := h
          refine DL.takeK (listed' := #[true, true, true, true, false, false]) (v := str x24) 3 rfl rfl (by kernel_rfl) (by kernel_rfl) rfl trivial rfl hx22 (fun w_ hS_ K_ h_ => OpW.b2s bsl_25 str_9 rfl h1 (hS_.atO h2) h_) ?_
          refine DL.execS (listed' := #[true, true, true, true, true, false]) 4 rfl (by kernel_rfl) rfl trivial rfl (OpW.callR (al := [str x24]) Try.func13 fb_13 fn_13 rfl h (fun x25 w26 h => ?_))
          obtain ⟨hx27, h⟩ := h
          refine ⟨(fun _ => hx27), ?_⟩
          refine DL.takeK (listed' := #[true, true, true, true, true, true]) (v := .bool (!decide (x23 = x25))) 5 rfl rfl (by kernel_rfl) (by kernel_rfl) rfl trivial rfl hx27 (fun w_ hS_ K_ h_ => OpW.strCmp (b := !decide (x23 = x25)) rfl rfl rfl h_) ?_
          refine DL.done (by kernel_rfl) ?_
          obtain ⟨ha, hc⟩ := h
          refine CW.cond (b := (!decide (x23 = x25))) rfl (fun hb28 => ?_) (fun hb28 => ?_)
          · have h := ha hb28; clear ha hc
            refine CW.seq ?_
            refine CW.region ?_
            refine RL.opS trivial rfl (OpW.assign (v := .bool false) rfl ?_)
            refine RL.nil ?_
            refine CW.ret ?_
            exact ret_intro (res1 rfl rfl) ⟨false, rfl, h⟩
          · have h := hc hb28; clear ha hc
            refine CW.skip ?_
            exact ⟨x19, rfl, h⟩
        · have h := hc hb18; clear ha hc
          refine CW.skip ?_
          exact ⟨x15, rfl, h⟩
  · clear hk72
    dsimp only [List.take]
    obtain ⟨ha, hc⟩ := h
    rcases Bool.eq_false_or_eq_true (!x1) with hb3 | hb3
    · have h := ha hb3; clear ha hc
      refine RL.skipS (notWanted_of rfl rfl hb3) rfl ?_
      refine RL.skipS (notWanted_of rfl rfl hb3) rfl ?_
      refine RL.skipS (notWanted_of rfl rfl hb3) rfl ?_
      refine RL.opS trivial rfl (OpW.pick (b := true) (v := .bool true) (congrArg Value.bool hb3) rfl ?_)
      refine RL.nil ?_
      exact ⟨true, ⟨rfl, rfl, rfl⟩, h⟩
    · have h := hc hb3; clear ha hc
      refine RL.opS (wanted_of rfl rfl hb3) rfl (OpW.move (v := Sl.v p0) rfl ?_)
      refine RL.opS (wanted_of rfl rfl hb3) rfl (OpW.len (s := p0) slice_25 rfl ?_)
      refine RL.opS (wanted_of rfl rfl hb3) rfl (OpW.bin (k := .i64) (a := (p0.len : Int)) (b := 1000) (v := .bool (decide (1000 < (p0.len : Int)))) rfl rfl rfl ?_)
      refine RL.opS trivial rfl (OpW.pick (b := false) (v := .bool (decide (1000 < (p0.len : Int)))) (congrArg Value.bool hb3) rfl ?_)
      refine RL.nil ?_
      exact ⟨(decide (1000 < (p0.len : Int))), ⟨rfl, rfl, rfl⟩, h⟩
end Go.Proofs.Ytmlbmnaknjdmgaa
