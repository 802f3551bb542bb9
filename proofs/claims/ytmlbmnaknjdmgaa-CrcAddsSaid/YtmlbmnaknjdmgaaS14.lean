/- The typed readings of the functions, and that the program meets each: written by gen.py (a program of this session). -/
import Derived.Test.YtmlbmnaknjdmgaaLiftDraw
import Derived.Test.YtmlbmnaknjdmgaaRead
set_option linter.unusedVariables false
set_option linter.unusedSimpArgs false
namespace Go.Proofs.Ytmlbmnaknjdmgaa
open Go.Lift
set_option maxRecDepth 100000 in
set_option maxHeartbeats 4000000 in
theorem s14_calls (K : Sl × Int → World → Prop) (p0 : Sl) (w : World) (h : s14 K p0 w) :
    Calls Try.prog 14 #[Sl.v p0] w (Ret r14 K) := by
  unfold s14 at h
  refine calls_of_CW (n := 23) Try.func14 rfl rfl rfl ?_
  refine CW.seq ?_
  refine CW.region ?_
  refine RL.opS trivial rfl (OpW.assign (v := Sl.v nilSl) rfl ?_)
  refine RL.opS trivial rfl (OpW.assign (v := .int .i64 0) rfl ?_)
  refine RL.nil ?_
  refine CW.seq ?_
  refine CW.region ?_
  refine RL.opS trivial rfl (OpW.move (v := Sl.v p0) rfl ?_)
  refine RL.opS trivial rfl (OpW.len (s := p0) slice_25 rfl ?_)
  refine RL.opS trivial rfl (OpW.bin (k := .i64) (a := (p0.len : Int)) (b := 4) (v := .int .i64 (IntKind.i64.wrap ((p0.len : Int) - 4))) rfl rfl rfl ?_)
  refine RL.opS trivial rfl (OpW.assign (v := .int .i64 (IntKind.i64.wrap ((p0.len : Int) - 4))) rfl ?_)
  refine RL.nil ?_
  refine CW.seq ?_
  refine CW.seq ?_
  refine CW.region ?_
  refine RL.opS trivial rfl (OpW.move (v := .int .i64 (IntKind.i64.wrap ((p0.len : Int) - 4))) rfl ?_)
  refine RL.opS trivial rfl (OpW.bin (k := .i64) (a := (IntKind.i64.wrap ((p0.len : Int) - 4))) (b := 0) (v := .bool (decide ((IntKind.i64.wrap ((p0.len : Int) - 4)) < 0))) rfl rfl rfl ?_)
  refine RL.nil ?_
  obtain ⟨ha, hc⟩ := h
  refine CW.cond (b := (decide ((IntKind.i64.wrap ((p0.len : Int) - 4)) < 0))) rfl (fun hb1 => ?_) (fun hb1 => ?_)
  · have h := ha hb1; clear ha hc
    refine CW.seq ?_
    refine CW.region ?_
    refine RL.opS trivial rfl (OpW.assign (v := Sl.v nilSl) rfl ?_)
    refine RL.opS trivial rfl (OpW.assign (v := .int .i64 10) rfl ?_)
    refine RL.nil ?_
    refine CW.ret ?_
    exact ret_intro (res2 rfl rfl rfl) ⟨(nilSl, 10), rfl, h⟩
  · have h := hc hb1; clear ha hc
    refine CW.skip ?_
    refine CW.seq ?_
    refine CW.seq ?_
    obtain ⟨w2, hw2_⟩ : ∃ w_, w_ = w.drew := ⟨_, rfl⟩
    have h := h w2 hw2_
    have hx3 : Ext w w2 := by rw [hw2_]; exact Ext.drew _
    refine CW.draws (m := 8) (listed := #[false, false, false, false, false, false, false, false]) mixed [0, 1, 2, 3, 4, 5, 6, 7] (Ext w) rfl rfl ?_
    rw [← hw2_]
    refine DL.takeP (listed' := #[true, false, false, false, false, false, false, false]) (v := Sl.v p0) 0 rfl rfl (by kernel_rfl) rfl trivial rfl (fun w_ K_ h_ => OpW.move (v := Sl.v p0) rfl h_) ?_
    refine DL.takeP (listed' := #[true, true, false, false, false, false, false, false]) (v := .int .i64 (IntKind.i64.wrap ((p0.len : Int) - 4))) 1 rfl rfl (by kernel_rfl) rfl trivial rfl (fun w_ K_ h_ => OpW.move (v := .int .i64 (IntKind.i64.wrap ((p0.len : Int) - 4))) rfl h_) ?_
    obtain ⟨⟨h1, h2, h3⟩, h⟩ := h
    refine DL.takeP (listed' := #[true, true, true, false, false, false, false, false]) (v := Sl.v (p0.cut 1 0 (IntKind.i64.wrap ((p0.len : Int) - 4)) p0.cap)) 2 rfl rfl (by kernel_rfl) rfl trivial rfl (fun w_ K_ h_ => OpW.sliceSl (l := 0) (h := (IntKind.i64.wrap ((p0.len : Int) - 4))) slice_25 rfl rfl ⟨_, rfl⟩ h1 h2 (.inr h3) h_) ?_
    refine DL.takeP (listed' := #[true, true, true, false, false, true, false, false]) (v := Sl.v p0) 5 rfl rfl (by kernel_rfl) rfl trivial rfl (fun w_ K_ h_ => OpW.move (v := Sl.v p0) rfl h_) ?_
    obtain ⟨x4, h1, h2, h⟩ := h
    refine DL.takeK (listed' := #[true, true, true, false, false, true, true, false]) (v := str x4) 6 rfl rfl (by kernel_rfl) (by kernel_rfl) rfl trivial rfl hx3 (fun w_ hS_ K_ h_ => OpW.b2s bsl_25 str_9 rfl h1 (hS_.atO h2) h_) ?_
    refine DL.execS (listed' := #[true, true, true, true, false, true, true, false]) 3 rfl (by kernel_rfl) rfl trivial rfl (OpW.callR (al := [Sl.v (p0.cut 1 0 (IntKind.i64.wrap ((p0.len : Int) - 4)) p0.cap)]) Try.func12 fb_12 fn_12 rfl h (fun x5 w6 h => ?_))
    obtain ⟨hx7, h⟩ := h
    refine ⟨(fun _ _ => hx7), ?_⟩
    obtain ⟨x8, h1, h2, h⟩ := h
    refine DL.execS (listed' := #[true, true, true, true, true, true, true, false]) 4 rfl (by kernel_rfl) rfl trivial rfl (OpW.b2s bsl_25 str_9 rfl h1 h2 ?_)
    refine ⟨(fun _ _ => hx7), ?_⟩
    refine DL.takeP (listed' := #[true, true, true, true, true, true, true, true]) (v := .bool (!decide (x8 = x4))) 7 rfl rfl (by kernel_rfl) rfl trivial rfl (fun w_ K_ h_ => OpW.strCmp (b := !decide (x8 = x4)) rfl rfl rfl h_) ?_
    refine DL.done (by kernel_rfl) ?_
    obtain ⟨ha, hc⟩ := h
    refine CW.cond (b := (!decide (x8 = x4))) rfl (fun hb10 => ?_) (fun hb10 => ?_)
    · have h := ha hb10; clear ha hc
      refine CW.seq ?_
      refine CW.region ?_
      refine RL.opS trivial rfl (OpW.assign (v := Sl.v nilSl) rfl ?_)
      refine RL.opS trivial rfl (OpW.assign (v := .int .i64 20) rfl ?_)
      refine RL.nil ?_
      refine CW.ret ?_
      exact ret_intro (res2 rfl rfl rfl) ⟨(nilSl, 20), rfl, h⟩
    · have h := hc hb10; clear ha hc
      refine CW.skip ?_
      refine CW.seq ?_
      refine CW.region ?_
      obtain ⟨b11, hb11_⟩ : ∃ b_, b_ = w6.heap.size := ⟨_, rfl⟩
      obtain ⟨w12, hw12_⟩ : ∃ w_, w_ = w6.alloc (.cells (List.toArray []) 5) := ⟨_, rfl⟩
      have h := h b11 w12 hb11_ hw12_
      refine RL.opS trivial rfl (OpW.buildSliceE (vs := []) (cs := []) (by rfl) (by kernel_rfl) hb11_ hw12_ ?_)
      refine RL.opS trivial rfl (OpW.move (v := Sl.v p0) rfl ?_)
      refine RL.opS trivial rfl (OpW.move (v := .int .i64 (IntKind.i64.wrap ((p0.len : Int) - 4))) rfl ?_)
      obtain ⟨⟨h1, h2, h3⟩, h⟩ := h
      refine RL.opS trivial rfl (OpW.sliceSl (l := 0) (h := (IntKind.i64.wrap ((p0.len : Int) - 4))) slice_25 rfl rfl ⟨_, rfl⟩ h1 h2 (.inr h3) ?_)
      obtain ⟨x13, w14, hr_, h⟩ := h
      refine RL.opS trivial rfl (OpW.appendL (v := Sl.v x13) rfl hr_ ?_)
      refine RL.opS trivial rfl (OpW.assign (v := Sl.v x13) rfl ?_)
      refine RL.opS trivial rfl (OpW.assign (v := .int .i64 0) rfl ?_)
      refine RL.nil ?_
      refine CW.ret ?_
      exact ret_intro (res2 rfl rfl rfl) ⟨(x13, 0), rfl, h⟩
end Go.Proofs.Ytmlbmnaknjdmgaa
