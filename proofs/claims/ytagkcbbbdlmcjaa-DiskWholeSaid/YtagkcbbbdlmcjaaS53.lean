/- The typed readings of the functions, and that the program meets each: written by gen.py (a program of this session). -/
import Derived.Test.YtagkcbbbdlmcjaaLiftDraw
import Derived.Test.YtagkcbbbdlmcjaaRead
set_option linter.unusedVariables false
set_option linter.unusedSimpArgs false
namespace Go.Proofs.Ytagkcbbbdlmcjaa
open Go.Lift
set_option maxRecDepth 100000 in
set_option maxHeartbeats 4000000 in
theorem s53_calls (K : Sl → World → Prop) (p0 : Sl) (w : World) (h : s53 K p0 w) :
    Calls Try.prog 53 #[Sl.v p0] w (Ret r53 K) := by
  unfold s53 at h
  refine calls_of_CW (n := 8) Try.func53 rfl rfl rfl ?_
  refine CW.seq ?_
  refine CW.region ?_
  refine RL.opS trivial rfl (OpW.assign (v := Sl.v nilSl) rfl ?_)
  refine RL.nil ?_
  refine CW.seq ?_
  refine CW.seq ?_
  refine CW.region ?_
  refine RL.opS trivial rfl (OpW.move (v := Sl.v p0) rfl ?_)
  refine RL.opS trivial rfl (OpW.slNil (b := p0.a.isNone) (s := p0) slice_39 rfl rfl rfl ?_)
  refine RL.nil ?_
  obtain ⟨ha, hc⟩ := h
  refine CW.cond (b := (p0.a.isNone)) rfl (fun hb1 => ?_) (fun hb1 => ?_)
  · have h := ha hb1; clear ha hc
    refine CW.seq ?_
    refine CW.region ?_
    refine RL.opS trivial rfl (OpW.assign (v := Sl.v nilSl) rfl ?_)
    refine RL.nil ?_
    refine CW.ret ?_
    exact ret_intro (res1 rfl rfl) ⟨nilSl, rfl, h⟩
  · have h := hc hb1; clear ha hc
    refine CW.skip ?_
    refine CW.seq ?_
    refine CW.region ?_
    obtain ⟨b2, hb2_⟩ : ∃ b_, b_ = w.heap.size := ⟨_, rfl⟩
    obtain ⟨w3, hw3_⟩ : ∃ w_, w_ = w.alloc (.cells (List.toArray []) 5) := ⟨_, rfl⟩
    have h := h b2 w3 hb2_ hw3_
    refine RL.opS trivial rfl (OpW.buildSliceE (vs := []) (cs := []) (by rfl) (by kernel_rfl) hb2_ hw3_ ?_)
    refine RL.opS trivial rfl (OpW.move (v := Sl.v p0) rfl ?_)
    obtain ⟨x4, w5, hr_, h⟩ := h
    refine RL.opS trivial rfl (OpW.appendL (v := Sl.v x4) rfl hr_ ?_)
    refine RL.opS trivial rfl (OpW.assign (v := Sl.v x4) rfl ?_)
    refine RL.nil ?_
    refine CW.ret ?_
    exact ret_intro (res1 rfl rfl) ⟨x4, rfl, h⟩
end Go.Proofs.Ytagkcbbbdlmcjaa
