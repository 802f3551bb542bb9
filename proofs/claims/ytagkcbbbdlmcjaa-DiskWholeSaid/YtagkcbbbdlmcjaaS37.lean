/- The typed readings of the functions, and that the program meets each: written by gen.py (a program of this session). -/
import Derived.Test.YtagkcbbbdlmcjaaLiftDraw
import Derived.Test.YtagkcbbbdlmcjaaRead
set_option linter.unusedVariables false
set_option linter.unusedSimpArgs false
namespace Go.Proofs.Ytagkcbbbdlmcjaa
open Go.Lift
set_option maxRecDepth 100000 in
set_option maxHeartbeats 4000000 in
theorem s37_calls (K : Unit → World → Prop) (p0 : Option Addr) (p1 : Sl) (w : World) (h : s37 K p0 p1 w) :
    Calls Try.prog 37 #[.pointer p0, Sl.v p1] w (Ret r37 K) := by
  unfold s37 at h
  refine calls_of_CW (n := 11) Try.func37 rfl rfl rfl ?_
  refine CW.seq ?_
  refine CW.region ?_
  refine RL.opS trivial rfl (OpW.move (v := .pointer p0) rfl ?_)
  refine RL.opS trivial rfl (OpW.ptrNil (b := !p0.isNone) (p := p0) ptr_31 rfl rfl rfl ?_)
  refine RL.nil ?_
  obtain ⟨ha, hc⟩ := h
  refine CW.cond (b := (!p0.isNone)) rfl (fun hb1 => ?_) (fun hb1 => ?_)
  · have h := ha hb1; clear ha hc
    refine CW.region ?_
    refine RL.opS trivial rfl (OpW.move (v := .pointer p0) rfl ?_)
    refine RL.opS trivial rfl (OpW.move (v := Sl.v p1) rfl ?_)
    refine RL.opS trivial rfl (OpW.callR (al := [Sl.v p1]) Try.func64 fb_64 fn_64 rfl h (fun x2 w3 h => ?_))
    obtain ⟨a4, ha5, h⟩ := h
    refine RL.opS trivial rfl (OpW.nilCheck (a := a4) (congrArg Value.pointer ha5) ?_)
    refine RL.opS trivial rfl (OpW.fieldAddr field_93_2 rfl ?_)
    obtain ⟨u_, h1, h2, h⟩ := h
    obtain ⟨w6, hw6_⟩ : ∃ w_, w_ = w3.setCell (Addr.add a4 2) (Sl.v x2) := ⟨_, rfl⟩
    have h := h w6 hw6_
    refine RL.opN trivial (OpW.store1E (v := Sl.v x2) size_47 rfl rfl rfl h1 h2 hw6_ ?_)
    refine RL.nil ?_
    exact end_intro (res0 rfl) ⟨(), rfl, h⟩
  · have h := hc hb1; clear ha hc
    refine CW.skip ?_
    exact end_intro (res0 rfl) ⟨(), rfl, h⟩
end Go.Proofs.Ytagkcbbbdlmcjaa
