/- The typed readings of the functions, and that the program meets each: written by gen.py (a program of this session). -/
import Derived.Test.YtagkcbbbdlmcjaaLiftDraw
import Derived.Test.YtagkcbbbdlmcjaaRead
set_option linter.unusedVariables false
set_option linter.unusedSimpArgs false
namespace Go.Proofs.Ytagkcbbbdlmcjaa
open Go.Lift
set_option maxRecDepth 100000 in
set_option maxHeartbeats 4000000 in
theorem s60_calls (K : Sl → World → Prop) (p0 : Sl) (w : World) (h : s60 K p0 w) :
    Calls Try.prog 60 #[Sl.v p0] w (Ret r60 K) := by
  unfold s60 at h
  refine calls_of_CW (n := 9) Try.func60 rfl rfl rfl ?_
  refine CW.seq ?_
  refine CW.region ?_
  refine RL.opS trivial rfl (OpW.assign (v := Sl.v nilSl) rfl ?_)
  refine RL.nil ?_
  refine CW.seq ?_
  refine CW.region ?_
  refine RL.opS trivial rfl (OpW.move (v := Sl.v p0) rfl ?_)
  refine RL.opS trivial rfl (OpW.move (v := Sl.v p0) rfl ?_)
  refine RL.opS trivial rfl (OpW.len (s := p0) slice_91 rfl ?_)
  refine RL.opS trivial rfl (OpW.move (v := Sl.v p0) rfl ?_)
  refine RL.opS trivial rfl (OpW.len (s := p0) slice_91 rfl ?_)
  obtain ⟨⟨h1, h2, h3, h4⟩, h⟩ := h
  refine RL.opS trivial rfl (OpW.slice3 (l := 0) (h := (p0.len : Int)) (m := (p0.len : Int)) slice_91 rfl rfl rfl rfl h1 h2 h3 h4 ?_)
  refine RL.opS trivial rfl (OpW.assign (v := Sl.v (p0.cut 513 0 (p0.len : Int) (p0.len : Int))) rfl ?_)
  refine RL.nil ?_
  refine CW.ret ?_
  exact ret_intro (res1 rfl rfl) ⟨(p0.cut 513 0 (p0.len : Int) (p0.len : Int)), rfl, h⟩
end Go.Proofs.Ytagkcbbbdlmcjaa
