/- The typed readings of the functions, and that the program meets each: written by gen.py (a program of this session). -/
import Derived.Test.YtagkcbbbdlmcjaaLiftDraw
import Derived.Test.YtagkcbbbdlmcjaaRead
set_option linter.unusedVariables false
set_option linter.unusedSimpArgs false
namespace Go.Proofs.Ytagkcbbbdlmcjaa
open Go.Lift
set_option maxRecDepth 100000 in
set_option maxHeartbeats 4000000 in
theorem s38_calls (K : Bool → World → Prop) (p0 : Option Addr) (w : World) (h : s38 K p0 w) :
    Calls Try.prog 38 #[.pointer p0] w (Ret r38 K) := by
  unfold s38 at h
  refine calls_of_CW (n := 11) Try.func38 rfl rfl rfl ?_
  refine CW.seq ?_
  refine CW.region ?_
  refine RL.opS trivial rfl (OpW.assign (v := .bool false) rfl ?_)
  refine RL.nil ?_
  refine CW.seq ?_
  refine CW.region ?_
  refine RL.opS trivial rfl (OpW.move (v := .pointer p0) rfl ?_)
  refine RL.opS trivial rfl (OpW.ptrNil (b := p0.isNone) (p := p0) ptr_31 rfl rfl rfl ?_)
  refine RL.opS trivial rfl (OpW.move (v := .bool (p0.isNone)) rfl ?_)
  refine jn_elim h ?_; clear h; intro k9 hk10 h
  refine RL.joinAt (A := Bool) 5 (fun s6 ρ => ρ 10 = .bool s6) k9 ?_ ?_
  · rintro s6 ρ w7 e8 h
    subst hk10
    dsimp only [List.drop]
    refine RL.opS trivial rfl (OpW.assign (v := .bool s6) e8 ?_)
    refine RL.nil ?_
    refine CW.ret ?_
    exact ret_intro (res1 rfl rfl) ⟨s6, rfl, h⟩
  · clear hk10
    dsimp only [List.take]
    obtain ⟨ha, hc⟩ := h
    rcases Bool.eq_false_or_eq_true (p0.isNone) with hb1 | hb1
    · have h := ha hb1; clear ha hc
      refine RL.skipS (notWanted_of rfl rfl hb1) rfl ?_
      refine RL.skipS (notWanted_of rfl rfl hb1) rfl ?_
      refine RL.skipS (notWanted_of rfl rfl hb1) rfl ?_
      refine RL.skipS (notWanted_of rfl rfl hb1) rfl ?_
      refine RL.opS trivial rfl (OpW.pick (b := true) (v := .bool true) (congrArg Value.bool hb1) rfl ?_)
      refine RL.nil ?_
      exact ⟨true, rfl, h⟩
    · have h := hc hb1; clear ha hc
      refine RL.opS (wanted_of rfl rfl hb1) rfl (OpW.move (v := .pointer p0) rfl ?_)
      obtain ⟨a3, ha4, h⟩ := h
      refine RL.opS (wanted_of rfl rfl hb1) rfl (OpW.nilCheck (a := a3) (congrArg Value.pointer ha4) ?_)
      refine RL.opS (wanted_of rfl rfl hb1) rfl (OpW.fieldAddr field_93_4 rfl ?_)
      obtain ⟨x5, h1, h⟩ := h
      refine RL.opS (wanted_of rfl rfl hb1) rfl (OpW.load1 (v := .bool x5) one_4 rfl h1 ?_)
      refine RL.opS trivial rfl (OpW.pick (b := false) (v := .bool x5) (congrArg Value.bool hb1) rfl ?_)
      refine RL.nil ?_
      exact ⟨x5, rfl, h⟩
end Go.Proofs.Ytagkcbbbdlmcjaa
