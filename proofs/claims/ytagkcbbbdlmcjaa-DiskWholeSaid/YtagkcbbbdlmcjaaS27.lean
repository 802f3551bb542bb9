/- The typed readings of the functions, and that the program meets each: written by gen.py (a program of this session). -/
import Derived.Test.YtagkcbbbdlmcjaaLiftDraw
import Derived.Test.YtagkcbbbdlmcjaaRead
set_option linter.unusedVariables false
set_option linter.unusedSimpArgs false
namespace Go.Proofs.Ytagkcbbbdlmcjaa
open Go.Lift
set_option maxRecDepth 100000 in
set_option maxHeartbeats 4000000 in
theorem s27_calls (K : Bool → World → Prop) (p0 : Option Addr) (w : World) (h : s27 K p0 w) :
    Calls Try.prog 27 #[.pointer p0] w (Ret r27 K) := by
  unfold s27 at h
  refine calls_of_CW (n := 15) Try.func27 rfl rfl rfl ?_
  refine CW.seq ?_
  refine CW.region ?_
  refine RL.opS trivial rfl (OpW.assign (v := .bool false) rfl ?_)
  refine RL.nil ?_
  refine CW.seq ?_
  refine CW.seq ?_
  refine CW.region ?_
  refine RL.opS trivial rfl (OpW.move (v := .pointer p0) rfl ?_)
  refine RL.opS trivial rfl (OpW.ptrNil (b := p0.isNone) (p := p0) ptr_31 rfl rfl rfl ?_)
  refine RL.opS trivial rfl (OpW.move (v := .bool (p0.isNone)) rfl ?_)
  refine jn_elim h ?_; clear h; intro k14 hk15 h
  refine RL.joinAt (A := Bool) 6 (fun s6 ρ => ρ 11 = .bool s6 ∧ ρ 0 = .pointer p0) k14 ?_ ?_
  · rintro s6 ρ w7 ⟨e8, e9⟩ h
    subst hk15
    dsimp only [List.drop]
    refine RL.nil ?_
    obtain ⟨ha, hc⟩ := h
    refine CW.cond (b := s6) e8 (fun hb10 => ?_) (fun hb10 => ?_)
    · have h := ha hb10; clear ha hc
      refine CW.seq ?_
      refine CW.region ?_
      refine RL.opS trivial rfl (OpW.assign (v := .bool false) rfl ?_)
      refine RL.nil ?_
      refine CW.ret ?_
      exact ret_intro (res1 rfl rfl) ⟨false, rfl, h⟩
    · have h := hc hb10; clear ha hc
      refine CW.skip ?_
      refine CW.seq ?_
      refine CW.region ?_
      refine RL.opS trivial rfl (OpW.move (v := .pointer p0) e9 ?_)
      obtain ⟨a11, ha12, h⟩ := h
      refine RL.opS trivial rfl (OpW.nilCheck (a := a11) (congrArg Value.pointer ha12) ?_)
      refine RL.opS trivial rfl (OpW.fieldAddr field_93_4 rfl ?_)
      obtain ⟨u_, h1, h2, h⟩ := h
      obtain ⟨w13, hw13_⟩ : ∃ w_, w_ = w7.setCell (Addr.add a11 4) (.bool false) := ⟨_, rfl⟩
      have h := h w13 hw13_
      refine RL.opN trivial (OpW.store1E (v := .bool false) size_4 rfl rfl rfl h1 h2 hw13_ ?_)
      refine RL.nil ?_
      refine CW.seq ?_
      refine CW.region ?_
      refine RL.opS trivial rfl (OpW.assign (v := .bool true) rfl ?_)
      refine RL.nil ?_
      refine CW.ret ?_
      exact ret_intro (res1 rfl rfl) ⟨true, rfl, h⟩
  · clear hk15
    dsimp only [List.take]
    obtain ⟨ha, hc⟩ := h
    rcases Bool.eq_false_or_eq_true (p0.isNone) with hb1 | hb1
    · have h := ha hb1; clear ha hc
      refine RL.skipS (notWanted_of rfl rfl hb1) rfl ?_
      refine RL.skipS (notWanted_of rfl rfl hb1) rfl ?_
      refine RL.skipS (notWanted_of rfl rfl hb1) rfl ?_
      refine RL.skipS (notWanted_of rfl rfl hb1) rfl ?_
      refine RL.skipS (notWanted_of rfl rfl hb1) rfl ?_
      refine RL.opS trivial rfl (OpW.pick (b := true) (v := .bool true) (congrArg Value.bool hb1) rfl ?_)
      refine RL.nil ?_
      exact ⟨true, ⟨rfl, rfl⟩, h⟩
    · have h := hc hb1; clear ha hc
      refine RL.opS (wanted_of rfl rfl hb1) rfl (OpW.move (v := .pointer p0) rfl ?_)
      obtain ⟨a3, ha4, h⟩ := h
      refine RL.opS (wanted_of rfl rfl hb1) rfl (OpW.nilCheck (a := a3) (congrArg Value.pointer ha4) ?_)
      refine RL.opS (wanted_of rfl rfl hb1) rfl (OpW.fieldAddr field_93_4 rfl ?_)
      obtain ⟨x5, h1, h⟩ := h
      refine RL.opS (wanted_of rfl rfl hb1) rfl (OpW.load1 (v := .bool x5) one_4 rfl h1 ?_)
      refine RL.opS (wanted_of rfl rfl hb1) rfl (OpW.not rfl ?_)
      refine RL.opS trivial rfl (OpW.pick (b := false) (v := .bool (!x5)) (congrArg Value.bool hb1) rfl ?_)
      refine RL.nil ?_
      exact ⟨(!x5), ⟨rfl, rfl⟩, h⟩
end Go.Proofs.Ytagkcbbbdlmcjaa
