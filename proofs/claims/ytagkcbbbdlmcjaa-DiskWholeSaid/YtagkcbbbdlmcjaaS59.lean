/- The typed readings of the functions, and that the program meets each: written by gen.py (a program of this session). -/
import Derived.Test.YtagkcbbbdlmcjaaLiftDraw
import Derived.Test.YtagkcbbbdlmcjaaRead
set_option linter.unusedVariables false
set_option linter.unusedSimpArgs false
namespace Go.Proofs.Ytagkcbbbdlmcjaa
open Go.Lift
set_option maxRecDepth 100000 in
set_option maxHeartbeats 4000000 in
theorem s59_calls (K : Int → World → Prop) (p0 : Option Addr) (p1 : Int) (w : World) (h : s59 K p0 p1 w) :
    Calls Try.prog 59 #[.pointer p0, .int .i64 p1] w (Ret r59 K) := by
  unfold s59 at h
  refine calls_of_CW (n := 20) Try.func59 rfl rfl rfl ?_
  refine CW.seq ?_
  refine CW.region ?_
  refine RL.opS trivial rfl (OpW.assign (v := .int .i64 0) rfl ?_)
  refine RL.nil ?_
  refine CW.seq ?_
  refine CW.block ?_
  refine CW.seq ?_
  refine CW.region ?_
  refine RL.opS trivial rfl (OpW.move (v := .pointer p0) rfl ?_)
  refine RL.opS trivial rfl (OpW.callR (al := [.pointer p0]) Try.func38 fb_38 fn_38 rfl h (fun x1 w2 h => ?_))
  refine RL.opS trivial rfl (OpW.assign (v := .bool x1) rfl ?_)
  refine RL.nil ?_
  obtain ⟨ha, hc⟩ := h
  refine CW.cond (b := x1) rfl (fun hb3 => ?_) (fun hb3 => ?_)
  · have h := ha hb3; clear ha hc
    refine CW.seq ?_
    refine CW.region ?_
    refine RL.opS trivial rfl (OpW.assign (v := .int .i64 6) rfl ?_)
    refine RL.nil ?_
    refine CW.ret ?_
    exact ret_intro (res1 rfl rfl) ⟨6, rfl, h⟩
  · have h := hc hb3; clear ha hc
    refine CW.seq ?_
    refine CW.region ?_
    refine RL.opS trivial rfl (OpW.move (v := .int .i64 p1) rfl ?_)
    refine RL.opS trivial rfl (OpW.bin (k := .i64) (a := p1) (b := 0) (v := .bool (decide (p1 < 0))) rfl rfl rfl ?_)
    refine RL.opS trivial rfl (OpW.move (v := .bool (decide (p1 < 0))) rfl ?_)
    refine jn_elim h ?_; clear h; intro k13 hk14 h
    refine RL.joinAt (A := Bool) 8 (fun s9 ρ => ρ 19 = .bool s9) k13 ?_ ?_
    · rintro s9 ρ w10 e11 h
      subst hk14
      dsimp only [List.drop]
      refine RL.opS trivial rfl (OpW.assign (v := .bool s9) e11 ?_)
      refine RL.nil ?_
      obtain ⟨ha, hc⟩ := h
      refine CW.cond (b := s9) rfl (fun hb12 => ?_) (fun hb12 => ?_)
      · have h := ha hb12; clear ha hc
        refine CW.seq ?_
        refine CW.region ?_
        refine RL.opS trivial rfl (OpW.assign (v := .int .i64 2) rfl ?_)
        refine RL.nil ?_
        refine CW.ret ?_
        exact ret_intro (res1 rfl rfl) ⟨2, rfl, h⟩
      · have h := hc hb12; clear ha hc
        refine CW.skip ?_
        refine CW.seq ?_
        refine CW.region ?_
        refine RL.opS trivial rfl (OpW.assign (v := .int .i64 0) rfl ?_)
        refine RL.nil ?_
        refine CW.ret ?_
        exact ret_intro (res1 rfl rfl) ⟨0, rfl, h⟩
    · clear hk14
      dsimp only [List.take]
      obtain ⟨ha, hc⟩ := h
      rcases Bool.eq_false_or_eq_true (decide (p1 < 0)) with hb4 | hb4
      · have h := ha hb4; clear ha hc
        refine RL.skipS (notWanted_of rfl rfl hb4) rfl ?_
        refine RL.skipS (notWanted_of rfl rfl hb4) rfl ?_
        refine RL.skipS (notWanted_of rfl rfl hb4) rfl ?_
        refine RL.skipS (notWanted_of rfl rfl hb4) rfl ?_
        refine RL.skipS (notWanted_of rfl rfl hb4) rfl ?_
        refine RL.skipS (notWanted_of rfl rfl hb4) rfl ?_
        refine RL.skipS (notWanted_of rfl rfl hb4) rfl ?_
        refine RL.opS trivial rfl (OpW.pick (b := true) (v := .bool true) (congrArg Value.bool hb4) rfl ?_)
        refine RL.nil ?_
        exact ⟨true, rfl, h⟩
      · have h := hc hb4; clear ha hc
        refine RL.opS (wanted_of rfl rfl hb4) rfl (OpW.move (v := .int .i64 p1) rfl ?_)
        refine RL.opS (wanted_of rfl rfl hb4) rfl (OpW.move (v := .pointer p0) rfl ?_)
        obtain ⟨a6, ha7, h⟩ := h
        refine RL.opS (wanted_of rfl rfl hb4) rfl (OpW.nilCheck (a := a6) (congrArg Value.pointer ha7) ?_)
        refine RL.opS (wanted_of rfl rfl hb4) rfl (OpW.fieldAddr (off := 0) field_93_0 rfl ?_)
        obtain ⟨x8, h1, h⟩ := h
        refine RL.opS (wanted_of rfl rfl hb4) rfl (OpW.load1 (v := Sl.v x8) one_90 rfl h1 ?_)
        refine RL.opS (wanted_of rfl rfl hb4) rfl (OpW.len (s := x8) slice_90 rfl ?_)
        refine RL.opS (wanted_of rfl rfl hb4) rfl (OpW.bin (k := .i64) (a := p1) (b := (x8.len : Int)) (v := .bool (decide ((x8.len : Int) ≤ p1))) rfl rfl rfl ?_)
        refine RL.opS trivial rfl (OpW.pick (b := false) (v := .bool (decide ((x8.len : Int) ≤ p1))) (congrArg Value.bool hb4) rfl ?_)
        refine RL.nil ?_
        exact ⟨(decide ((x8.len : Int) ≤ p1)), rfl, h⟩
end Go.Proofs.Ytagkcbbbdlmcjaa
