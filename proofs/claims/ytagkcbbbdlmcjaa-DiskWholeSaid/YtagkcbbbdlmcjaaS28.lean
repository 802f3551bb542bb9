/- The typed readings of the functions, and that the program meets each: written by gen.py (a program of this session). -/
import Derived.Test.YtagkcbbbdlmcjaaLiftDraw
import Derived.Test.YtagkcbbbdlmcjaaRead
set_option linter.unusedVariables false
set_option linter.unusedSimpArgs false
namespace Go.Proofs.Ytagkcbbbdlmcjaa
open Go.Lift
set_option maxRecDepth 100000 in
set_option maxHeartbeats 4000000 in
theorem s28_calls (K : Sl × Int → World → Prop) (p0 : Option Addr) (p1 : Int) (w : World) (h : s28 K p0 p1 w) :
    Calls Try.prog 28 #[.pointer p0, .int .i64 p1] w (Ret r28 K) := by
  unfold s28 at h
  refine calls_of_CW (n := 22) Try.func28 rfl rfl rfl ?_
  refine CW.seq ?_
  refine CW.region ?_
  refine RL.opS trivial rfl (OpW.assign (v := Sl.v nilSl) rfl ?_)
  refine RL.opS trivial rfl (OpW.assign (v := .int .i64 0) rfl ?_)
  refine RL.nil ?_
  refine CW.seq ?_
  refine CW.seq ?_
  refine CW.region ?_
  refine RL.opS trivial rfl (OpW.move (v := .pointer p0) rfl ?_)
  refine RL.opS trivial rfl (OpW.move (v := .int .i64 p1) rfl ?_)
  refine RL.opS trivial rfl (OpW.callR (al := [.pointer p0, .int .i64 p1]) Try.func59 fb_59 fn_59 rfl h (fun x1 w2 h => ?_))
  refine RL.opS trivial rfl (OpW.assign (v := .int .i64 x1) rfl ?_)
  refine RL.nil ?_
  refine CW.seq ?_
  refine CW.region ?_
  refine RL.opS trivial rfl (OpW.move (v := .int .i64 x1) rfl ?_)
  refine RL.opS trivial rfl (OpW.bin (k := .i64) (a := x1) (b := 0) (v := .bool (!decide (x1 = 0))) rfl rfl rfl ?_)
  refine RL.nil ?_
  obtain ⟨ha, hc⟩ := h
  refine CW.cond (b := (!decide (x1 = 0))) rfl (fun hb3 => ?_) (fun hb3 => ?_)
  · have h := ha hb3; clear ha hc
    refine CW.seq ?_
    refine CW.region ?_
    refine RL.opS trivial rfl (OpW.move (v := .int .i64 x1) rfl ?_)
    refine RL.opS trivial rfl (OpW.assign (v := Sl.v nilSl) rfl ?_)
    refine RL.opS trivial rfl (OpW.assign (v := .int .i64 x1) rfl ?_)
    refine RL.nil ?_
    refine CW.ret ?_
    exact ret_intro (res2 rfl rfl rfl) ⟨(nilSl, x1), rfl, h⟩
  · have h := hc hb3; clear ha hc
    refine CW.skip ?_
    refine CW.seq ?_
    refine CW.region ?_
    refine RL.opS trivial rfl (OpW.move (v := .pointer p0) rfl ?_)
    obtain ⟨a4, ha5, h⟩ := h
    refine RL.opS trivial rfl (OpW.nilCheck (a := a4) (congrArg Value.pointer ha5) ?_)
    refine RL.opS trivial rfl (OpW.fieldAddr (off := 0) field_93_0 rfl ?_)
    obtain ⟨x6, h1, h⟩ := h
    refine RL.opS trivial rfl (OpW.load1 (v := Sl.v x6) one_90 rfl h1 ?_)
    refine RL.opS trivial rfl (OpW.move (v := .int .i64 p1) rfl ?_)
    obtain ⟨a7_, a7, h1, h2, h3, h4, h⟩ := h
    refine RL.opS trivial rfl (OpW.indexE (a' := a7) slice_90 rfl rfl h1 h2 h3 h4 ?_)
    refine RL.opS trivial rfl (OpW.fieldAddr (off := 0) field_112_0 rfl ?_)
    refine RL.opS trivial rfl (OpW.sliceArr (l := 0) (h := 512) arr_110 rfl rfl rfl (by decide) (by decide) (by decide) ?_)
    refine RL.opS trivial rfl (OpW.callR (al := [Sl.v (Sl.cut ⟨some (Addr.add a7 0), 512, 512⟩ 1 0 512 512)]) Try.func53 fb_53 fn_53 rfl h (fun x9 w10 h => ?_))
    refine RL.opS trivial rfl (OpW.assign (v := Sl.v x9) rfl ?_)
    refine RL.opS trivial rfl (OpW.assign (v := .int .i64 0) rfl ?_)
    refine RL.nil ?_
    refine CW.ret ?_
    exact ret_intro (res2 rfl rfl rfl) ⟨(x9, 0), rfl, h⟩
end Go.Proofs.Ytagkcbbbdlmcjaa
