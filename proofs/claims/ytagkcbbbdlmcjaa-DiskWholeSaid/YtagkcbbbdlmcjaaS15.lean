/- The typed readings of the functions, and that the program meets each: written by gen.py (a program of this session). -/
import Derived.Test.YtagkcbbbdlmcjaaLiftDraw
import Derived.Test.YtagkcbbbdlmcjaaRead
set_option linter.unusedVariables false
set_option linter.unusedSimpArgs false
namespace Go.Proofs.Ytagkcbbbdlmcjaa
open Go.Lift
set_option maxRecDepth 100000 in
set_option maxHeartbeats 4000000 in
theorem s15_calls (K : Option Addr × Int → World → Prop) (p0 : Int) (w : World) (h : s15 K p0 w) :
    Calls Try.prog 15 #[.int .i64 p0] w (Ret r15 K) := by
  unfold s15 at h
  refine calls_of_CW (n := 14) Try.func15 rfl rfl rfl ?_
  refine CW.seq ?_
  refine CW.region ?_
  refine RL.opS trivial rfl (OpW.assign (v := .pointer none) rfl ?_)
  refine RL.opS trivial rfl (OpW.assign (v := .int .i64 0) rfl ?_)
  refine RL.nil ?_
  refine CW.seq ?_
  refine CW.seq ?_
  refine CW.region ?_
  refine RL.opS trivial rfl (OpW.move (v := .int .i64 p0) rfl ?_)
  refine RL.opS trivial rfl (OpW.bin (k := .i64) (a := p0) (b := 1) (v := .bool (decide (p0 < 1))) rfl rfl rfl ?_)
  refine RL.opS trivial rfl (OpW.move (v := .bool (decide (p0 < 1))) rfl ?_)
  refine jn_elim h ?_; clear h; intro k13 hk14 h
  refine RL.joinAt (A := Bool) 3 (fun s3 ρ => ρ 9 = .bool s3 ∧ ρ 0 = .int .i64 p0) k13 ?_ ?_
  · rintro s3 ρ w4 ⟨e5, e6⟩ h
    subst hk14
    dsimp only [List.drop]
    refine RL.nil ?_
    obtain ⟨ha, hc⟩ := h
    refine CW.cond (b := s3) e5 (fun hb7 => ?_) (fun hb7 => ?_)
    · have h := ha hb7; clear ha hc
      refine CW.seq ?_
      refine CW.region ?_
      refine RL.opS trivial rfl (OpW.assign (v := .pointer none) rfl ?_)
      refine RL.opS trivial rfl (OpW.assign (v := .int .i64 1) rfl ?_)
      refine RL.nil ?_
      refine CW.ret ?_
      exact ret_intro (res2 rfl rfl rfl) ⟨(none, 1), rfl, h⟩
    · have h := hc hb7; clear ha hc
      refine CW.skip ?_
      refine CW.seq ?_
      refine CW.region ?_
      refine RL.opS trivial rfl (OpW.move (v := .int .i64 p0) e6 ?_)
      obtain ⟨h1, h2, h3, h4, h⟩ := h
      obtain ⟨b8, hb8_⟩ : ∃ b_, b_ = w4.heap.size := ⟨_, rfl⟩
      obtain ⟨w9, hw9_⟩ : ∃ w_, w_ = w4.alloc (.cells (List.replicate (Int.toNat p0 * 1024) (Value.int .u8 0)).toArray 112) := ⟨_, rfl⟩
      have h := h b8 w9 hb8_ hw9_
      obtain ⟨x10, hx10_⟩ : ∃ s_ : Sl, s_ = ⟨some ⟨b8, 0, none⟩, Int.toNat p0, Int.toNat p0⟩ := ⟨_, rfl⟩
      rw [← hx10_] at h
      refine RL.opS trivial rfl (OpW.makeSliceE mk_90 (by decide) rfl rfl h1 h2 h3 h4 hb8_ hw9_ hx10_ ?_)
      refine RL.opS trivial rfl (OpW.buildL (vs := [(0, Sl.v x10)]) (cs := [Sl.v x10, Value.slice none 0 0, Value.slice none 0 0, Value.int .i64 0, Value.bool false]) (by rfl) (fun _ => by kernel_rfl) ?_)
      obtain ⟨b11, hb11_⟩ : ∃ b_, b_ = w9.heap.size := ⟨_, rfl⟩
      obtain ⟨w12, hw12_⟩ : ∃ w_, w_ = w9.alloc (.cells (List.toArray [Sl.v x10, Value.slice none 0 0, Value.slice none 0 0, Value.int .i64 0, Value.bool false]) 93) := ⟨_, rfl⟩
      have h := h b11 w12 hb11_ hw12_
      refine RL.opS trivial rfl (OpW.boxE (cs := [Sl.v x10, Value.slice none 0 0, Value.slice none 0 0, Value.int .i64 0, Value.bool false]) (rfl) hb11_ hw12_ ?_)
      refine RL.opS trivial rfl (OpW.assign (v := .pointer (some ⟨b11, 0, none⟩)) rfl ?_)
      refine RL.opS trivial rfl (OpW.assign (v := .int .i64 0) rfl ?_)
      refine RL.nil ?_
      refine CW.ret ?_
      exact ret_intro (res2 rfl rfl rfl) ⟨(some ⟨b11, 0, none⟩, 0), rfl, h⟩
  · clear hk14
    dsimp only [List.take]
    obtain ⟨ha, hc⟩ := h
    rcases Bool.eq_false_or_eq_true (decide (p0 < 1)) with hb1 | hb1
    · have h := ha hb1; clear ha hc
      refine RL.skipS (notWanted_of rfl rfl hb1) rfl ?_
      refine RL.skipS (notWanted_of rfl rfl hb1) rfl ?_
      refine RL.opS trivial rfl (OpW.pick (b := true) (v := .bool true) (congrArg Value.bool hb1) rfl ?_)
      refine RL.nil ?_
      exact ⟨true, ⟨rfl, rfl⟩, h⟩
    · have h := hc hb1; clear ha hc
      refine RL.opS (wanted_of rfl rfl hb1) rfl (OpW.move (v := .int .i64 p0) rfl ?_)
      refine RL.opS (wanted_of rfl rfl hb1) rfl (OpW.bin (k := .i64) (a := p0) (b := 4096) (v := .bool (decide (4096 < p0))) rfl rfl rfl ?_)
      refine RL.opS trivial rfl (OpW.pick (b := false) (v := .bool (decide (4096 < p0))) (congrArg Value.bool hb1) rfl ?_)
      refine RL.nil ?_
      exact ⟨(decide (4096 < p0)), ⟨rfl, rfl⟩, h⟩
end Go.Proofs.Ytagkcbbbdlmcjaa
