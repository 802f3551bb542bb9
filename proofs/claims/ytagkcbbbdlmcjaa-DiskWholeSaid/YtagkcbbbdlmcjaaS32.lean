/- The typed readings of the functions, and that the program meets each: written by gen.py (a program of this session). -/
import Derived.Test.YtagkcbbbdlmcjaaLiftDraw
import Derived.Test.YtagkcbbbdlmcjaaRead
set_option linter.unusedVariables false
set_option linter.unusedSimpArgs false
namespace Go.Proofs.Ytagkcbbbdlmcjaa
open Go.Lift
set_option maxRecDepth 100000 in
set_option maxHeartbeats 4000000 in
theorem s32_calls (K : Sl → World → Prop) (p0 : Int) (p1 : List UInt8) (w : World) (h : s32 K p0 p1 w) :
    Calls Try.prog 32 #[.int .u8 p0, str p1] w (Ret r32 K) := by
  unfold s32 at h
  refine calls_of_CW (n := 22) Try.func32 rfl rfl rfl ?_
  refine CW.seq ?_
  refine CW.region ?_
  refine RL.opS trivial rfl (OpW.assign (v := Sl.v nilSl) rfl ?_)
  refine RL.nil ?_
  refine CW.seq ?_
  refine CW.region ?_
  obtain ⟨h1, h2, h3, h4, h⟩ := h
  obtain ⟨b1, hb1_⟩ : ∃ b_, b_ = w.heap.size := ⟨_, rfl⟩
  obtain ⟨w2, hw2_⟩ : ∃ w_, w_ = w.alloc (.cells (List.replicate (Int.toNat 512 * 1) (Value.int .u8 0)).toArray 5) := ⟨_, rfl⟩
  have h := h b1 w2 hb1_ hw2_
  obtain ⟨x3, hx3_⟩ : ∃ s_ : Sl, s_ = ⟨some ⟨b1, 0, none⟩, Int.toNat 512, Int.toNat 512⟩ := ⟨_, rfl⟩
  rw [← hx3_] at h
  refine RL.opS trivial rfl (OpW.makeSliceE mk_39 (by decide) rfl rfl h1 h2 h3 h4 hb1_ hw2_ hx3_ ?_)
  refine RL.opS trivial rfl (OpW.assign (v := Sl.v x3) rfl ?_)
  refine RL.nil ?_
  refine CW.seq ?_
  refine CW.seq ?_
  refine CW.region ?_
  refine RL.opS trivial rfl (OpW.move (v := Sl.v x3) rfl ?_)
  refine RL.opS trivial rfl (OpW.len (s := x3) slice_39 rfl ?_)
  refine RL.opS trivial rfl (OpW.move (v := .int .i64 0) rfl ?_)
  refine RL.nil ?_
  refine CW.block ?_
  obtain ⟨I18, mu19, hI, hs⟩ := h
  refine CW.loop (σ := Int) (fun s4 ρ => ρ 10 = .int .i64 s4 ∧ ρ 0 = .int .u8 p0 ∧ ρ 1 = str p1 ∧ ρ 5 = Sl.v x3 ∧ ρ 9 = .int .i64 (x3.len : Int)) I18 mu19 0 ⟨rfl, rfl, rfl, rfl, rfl⟩ hI ?_
  rintro s4 ρ w5 ⟨e7, e8, e9, e10, e11⟩ hI
  have h := hs s4 w5 hI
  clear hs hI
  refine CW.seq ?_
  refine CW.region ?_
  refine RL.opS trivial rfl (OpW.bin (k := .i64) (a := s4) (b := (x3.len : Int)) (v := .bool (decide (s4 < (x3.len : Int)))) e7 e11 rfl ?_)
  refine RL.nil ?_
  refine CW.seq ?_
  obtain ⟨ha, hc⟩ := h
  refine CW.cond (b := (decide (s4 < (x3.len : Int)))) rfl (fun hb12 => ?_) (fun hb12 => ?_)
  · have h := ha hb12; clear ha hc
    refine CW.skip ?_
    refine CW.seq ?_
    refine CW.block ?_
    refine CW.seq ?_
    refine CW.region ?_
    refine RL.opS trivial rfl (OpW.move (v := .int .i64 s4) e7 ?_)
    refine RL.opS trivial rfl (OpW.assign (v := .int .i64 s4) rfl ?_)
    refine RL.nil ?_
    refine CW.region ?_
    refine RL.opS trivial rfl (OpW.move (v := Sl.v x3) e10 ?_)
    refine RL.opS trivial rfl (OpW.move (v := .int .i64 s4) rfl ?_)
    refine RL.opS trivial rfl (OpW.move (v := .int .u8 p0) e8 ?_)
    obtain ⟨a13_, a13, h1, h2, h3, h4, h⟩ := h
    refine RL.opS trivial rfl (OpW.indexE (a' := a13) slice_39 rfl rfl h1 h2 h3 h4 ?_)
    obtain ⟨u_, h1, h2, h⟩ := h
    obtain ⟨w15, hw15_⟩ : ∃ w_, w_ = w5.setCell a13 (.int .u8 p0) := ⟨_, rfl⟩
    have h := h w15 hw15_
    refine RL.opN trivial (OpW.store1E (v := .int .u8 p0) size_5 rfl rfl rfl h1 h2 hw15_ ?_)
    refine RL.nil ?_
    refine CW.region ?_
    refine RL.opS trivial rfl (OpW.bin (k := .i64) (a := s4) (b := 1) (v := .int .i64 (IntKind.i64.wrap (s4 + 1))) e7 rfl rfl ?_)
    refine RL.opS trivial rfl (OpW.move (v := .int .i64 (IntKind.i64.wrap (s4 + 1))) rfl ?_)
    refine RL.nil ?_
    exact ⟨(IntKind.i64.wrap (s4 + 1)), ⟨rfl, e8, e9, e10, e11⟩, h⟩
  · have h := hc hb12; clear ha hc
    refine CW.exit ?_
    refine CW.seq ?_
    refine CW.region ?_
    refine RL.opS trivial rfl (OpW.move (v := Sl.v x3) e10 ?_)
    refine RL.opS trivial rfl (OpW.move (v := str p1) e9 ?_)
    obtain ⟨x16, w17, hr_, h⟩ := h
    refine RL.opS trivial rfl (OpW.copyL (v := .int .i64 x16) rfl hr_ ?_)
    refine RL.nil ?_
    refine CW.seq ?_
    refine CW.region ?_
    refine RL.opS trivial rfl (OpW.move (v := Sl.v x3) e10 ?_)
    refine RL.opS trivial rfl (OpW.assign (v := Sl.v x3) rfl ?_)
    refine RL.nil ?_
    refine CW.ret ?_
    exact ret_intro (res1 rfl rfl) ⟨x3, rfl, h⟩
end Go.Proofs.Ytagkcbbbdlmcjaa
