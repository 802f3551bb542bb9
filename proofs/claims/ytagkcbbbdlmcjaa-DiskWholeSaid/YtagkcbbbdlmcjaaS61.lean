/- The typed readings of the functions, and that the program meets each: written by gen.py (a program of this session). -/
import Derived.Test.YtagkcbbbdlmcjaaLiftDraw
import Derived.Test.YtagkcbbbdlmcjaaRead
set_option linter.unusedVariables false
set_option linter.unusedSimpArgs false
namespace Go.Proofs.Ytagkcbbbdlmcjaa
open Go.Lift
set_option maxRecDepth 100000 in
set_option maxHeartbeats 4000000 in
theorem s61_calls (K : Int → World → Prop) (p0 : Option Addr) (w : World) (h : s61 K p0 w) :
    Calls Try.prog 61 #[.pointer p0] w (Ret r61 K) := by
  unfold s61 at h
  refine calls_of_CW (n := 34) Try.func61 rfl rfl rfl ?_
  refine CW.seq ?_
  refine CW.region ?_
  refine RL.opS trivial rfl (OpW.assign (v := .int .i64 0) rfl ?_)
  refine RL.nil ?_
  refine CW.seq ?_
  refine CW.region ?_
  refine RL.opS trivial rfl (OpW.move (v := .pointer p0) rfl ?_)
  obtain ⟨a1, ha2, h⟩ := h
  refine RL.opS trivial rfl (OpW.nilCheck (a := a1) (congrArg Value.pointer ha2) ?_)
  refine RL.opS trivial rfl (OpW.fieldAddr field_93_3 rfl ?_)
  obtain ⟨x3, h1, h⟩ := h
  refine RL.opS trivial rfl (OpW.load1 (v := .int .i64 x3) one_3 rfl h1 ?_)
  refine RL.opS trivial rfl (OpW.assign (v := .int .i64 x3) rfl ?_)
  refine RL.nil ?_
  refine CW.seq ?_
  refine CW.region ?_
  refine RL.opS trivial rfl (OpW.move (v := .pointer p0) rfl ?_)
  obtain ⟨a4, ha5, h⟩ := h
  refine RL.opS trivial rfl (OpW.nilCheck (a := a4) (congrArg Value.pointer ha5) ?_)
  refine RL.opS trivial rfl (OpW.fieldAddr field_93_3 rfl ?_)
  obtain ⟨x6, h1, h⟩ := h
  refine RL.opS trivial rfl (OpW.load1 (v := .int .i64 x6) one_3 rfl h1 ?_)
  refine RL.opS trivial rfl (OpW.bin (k := .i64) (a := x6) (b := 1) (v := .int .i64 (IntKind.i64.wrap (x6 + 1))) rfl rfl rfl ?_)
  obtain ⟨a7, ha8, h⟩ := h
  refine RL.opS trivial rfl (OpW.nilCheck (a := a7) (congrArg Value.pointer ha8) ?_)
  refine RL.opS trivial rfl (OpW.fieldAddr field_93_3 rfl ?_)
  obtain ⟨u_, h1, h2, h⟩ := h
  obtain ⟨w9, hw9_⟩ : ∃ w_, w_ = w.setCell (Addr.add a7 3) (.int .i64 (IntKind.i64.wrap (x6 + 1))) := ⟨_, rfl⟩
  have h := h w9 hw9_
  refine RL.opN trivial (OpW.store1E (v := .int .i64 (IntKind.i64.wrap (x6 + 1))) size_3 rfl rfl rfl h1 h2 hw9_ ?_)
  refine RL.nil ?_
  refine CW.seq ?_
  refine CW.seq ?_
  refine CW.region ?_
  refine RL.opS trivial rfl (OpW.move (v := .pointer p0) rfl ?_)
  obtain ⟨a10, ha11, h⟩ := h
  refine RL.opS trivial rfl (OpW.nilCheck (a := a10) (congrArg Value.pointer ha11) ?_)
  refine RL.opS trivial rfl (OpW.fieldAddr field_93_2 rfl ?_)
  obtain ⟨x12, h1, h⟩ := h
  refine RL.opS trivial rfl (OpW.load1 (v := Sl.v x12) one_47 rfl h1 ?_)
  refine RL.opS trivial rfl (OpW.len (s := x12) slice_47 rfl ?_)
  refine RL.opS trivial rfl (OpW.move (v := .int .i64 0) rfl ?_)
  refine RL.nil ?_
  refine CW.block ?_
  obtain ⟨I32, mu33, hI, hs⟩ := h
  refine CW.loop (σ := Int) (fun s13 ρ => ρ 22 = .int .i64 s13 ∧ ρ 0 = .pointer p0 ∧ ρ 3 = .int .i64 x3 ∧ ρ 20 = Sl.v x12 ∧ ρ 21 = .int .i64 (x12.len : Int)) I32 mu33 0 ⟨rfl, rfl, rfl, rfl, rfl⟩ hI ?_
  rintro s13 ρ w14 ⟨e16, e17, e18, e19, e20⟩ hI
  have h := hs s13 w14 hI
  clear hs hI
  refine CW.seq ?_
  refine CW.region ?_
  refine RL.opS trivial rfl (OpW.bin (k := .i64) (a := s13) (b := (x12.len : Int)) (v := .bool (decide (s13 < (x12.len : Int)))) e16 e20 rfl ?_)
  refine RL.nil ?_
  refine CW.seq ?_
  obtain ⟨ha, hc⟩ := h
  refine CW.cond (b := (decide (s13 < (x12.len : Int)))) rfl (fun hb21 => ?_) (fun hb21 => ?_)
  · have h := ha hb21; clear ha hc
    refine CW.skip ?_
    refine CW.seq ?_
    refine CW.block ?_
    refine CW.seq ?_
    refine CW.region ?_
    obtain ⟨a22_, a22, h1, h2, h3, h4, h⟩ := h
    refine RL.opS trivial rfl (OpW.indexE (a' := a22) slice_47 e19 e16 h1 h2 h3 h4 ?_)
    obtain ⟨x24, h1, h2, h⟩ := h
    refine RL.opS trivial rfl (OpW.loadA agg_27 rfl h1 h2 ?_)
    obtain ⟨hl_b25, ho_b25, h⟩ := h
    obtain ⟨b25, hb25_⟩ : ∃ b_, b_ = w14.heap.size := ⟨_, rfl⟩
    obtain ⟨w26, hw26_⟩ : ∃ w_, w_ = w14.alloc (.cells (List.toArray x24) 27) := ⟨_, rfl⟩
    have h := h b25 w26 hb25_ hw26_
    refine RL.opS trivial rfl (OpW.allocZ (b := b25) zero_27 hb25_ ?_)
    refine RL.opN trivial (OpW.storeF (zs := [Value.int .i64 0, Value.int .u64 0, Value.int .i64 0]) (cs := x24) size_27 rfl rfl hl_b25 (by decide) ho_b25 hb25_ hw26_ ?_)
    refine RL.nil ?_
    refine CW.seq ?_
    refine CW.region ?_
    refine RL.opS trivial rfl (OpW.fieldAddr (off := 0) field_27_0 rfl ?_)
    obtain ⟨x27, h1, h⟩ := h
    refine RL.opS trivial rfl (OpW.load1 (v := .int .i64 x27) one_3 rfl h1 ?_)
    refine RL.opS trivial rfl (OpW.move (v := .int .i64 x3) e18 ?_)
    refine RL.opS trivial rfl (OpW.bin (k := .i64) (a := x27) (b := x3) (v := .bool (decide (x27 = x3))) rfl rfl rfl ?_)
    refine RL.nil ?_
    obtain ⟨ha, hc⟩ := h
    refine CW.cond (b := (decide (x27 = x3))) rfl (fun hb28 => ?_) (fun hb28 => ?_)
    · have h := ha hb28; clear ha hc
      refine CW.seq ?_
      refine CW.region ?_
      refine RL.opS trivial rfl (OpW.move (v := .pointer p0) e17 ?_)
      obtain ⟨x29, h1, h2, h⟩ := h
      refine RL.opS trivial rfl (OpW.loadA agg_27 rfl h1 h2 ?_)
      refine RL.opS trivial rfl (OpW.callR (al := [.pointer p0, aggv x29]) Try.func35 fb_35 fn_35 rfl h (fun x30 w31 h => ?_))
      refine RL.nil ?_
      refine CW.seq ?_
      refine CW.region ?_
      refine RL.opS trivial rfl (OpW.assign (v := .int .i64 6) rfl ?_)
      refine RL.nil ?_
      refine CW.ret ?_
      exact ret_intro (res1 rfl rfl) ⟨6, rfl, h⟩
    · have h := hc hb28; clear ha hc
      refine CW.skip ?_
      refine CW.region ?_
      refine RL.opS trivial rfl (OpW.bin (k := .i64) (a := s13) (b := 1) (v := .int .i64 (IntKind.i64.wrap (s13 + 1))) e16 rfl rfl ?_)
      refine RL.opS trivial rfl (OpW.move (v := .int .i64 (IntKind.i64.wrap (s13 + 1))) rfl ?_)
      refine RL.nil ?_
      exact ⟨(IntKind.i64.wrap (s13 + 1)), ⟨rfl, e17, e18, e19, e20⟩, h⟩
  · have h := hc hb21; clear ha hc
    refine CW.exit ?_
    refine CW.seq ?_
    refine CW.region ?_
    refine RL.opS trivial rfl (OpW.assign (v := .int .i64 0) rfl ?_)
    refine RL.nil ?_
    refine CW.ret ?_
    exact ret_intro (res1 rfl rfl) ⟨0, rfl, h⟩
end Go.Proofs.Ytagkcbbbdlmcjaa
