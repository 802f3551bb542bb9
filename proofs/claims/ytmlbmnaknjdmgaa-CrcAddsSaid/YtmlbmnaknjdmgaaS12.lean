/- The typed readings of the functions, and that the program meets each: written by gen.py (a program of this session). -/
import Derived.Test.YtmlbmnaknjdmgaaLiftDraw
import Derived.Test.YtmlbmnaknjdmgaaRead
set_option linter.unusedVariables false
set_option linter.unusedSimpArgs false
namespace Go.Proofs.Ytmlbmnaknjdmgaa
open Go.Lift
set_option maxRecDepth 100000 in
set_option maxHeartbeats 4000000 in
theorem s12_calls (K : Sl → World → Prop) (p0 : Sl) (w : World) (h : s12 K p0 w) :
    Calls Try.prog 12 #[Sl.v p0] w (Ret r12 K) := by
  unfold s12 at h
  refine calls_of_CW (n := 22) Try.func12 rfl rfl rfl ?_
  refine CW.seq ?_
  refine CW.region ?_
  refine RL.opS trivial rfl (OpW.assign (v := Sl.v nilSl) rfl ?_)
  refine RL.nil ?_
  refine CW.seq ?_
  refine CW.region ?_
  refine RL.opS trivial rfl (OpW.move (v := Sl.v p0) rfl ?_)
  obtain ⟨b1, hb1_⟩ : ∃ b_, b_ = w.heap.size := ⟨_, rfl⟩
  obtain ⟨w2, hw2_⟩ : ∃ w_, w_ = w.alloc (.cells (List.toArray [Sl.v p0]) 25) := ⟨_, rfl⟩
  have h := h b1 w2 hb1_ hw2_
  refine RL.opS trivial rfl (OpW.buildSliceE (vs := [(0, Sl.v p0)]) (cs := [Sl.v p0]) (by rfl) (by kernel_rfl) hb1_ hw2_ ?_)
  refine RL.opS trivial rfl (OpW.callR (al := [Sl.v ⟨some ⟨b1, 0, none⟩, 1, 1⟩]) Try.func10 fb_10 fn_10 rfl h (fun x3 w4 h => ?_))
  refine RL.opS trivial rfl (OpW.assign (v := .int .u32 x3) rfl ?_)
  refine RL.nil ?_
  refine CW.seq ?_
  refine CW.region ?_
  obtain ⟨b5, hb5_⟩ : ∃ b_, b_ = w4.heap.size := ⟨_, rfl⟩
  obtain ⟨w6, hw6_⟩ : ∃ w_, w_ = w4.alloc (.cells (List.toArray []) 5) := ⟨_, rfl⟩
  have h := h b5 w6 hb5_ hw6_
  refine RL.opS trivial rfl (OpW.buildSliceE (vs := []) (cs := []) (by rfl) (by kernel_rfl) hb5_ hw6_ ?_)
  refine RL.opS trivial rfl (OpW.move (v := Sl.v p0) rfl ?_)
  obtain ⟨x7, w8, hr_, h⟩ := h
  refine RL.opS trivial rfl (OpW.appendL (v := Sl.v x7) rfl hr_ ?_)
  refine RL.opS trivial rfl (OpW.assign (v := Sl.v x7) rfl ?_)
  refine RL.nil ?_
  refine CW.seq ?_
  refine CW.seq ?_
  refine CW.region ?_
  refine RL.opS trivial rfl (OpW.move (v := .int .i64 0) rfl ?_)
  refine RL.nil ?_
  refine CW.block ?_
  obtain ⟨I20, mu21, hI, hs⟩ := h
  refine CW.loop (σ := Int × Sl × Int) (fun s9 ρ => ρ 3 = .int .u32 s9.1 ∧ ρ 4 = Sl.v s9.2.1 ∧ ρ 11 = .int .i64 s9.2.2) I20 mu21 (x3, x7, 0) ⟨rfl, rfl, rfl⟩ hI ?_
  rintro s9 ρ w10 ⟨e12, e13, e14⟩ hI
  have h := hs s9 w10 hI
  clear hs hI
  refine CW.seq ?_
  refine CW.region ?_
  refine RL.opS trivial rfl (OpW.bin (k := .i64) (a := s9.2.2) (b := 4) (v := .bool (decide (s9.2.2 < 4))) e14 rfl rfl ?_)
  refine RL.nil ?_
  refine CW.seq ?_
  obtain ⟨ha, hc⟩ := h
  refine CW.cond (b := (decide (s9.2.2 < 4))) rfl (fun hb15 => ?_) (fun hb15 => ?_)
  · have h := ha hb15; clear ha hc
    refine CW.skip ?_
    refine CW.seq ?_
    refine CW.block ?_
    refine CW.seq ?_
    refine CW.region ?_
    refine RL.opS trivial rfl (OpW.move (v := Sl.v s9.2.1) e13 ?_)
    refine RL.opS trivial rfl (OpW.move (v := .int .u32 s9.1) e12 ?_)
    refine RL.opS trivial rfl (OpW.convInt (a := s9.1) int_26 int_5 rfl ?_)
    obtain ⟨b16, hb16_⟩ : ∃ b_, b_ = w10.heap.size := ⟨_, rfl⟩
    obtain ⟨w17, hw17_⟩ : ∃ w_, w_ = w10.alloc (.cells (List.toArray [.int .u8 (IntKind.u8.wrap s9.1)]) 5) := ⟨_, rfl⟩
    have h := h b16 w17 hb16_ hw17_
    refine RL.opS trivial rfl (OpW.buildSliceE (vs := [(0, .int .u8 (IntKind.u8.wrap s9.1))]) (cs := [.int .u8 (IntKind.u8.wrap s9.1)]) (by rfl) (by kernel_rfl) hb16_ hw17_ ?_)
    obtain ⟨x18, w19, hr_, h⟩ := h
    refine RL.opS trivial rfl (OpW.appendL (v := Sl.v x18) rfl hr_ ?_)
    refine RL.opS trivial rfl (OpW.assign (v := Sl.v x18) rfl ?_)
    refine RL.nil ?_
    refine CW.region ?_
    refine RL.opS trivial rfl (OpW.move (v := .int .u32 s9.1) e12 ?_)
    refine RL.opS trivial rfl (OpW.shift (a := s9.1) (b := 8) (v := .int .u32 (shrI .u32 s9.1 8)) rfl rfl (by decide) rfl ?_)
    refine RL.opS trivial rfl (OpW.assign (v := .int .u32 (shrI .u32 s9.1 8)) rfl ?_)
    refine RL.nil ?_
    refine CW.region ?_
    refine RL.opS trivial rfl (OpW.bin (k := .i64) (a := s9.2.2) (b := 1) (v := .int .i64 (IntKind.i64.wrap (s9.2.2 + 1))) e14 rfl rfl ?_)
    refine RL.opS trivial rfl (OpW.move (v := .int .i64 (IntKind.i64.wrap (s9.2.2 + 1))) rfl ?_)
    refine RL.nil ?_
    exact ⟨((shrI .u32 s9.1 8), x18, (IntKind.i64.wrap (s9.2.2 + 1))), ⟨rfl, rfl, rfl⟩, h⟩
  · have h := hc hb15; clear ha hc
    refine CW.exit ?_
    refine CW.seq ?_
    refine CW.region ?_
    refine RL.opS trivial rfl (OpW.move (v := Sl.v s9.2.1) e13 ?_)
    refine RL.opS trivial rfl (OpW.assign (v := Sl.v s9.2.1) rfl ?_)
    refine RL.nil ?_
    refine CW.ret ?_
    exact ret_intro (res1 rfl rfl) ⟨s9.2.1, rfl, h⟩
end Go.Proofs.Ytmlbmnaknjdmgaa
