/- The typed readings of the functions, and that the program meets each: written by gen.py (a program of this session). -/
import Derived.Test.YtmlbmnaknjdmgaaLiftDraw
import Derived.Test.YtmlbmnaknjdmgaaRead
set_option linter.unusedVariables false
set_option linter.unusedSimpArgs false
namespace Go.Proofs.Ytmlbmnaknjdmgaa
open Go.Lift
set_option maxRecDepth 100000 in
set_option maxHeartbeats 4000000 in
theorem s8_calls (K : Bool → World → Prop)  (w : World) (h : s8 K  w) :
    Calls Try.prog 8 #[] w (Ret r8 K) := by
  unfold s8 at h
  refine calls_of_CW (n := 8) Try.func8 rfl rfl rfl ?_
  refine CW.seq ?_
  refine CW.region ?_
  refine RL.opS trivial rfl (OpW.assign (v := .bool false) rfl ?_)
  refine RL.nil ?_
  refine CW.seq ?_
  refine CW.region ?_
  obtain ⟨b1, hb1_⟩ : ∃ b_, b_ = w.heap.size := ⟨_, rfl⟩
  obtain ⟨w2, hw2_⟩ : ∃ w_, w_ = w.alloc (.cells (List.toArray [.int .u8 49, .int .u8 50, .int .u8 51, .int .u8 52]) 5) := ⟨_, rfl⟩
  have h := h b1 w2 hb1_ hw2_
  refine RL.opS trivial rfl (OpW.buildSliceE (vs := [(0, .int .u8 49), (1, .int .u8 50), (2, .int .u8 51), (3, .int .u8 52)]) (cs := [.int .u8 49, .int .u8 50, .int .u8 51, .int .u8 52]) (by rfl) (by kernel_rfl) hb1_ hw2_ ?_)
  obtain ⟨b_, o_, c_, e_, fr_, h1, h2, h⟩ := h
  obtain ⟨w3, hw3_⟩ : ∃ w_, w_ = w2.freeze ⟨b_, c_.size, none⟩ 1 := ⟨_, rfl⟩
  have h := h w3 hw3_
  refine RL.opS trivial rfl (OpW.markE bsl_25 rfl h1 h2 hw3_ ?_)
  obtain ⟨b4, hb4_⟩ : ∃ b_, b_ = w3.heap.size := ⟨_, rfl⟩
  obtain ⟨w5, hw5_⟩ : ∃ w_, w_ = w3.alloc (.cells (List.toArray [.int .u8 53, .int .u8 54, .int .u8 55, .int .u8 56, .int .u8 57]) 5) := ⟨_, rfl⟩
  have h := h b4 w5 hb4_ hw5_
  refine RL.opS trivial rfl (OpW.buildSliceE (vs := [(0, .int .u8 53), (1, .int .u8 54), (2, .int .u8 55), (3, .int .u8 56), (4, .int .u8 57)]) (cs := [.int .u8 53, .int .u8 54, .int .u8 55, .int .u8 56, .int .u8 57]) (by rfl) (by kernel_rfl) hb4_ hw5_ ?_)
  obtain ⟨b_, o_, c_, e_, fr_, h1, h2, h⟩ := h
  obtain ⟨w6, hw6_⟩ : ∃ w_, w_ = w5.freeze ⟨b_, c_.size, none⟩ 1 := ⟨_, rfl⟩
  have h := h w6 hw6_
  refine RL.opS trivial rfl (OpW.markE bsl_25 rfl h1 h2 hw6_ ?_)
  obtain ⟨b7, hb7_⟩ : ∃ b_, b_ = w6.heap.size := ⟨_, rfl⟩
  obtain ⟨w8, hw8_⟩ : ∃ w_, w_ = w6.alloc (.cells (List.toArray [Sl.v ⟨some ⟨b1, 0, none⟩, 4, 4⟩, Sl.v ⟨some ⟨b4, 0, none⟩, 5, 5⟩]) 25) := ⟨_, rfl⟩
  have h := h b7 w8 hb7_ hw8_
  refine RL.opS trivial rfl (OpW.buildSliceE (vs := [(0, Sl.v ⟨some ⟨b1, 0, none⟩, 4, 4⟩), (1, Sl.v ⟨some ⟨b4, 0, none⟩, 5, 5⟩)]) (cs := [Sl.v ⟨some ⟨b1, 0, none⟩, 4, 4⟩, Sl.v ⟨some ⟨b4, 0, none⟩, 5, 5⟩]) (by rfl) (by kernel_rfl) hb7_ hw8_ ?_)
  refine RL.opS trivial rfl (OpW.callR (al := [Sl.v ⟨some ⟨b7, 0, none⟩, 2, 2⟩]) Try.func10 fb_10 fn_10 rfl h (fun x9 w10 h => ?_))
  refine RL.opS trivial rfl (OpW.bin (k := .u32) (a := x9) (b := 3421780262) (v := .bool (decide (x9 = 3421780262))) rfl rfl rfl ?_)
  refine RL.opS trivial rfl (OpW.assign (v := .bool (decide (x9 = 3421780262))) rfl ?_)
  refine RL.nil ?_
  refine CW.ret ?_
  exact ret_intro (res1 rfl rfl) ⟨(decide (x9 = 3421780262)), rfl, h⟩
end Go.Proofs.Ytmlbmnaknjdmgaa
