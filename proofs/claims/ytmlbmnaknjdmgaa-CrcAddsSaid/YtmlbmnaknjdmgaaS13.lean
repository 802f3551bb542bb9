/- The typed readings of the functions, and that the program meets each: written by gen.py (a program of this session). -/
import Derived.Test.YtmlbmnaknjdmgaaLiftDraw
import Derived.Test.YtmlbmnaknjdmgaaRead
set_option linter.unusedVariables false
set_option linter.unusedSimpArgs false
namespace Go.Proofs.Ytmlbmnaknjdmgaa
open Go.Lift
set_option maxRecDepth 100000 in
set_option maxHeartbeats 4000000 in
theorem s13_calls (K : List UInt8 → World → Prop) (p0 : List UInt8) (w : World) (h : s13 K p0 w) :
    Calls Try.prog 13 #[str p0] w (Ret r13 K) := by
  unfold s13 at h
  refine calls_of_CW (n := 21) Try.func13 rfl rfl rfl ?_
  refine CW.seq ?_
  refine CW.region ?_
  refine RL.opS trivial rfl (OpW.assign (v := str []) rfl ?_)
  refine RL.nil ?_
  refine CW.seq ?_
  refine CW.region ?_
  refine RL.opS trivial rfl (OpW.move (v := str p0) rfl ?_)
  refine RL.opS trivial rfl (OpW.callR (al := [str p0]) Try.func11 fb_11 fn_11 rfl h (fun x1 w2 h => ?_))
  refine RL.opS trivial rfl (OpW.assign (v := .int .u32 x1) rfl ?_)
  refine RL.nil ?_
  refine CW.seq ?_
  refine CW.region ?_
  refine RL.opS trivial rfl (OpW.move (v := str p0) rfl ?_)
  refine RL.opS trivial rfl (OpW.move (v := .int .u32 x1) rfl ?_)
  refine RL.opS trivial rfl (OpW.convInt (a := x1) int_26 int_5 rfl ?_)
  refine RL.opS trivial rfl (OpW.move (v := .int .u32 x1) rfl ?_)
  refine RL.opS trivial rfl (OpW.quo (a := x1) (b := 256) (v := .int .u32 (IntKind.u32.wrap (Int.tdiv x1 256))) rfl rfl (by decide) rfl ?_)
  refine RL.opS trivial rfl (OpW.convInt (a := (IntKind.u32.wrap (Int.tdiv x1 256))) int_26 int_5 rfl ?_)
  refine RL.opS trivial rfl (OpW.move (v := .int .u32 x1) rfl ?_)
  refine RL.opS trivial rfl (OpW.quo (a := x1) (b := 65536) (v := .int .u32 (IntKind.u32.wrap (Int.tdiv x1 65536))) rfl rfl (by decide) rfl ?_)
  refine RL.opS trivial rfl (OpW.convInt (a := (IntKind.u32.wrap (Int.tdiv x1 65536))) int_26 int_5 rfl ?_)
  refine RL.opS trivial rfl (OpW.move (v := .int .u32 x1) rfl ?_)
  refine RL.opS trivial rfl (OpW.quo (a := x1) (b := 16777216) (v := .int .u32 (IntKind.u32.wrap (Int.tdiv x1 16777216))) rfl rfl (by decide) rfl ?_)
  refine RL.opS trivial rfl (OpW.convInt (a := (IntKind.u32.wrap (Int.tdiv x1 16777216))) int_26 int_5 rfl ?_)
  obtain ⟨b3, hb3_⟩ : ∃ b_, b_ = w2.heap.size := ⟨_, rfl⟩
  obtain ⟨w4, hw4_⟩ : ∃ w_, w_ = w2.alloc (.cells (List.toArray [.int .u8 (IntKind.u8.wrap x1), .int .u8 (IntKind.u8.wrap (IntKind.u32.wrap (Int.tdiv x1 256))), .int .u8 (IntKind.u8.wrap (IntKind.u32.wrap (Int.tdiv x1 65536))), .int .u8 (IntKind.u8.wrap (IntKind.u32.wrap (Int.tdiv x1 16777216)))]) 5) := ⟨_, rfl⟩
  have h := h b3 w4 hb3_ hw4_
  refine RL.opS trivial rfl (OpW.buildSliceE (vs := [(0, .int .u8 (IntKind.u8.wrap x1)), (1, .int .u8 (IntKind.u8.wrap (IntKind.u32.wrap (Int.tdiv x1 256)))), (2, .int .u8 (IntKind.u8.wrap (IntKind.u32.wrap (Int.tdiv x1 65536)))), (3, .int .u8 (IntKind.u8.wrap (IntKind.u32.wrap (Int.tdiv x1 16777216))))]) (cs := [.int .u8 (IntKind.u8.wrap x1), .int .u8 (IntKind.u8.wrap (IntKind.u32.wrap (Int.tdiv x1 256))), .int .u8 (IntKind.u8.wrap (IntKind.u32.wrap (Int.tdiv x1 65536))), .int .u8 (IntKind.u8.wrap (IntKind.u32.wrap (Int.tdiv x1 16777216)))]) (by rfl) (by kernel_rfl) hb3_ hw4_ ?_)
  obtain ⟨x5, h1, h2, h⟩ := h
  refine RL.opS trivial rfl (OpW.b2s bsl_25 str_9 rfl h1 h2 ?_)
  obtain ⟨hq_, h⟩ := h
  refine RL.opS trivial rfl (OpW.strAdd rfl rfl hq_ ?_)
  refine RL.opS trivial rfl (OpW.assign (v := str (p0 ++ x5)) rfl ?_)
  refine RL.nil ?_
  refine CW.ret ?_
  exact ret_intro (res1 rfl rfl) ⟨(p0 ++ x5), rfl, h⟩
end Go.Proofs.Ytmlbmnaknjdmgaa
