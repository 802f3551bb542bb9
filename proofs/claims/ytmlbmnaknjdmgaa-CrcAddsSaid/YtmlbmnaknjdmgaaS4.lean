/- The typed readings of the functions, and that the program meets each: written by gen.py (a program of this session). -/
import Derived.Test.YtmlbmnaknjdmgaaLiftDraw
import Derived.Test.YtmlbmnaknjdmgaaRead
set_option linter.unusedVariables false
set_option linter.unusedSimpArgs false
namespace Go.Proofs.Ytmlbmnaknjdmgaa
open Go.Lift
set_option maxRecDepth 100000 in
set_option maxHeartbeats 4000000 in
theorem s4_calls (K : Bool → World → Prop) (p0 : Sl) (p1 : Sl) (p2 : Sl) (w : World) (h : s4 K p0 p1 p2 w) :
    Calls Try.prog 4 #[Sl.v p0, Sl.v p1, Sl.v p2] w (Ret r4 K) := by
  unfold s4 at h
  refine calls_of_CW (n := 65) Try.func4 rfl rfl rfl ?_
  refine CW.seq ?_
  refine CW.region ?_
  refine RL.opS trivial rfl (OpW.assign (v := .bool false) rfl ?_)
  refine RL.nil ?_
  refine CW.seq ?_
  refine CW.region ?_
  refine RL.opS trivial rfl (OpW.move (v := Sl.v p0) rfl ?_)
  refine RL.opS trivial rfl (OpW.len (s := p0) slice_25 rfl ?_)
  refine RL.opS trivial rfl (OpW.move (v := Sl.v p1) rfl ?_)
  refine RL.opS trivial rfl (OpW.len (s := p1) slice_25 rfl ?_)
  refine RL.opS trivial rfl (OpW.move (v := Sl.v p2) rfl ?_)
  refine RL.opS trivial rfl (OpW.len (s := p2) slice_25 rfl ?_)
  refine RL.opS trivial rfl (OpW.runBuiltinP (v := .int .i64 (mn (mn (mn (p0.len : Int) (p1.len : Int)) (p2.len : Int)) 500)) (al := [.int .i64 (p0.len : Int), .int .i64 (p1.len : Int), .int .i64 (p2.len : Int), .int .i64 500]) rfl (by simp [builtin, Builtin.min_, Builtin.min2, mn, mx]) ?_)
  refine RL.opS trivial rfl (OpW.assign (v := .int .i64 (mn (mn (mn (p0.len : Int) (p1.len : Int)) (p2.len : Int)) 500)) rfl ?_)
  refine RL.nil ?_
  refine CW.seq ?_
  refine CW.seq ?_
  refine CW.region ?_
  refine RL.opS trivial rfl (OpW.callR (al := []) Try.func8 fb_8 fn_8 rfl h (fun x1 w2 h => ?_))
  refine RL.opS trivial rfl (OpW.not rfl ?_)
  refine RL.nil ?_
  obtain ⟨ha, hc⟩ := h
  refine CW.cond (b := (!x1)) rfl (fun hb3 => ?_) (fun hb3 => ?_)
  · have h := ha hb3; clear ha hc
    refine CW.seq ?_
    refine CW.region ?_
    refine RL.opS trivial rfl (OpW.assign (v := .bool false) rfl ?_)
    refine RL.nil ?_
    refine CW.ret ?_
    exact ret_intro (res1 rfl rfl) ⟨false, rfl, h⟩
  · have h := hc hb3; clear ha hc
    refine CW.skip ?_
    refine CW.seq ?_
    refine CW.region ?_
    refine RL.opS trivial rfl (OpW.move (v := .int .i64 (mn (mn (mn (p0.len : Int) (p1.len : Int)) (p2.len : Int)) 500)) rfl ?_)
    obtain ⟨h1, h2, h3, h4, h⟩ := h
    obtain ⟨b4, hb4_⟩ : ∃ b_, b_ = w2.heap.size := ⟨_, rfl⟩
    obtain ⟨w5, hw5_⟩ : ∃ w_, w_ = w2.alloc (.cells (List.replicate (Int.toNat (mn (mn (mn (p0.len : Int) (p1.len : Int)) (p2.len : Int)) 500) * 1) (Value.int .u8 0)).toArray 5) := ⟨_, rfl⟩
    have h := h b4 w5 hb4_ hw5_
    obtain ⟨x6, hx6_⟩ : ∃ s_ : Sl, s_ = ⟨some ⟨b4, 0, none⟩, Int.toNat (mn (mn (mn (p0.len : Int) (p1.len : Int)) (p2.len : Int)) 500), Int.toNat (mn (mn (mn (p0.len : Int) (p1.len : Int)) (p2.len : Int)) 500)⟩ := ⟨_, rfl⟩
    rw [← hx6_] at h
    refine RL.opS trivial rfl (OpW.makeSliceE mk_25 (by decide) rfl rfl h1 h2 h3 h4 hb4_ hw5_ hx6_ ?_)
    refine RL.opS trivial rfl (OpW.assign (v := Sl.v x6) rfl ?_)
    refine RL.nil ?_
    refine CW.seq ?_
    refine CW.seq ?_
    refine CW.region ?_
    refine RL.opS trivial rfl (OpW.move (v := Sl.v x6) rfl ?_)
    refine RL.opS trivial rfl (OpW.len (s := x6) slice_25 rfl ?_)
    refine RL.opS trivial rfl (OpW.move (v := .int .i64 0) rfl ?_)
    refine RL.nil ?_
    refine CW.block ?_
    obtain ⟨I367, mu368, hI, hs⟩ := h
    refine CW.loop (σ := Int) (fun s7 ρ => ρ 23 = .int .i64 s7 ∧ ρ 0 = Sl.v p0 ∧ ρ 1 = Sl.v p1 ∧ ρ 2 = Sl.v p2 ∧ ρ 7 = .int .i64 (mn (mn (mn (p0.len : Int) (p1.len : Int)) (p2.len : Int)) 500) ∧ ρ 8 = Sl.v x6 ∧ ρ 22 = .int .i64 (x6.len : Int)) I367 mu368 0 ⟨rfl, rfl, rfl, rfl, rfl, rfl, rfl⟩ hI ?_
    rintro s7 ρ w8 ⟨e10, e11, e12, e13, e14, e15, e16⟩ hI
    have h := hs s7 w8 hI
    clear hs hI
    refine CW.seq ?_
    refine CW.region ?_
    refine RL.opS trivial rfl (OpW.bin (k := .i64) (a := s7) (b := (x6.len : Int)) (v := .bool (decide (s7 < (x6.len : Int)))) e10 e16 rfl ?_)
    refine RL.nil ?_
    refine CW.seq ?_
    obtain ⟨ha, hc⟩ := h
    refine CW.cond (b := (decide (s7 < (x6.len : Int)))) rfl (fun hb17 => ?_) (fun hb17 => ?_)
    · have h := ha hb17; clear ha hc
      refine CW.skip ?_
      refine CW.seq ?_
      refine CW.block ?_
      refine CW.seq ?_
      refine CW.region ?_
      refine RL.opS trivial rfl (OpW.move (v := .int .i64 s7) e10 ?_)
      refine RL.opS trivial rfl (OpW.assign (v := .int .i64 s7) rfl ?_)
      refine RL.nil ?_
      obtain ⟨w18, hw18_⟩ : ∃ w_, w_ = w8.drew := ⟨_, rfl⟩
      have h := h w18 hw18_
      have hx19 : Ext w8 w18 := by rw [hw18_]; exact Ext.drew _
      refine CW.draws (m := 18) (listed := #[false, false, false, false, false, false, false, false, false, false, false, false, false, false, false, false, false, false]) mixed [0, 1, 2, 3, 4, 5, 6, 7, 8, 9, 10, 11, 12, 13, 14, 15, 16] (Ext w8) rfl rfl ?_
      rw [← hw18_]
      refine DL.takeP (listed' := #[true, false, false, false, false, false, false, false, false, false, false, false, false, false, false, false, false, false]) (v := Sl.v x6) 0 rfl rfl (by kernel_rfl) rfl trivial rfl (fun w_ K_ h_ => OpW.move (v := Sl.v x6) e15 h_) ?_
      refine DL.takeP (listed' := #[true, true, false, false, false, false, false, false, false, false, false, false, false, false, false, false, false, false]) (v := .int .i64 s7) 1 rfl rfl (by kernel_rfl) rfl trivial rfl (fun w_ K_ h_ => OpW.move (v := .int .i64 s7) rfl h_) ?_
      refine DL.takeP (listed' := #[true, true, true, false, false, false, false, false, false, false, false, false, false, false, false, false, false, false]) (v := Sl.v p0) 2 rfl rfl (by kernel_rfl) rfl trivial rfl (fun w_ K_ h_ => OpW.move (v := Sl.v p0) e11 h_) ?_
      refine DL.takeP (listed' := #[true, true, true, true, false, false, false, false, false, false, false, false, false, false, false, false, false, false]) (v := .int .i64 s7) 3 rfl rfl (by kernel_rfl) rfl trivial rfl (fun w_ K_ h_ => OpW.move (v := .int .i64 s7) rfl h_) ?_
      obtain ⟨a20_, a20, h1, h2, h3, h4, h⟩ := h
      refine DL.takeP (listed' := #[true, true, true, true, true, false, false, false, false, false, false, false, false, false, false, false, false, false]) (v := .pointer (some a20)) 4 rfl rfl (by kernel_rfl) rfl trivial rfl (fun w_ K_ h_ => OpW.indexE (a' := a20) slice_25 rfl rfl h1 h2 h3 h4 h_) ?_
      obtain ⟨x22, h1, h⟩ := h
      refine DL.takeK (listed' := #[true, true, true, true, true, true, false, false, false, false, false, false, false, false, false, false, false, false]) (v := .int .u8 x22) 5 rfl rfl (by kernel_rfl) (by kernel_rfl) rfl trivial rfl hx19 (fun w_ hS_ K_ h_ => OpW.load1 (v := .int .u8 x22) one_5 rfl (hS_.cell h1) h_) ?_
      refine DL.takeP (listed' := #[true, true, true, true, true, true, true, false, false, false, false, false, false, false, false, false, false, false]) (v := Sl.v p1) 6 rfl rfl (by kernel_rfl) rfl trivial rfl (fun w_ K_ h_ => OpW.move (v := Sl.v p1) e12 h_) ?_
      refine DL.takeP (listed' := #[true, true, true, true, true, true, true, true, false, false, false, false, false, false, false, false, false, false]) (v := .int .i64 s7) 7 rfl rfl (by kernel_rfl) rfl trivial rfl (fun w_ K_ h_ => OpW.move (v := .int .i64 s7) rfl h_) ?_
      obtain ⟨a23_, a23, h1, h2, h3, h4, h⟩ := h
      refine DL.takeP (listed' := #[true, true, true, true, true, true, true, true, true, false, false, false, false, false, false, false, false, false]) (v := .pointer (some a23)) 8 rfl rfl (by kernel_rfl) rfl trivial rfl (fun w_ K_ h_ => OpW.indexE (a' := a23) slice_25 rfl rfl h1 h2 h3 h4 h_) ?_
      obtain ⟨x25, h1, h⟩ := h
      refine DL.takeK (listed' := #[true, true, true, true, true, true, true, true, true, true, false, false, false, false, false, false, false, false]) (v := .int .u8 x25) 9 rfl rfl (by kernel_rfl) (by kernel_rfl) rfl trivial rfl hx19 (fun w_ hS_ K_ h_ => OpW.load1 (v := .int .u8 x25) one_5 rfl (hS_.cell h1) h_) ?_
      refine DL.takeP (listed' := #[true, true, true, true, true, true, true, true, true, true, true, false, false, false, false, false, false, false]) (v := .int .u8 (xorI .u8 x22 x25)) 10 rfl rfl (by kernel_rfl) rfl trivial rfl (fun w_ K_ h_ => OpW.bin (k := .u8) (a := x22) (b := x25) (v := .int .u8 (xorI .u8 x22 x25)) rfl rfl rfl h_) ?_
      refine DL.takeP (listed' := #[true, true, true, true, true, true, true, true, true, true, true, true, false, false, false, false, false, false]) (v := Sl.v p2) 11 rfl rfl (by kernel_rfl) rfl trivial rfl (fun w_ K_ h_ => OpW.move (v := Sl.v p2) e13 h_) ?_
      refine DL.takeP (listed' := #[true, true, true, true, true, true, true, true, true, true, true, true, true, false, false, false, false, false]) (v := .int .i64 s7) 12 rfl rfl (by kernel_rfl) rfl trivial rfl (fun w_ K_ h_ => OpW.move (v := .int .i64 s7) rfl h_) ?_
      obtain ⟨a26_, a26, h1, h2, h3, h4, h⟩ := h
      refine DL.takeP (listed' := #[true, true, true, true, true, true, true, true, true, true, true, true, true, true, false, false, false, false]) (v := .pointer (some a26)) 13 rfl rfl (by kernel_rfl) rfl trivial rfl (fun w_ K_ h_ => OpW.indexE (a' := a26) slice_25 rfl rfl h1 h2 h3 h4 h_) ?_
      obtain ⟨x28, h1, h⟩ := h
      refine DL.takeK (listed' := #[true, true, true, true, true, true, true, true, true, true, true, true, true, true, true, false, false, false]) (v := .int .u8 x28) 14 rfl rfl (by kernel_rfl) (by kernel_rfl) rfl trivial rfl hx19 (fun w_ hS_ K_ h_ => OpW.load1 (v := .int .u8 x28) one_5 rfl (hS_.cell h1) h_) ?_
      refine DL.takeP (listed' := #[true, true, true, true, true, true, true, true, true, true, true, true, true, true, true, true, false, false]) (v := .int .u8 (xorI .u8 (xorI .u8 x22 x25) x28)) 15 rfl rfl (by kernel_rfl) rfl trivial rfl (fun w_ K_ h_ => OpW.bin (k := .u8) (a := (xorI .u8 x22 x25)) (b := x28) (v := .int .u8 (xorI .u8 (xorI .u8 x22 x25) x28)) rfl rfl rfl h_) ?_
      obtain ⟨a29_, a29, h1, h2, h3, h4, h⟩ := h
      refine DL.takeP (listed' := #[true, true, true, true, true, true, true, true, true, true, true, true, true, true, true, true, true, false]) (v := .pointer (some a29)) 16 rfl rfl (by kernel_rfl) rfl trivial rfl (fun w_ K_ h_ => OpW.indexE (a' := a29) slice_25 rfl rfl h1 h2 h3 h4 h_) ?_
      obtain ⟨u_, h1, h2, h⟩ := h
      obtain ⟨w31, hw31_⟩ : ∃ w_, w_ = w18.setCell a29 (.int .u8 (xorI .u8 (xorI .u8 x22 x25) x28)) := ⟨_, rfl⟩
      have h := h w31 hw31_
      refine DL.execN (listed' := #[true, true, true, true, true, true, true, true, true, true, true, true, true, true, true, true, true, true]) 17 rfl (by kernel_rfl) rfl trivial (OpW.store1E (v := .int .u8 (xorI .u8 (xorI .u8 x22 x25) x28)) size_5 rfl rfl rfl h1 h2 hw31_ ?_)
      refine ⟨(fun h_ => absurd h_ (by decide)), ?_⟩
      refine DL.done (by kernel_rfl) ?_
      refine CW.region ?_
      refine RL.opS trivial rfl (OpW.bin (k := .i64) (a := s7) (b := 1) (v := .int .i64 (IntKind.i64.wrap (s7 + 1))) e10 rfl rfl ?_)
      refine RL.opS trivial rfl (OpW.move (v := .int .i64 (IntKind.i64.wrap (s7 + 1))) rfl ?_)
      refine RL.nil ?_
      exact ⟨(IntKind.i64.wrap (s7 + 1)), ⟨rfl, e11, e12, e13, e14, e15, e16⟩, h⟩
    · have h := hc hb17; clear ha hc
      refine CW.exit ?_
      refine CW.seq ?_
      obtain ⟨w32, hw32_⟩ : ∃ w_, w_ = w8.drew := ⟨_, rfl⟩
      have h := h w32 hw32_
      have hx33 : Ext w8 w32 := by rw [hw32_]; exact Ext.drew _
      refine CW.draws (m := 22) (listed := #[false, false, false, false, false, false, false, false, false, false, false, false, false, false, false, false, false, false, false, false, false, false]) mixed [] (Ext w8) rfl rfl ?_
      rw [← hw32_]
      refine DL.takeP (listed' := #[true, false, false, false, false, false, false, false, false, false, false, false, false, false, false, false, false, false, false, false, false, false]) (v := Sl.v p0) 0 rfl rfl (by kernel_rfl) rfl trivial rfl (fun w_ K_ h_ => OpW.move (v := Sl.v p0) e11 h_) ?_
      refine DL.takeP (listed' := #[true, true, false, false, false, false, false, false, false, false, false, false, false, false, false, false, false, false, false, false, false, false]) (v := .int .i64 (mn (mn (mn (p0.len : Int) (p1.len : Int)) (p2.len : Int)) 500)) 1 rfl rfl (by kernel_rfl) rfl trivial rfl (fun w_ K_ h_ => OpW.move (v := .int .i64 (mn (mn (mn (p0.len : Int) (p1.len : Int)) (p2.len : Int)) 500)) e14 h_) ?_
      obtain ⟨⟨h1, h2, h3⟩, h⟩ := h
      refine DL.takeP (listed' := #[true, true, true, false, false, false, false, false, false, false, false, false, false, false, false, false, false, false, false, false, false, false]) (v := Sl.v (p0.cut 1 0 (mn (mn (mn (p0.len : Int) (p1.len : Int)) (p2.len : Int)) 500) p0.cap)) 2 rfl rfl (by kernel_rfl) rfl trivial rfl (fun w_ K_ h_ => OpW.sliceSl (l := 0) (h := (mn (mn (mn (p0.len : Int) (p1.len : Int)) (p2.len : Int)) 500)) slice_25 rfl rfl ⟨_, rfl⟩ h1 h2 (.inr h3) h_) ?_
      refine DL.takeP (listed' := #[true, true, true, false, false, true, false, false, false, false, false, false, false, false, false, false, false, false, false, false, false, false]) (v := Sl.v p1) 5 rfl rfl (by kernel_rfl) rfl trivial rfl (fun w_ K_ h_ => OpW.move (v := Sl.v p1) e12 h_) ?_
      refine DL.takeP (listed' := #[true, true, true, false, false, true, true, false, false, false, false, false, false, false, false, false, false, false, false, false, false, false]) (v := .int .i64 (mn (mn (mn (p0.len : Int) (p1.len : Int)) (p2.len : Int)) 500)) 6 rfl rfl (by kernel_rfl) rfl trivial rfl (fun w_ K_ h_ => OpW.move (v := .int .i64 (mn (mn (mn (p0.len : Int) (p1.len : Int)) (p2.len : Int)) 500)) e14 h_) ?_
      obtain ⟨⟨h1, h2, h3⟩, h⟩ := h
      refine DL.takeP (listed' := #[true, true, true, false, false, true, true, true, false, false, false, false, false, false, false, false, false, false, false, false, false, false]) (v := Sl.v (p1.cut 1 0 (mn (mn (mn (p0.len : Int) (p1.len : Int)) (p2.len : Int)) 500) p1.cap)) 7 rfl rfl (by kernel_rfl) rfl trivial rfl (fun w_ K_ h_ => OpW.sliceSl (l := 0) (h := (mn (mn (mn (p0.len : Int) (p1.len : Int)) (p2.len : Int)) 500)) slice_25 rfl rfl ⟨_, rfl⟩ h1 h2 (.inr h3) h_) ?_
      refine DL.takeP (listed' := #[true, true, true, false, false, true, true, true, false, false, false, true, false, false, false, false, false, false, false, false, false, false]) (v := Sl.v p2) 11 rfl rfl (by kernel_rfl) rfl trivial rfl (fun w_ K_ h_ => OpW.move (v := Sl.v p2) e13 h_) ?_
      refine DL.takeP (listed' := #[true, true, true, false, false, true, true, true, false, false, false, true, true, false, false, false, false, false, false, false, false, false]) (v := .int .i64 (mn (mn (mn (p0.len : Int) (p1.len : Int)) (p2.len : Int)) 500)) 12 rfl rfl (by kernel_rfl) rfl trivial rfl (fun w_ K_ h_ => OpW.move (v := .int .i64 (mn (mn (mn (p0.len : Int) (p1.len : Int)) (p2.len : Int)) 500)) e14 h_) ?_
      obtain ⟨⟨h1, h2, h3⟩, h⟩ := h
      refine DL.takeP (listed' := #[true, true, true, false, false, true, true, true, false, false, false, true, true, true, false, false, false, false, false, false, false, false]) (v := Sl.v (p2.cut 1 0 (mn (mn (mn (p0.len : Int) (p1.len : Int)) (p2.len : Int)) 500) p2.cap)) 13 rfl rfl (by kernel_rfl) rfl trivial rfl (fun w_ K_ h_ => OpW.sliceSl (l := 0) (h := (mn (mn (mn (p0.len : Int) (p1.len : Int)) (p2.len : Int)) 500)) slice_25 rfl rfl ⟨_, rfl⟩ h1 h2 (.inr h3) h_) ?_
      refine DL.takeP (listed' := #[true, true, true, false, false, true, true, true, false, false, false, true, true, true, false, false, false, true, false, false, false, false]) (v := Sl.v x6) 17 rfl rfl (by kernel_rfl) rfl trivial rfl (fun w_ K_ h_ => OpW.move (v := Sl.v x6) e15 h_) ?_
      obtain ⟨F44, st_3, run_3, h⟩ := h
      obtain ⟨F50, st_4, run_4, h⟩ := h
      obtain ⟨F56, st_8, run_8, h⟩ := h
      obtain ⟨F62, st_9, run_9, h⟩ := h
      obtain ⟨F68, st_14, run_14, h⟩ := h
      obtain ⟨F74, st_15, run_15, h⟩ := h
      obtain ⟨F80, st_18, run_18, h⟩ := h
      refine DL.state (fun ρ_ w83 => ∃ (x34 : Sl) (x35 : Int) (x36 : Sl) (x37 : Int) (x38 : Sl) (x39 : Int) (x40 : Sl), Ext w32 w83 ∧ F44 () x34 w83 ∧ F50 x34 x35 w83 ∧ F56 () x36 w83 ∧ F62 (x34, x35, x36) x37 w83 ∧ F68 () x38 w83 ∧ F74 (x34, x35, x36, x37, x38) x39 w83 ∧ F80 () x40 w83 ∧ ρ_ 60 = .int .u32 (xorI .u32 (xorI .u32 x35 x37) x39) ∧ ρ_ 62 = Sl.v x40) 3 #[true, true, true, true, true, true, true, true, true, true, true, true, true, true, true, true, true, true, true, false, false, false] ?_ ?_
      · rintro ρ_ w83 ⟨x34, x35, x36, x37, x38, x39, x40, hx_1, f_3, f_4, f_8, f_9, f_14, f_15, f_18, e_60, e_62⟩
        have h := h x34 x35 x36 x37 x38 x39 x40 w83 hx_1 f_3 f_4 f_8 f_9 f_14 f_15 f_18
        have hx84 := Ext.trans hx33 hx_1
        refine DL.execS (listed' := #[true, true, true, true, true, true, true, true, true, true, true, true, true, true, true, true, true, true, true, true, false, false]) 19 rfl (by kernel_rfl) rfl trivial rfl (OpW.callR (al := [Sl.v x40]) Try.func10 fb_10 fn_10 (by simp only [List.map_cons, List.map_nil, ev, upd, Nat.beq, cond_false, cond_true, e_62]) h (fun x85 w86 h => ?_))
        refine ⟨(fun h_ => absurd h_ (by decide)), ?_⟩
        refine DL.takeP (listed' := #[true, true, true, true, true, true, true, true, true, true, true, true, true, true, true, true, true, true, true, true, true, false]) (v := .bool (decide ((xorI .u32 (xorI .u32 x35 x37) x39) = x85))) 20 rfl rfl (by kernel_rfl) rfl trivial rfl (fun w_ K_ h_ => OpW.bin (k := .u32) (a := (xorI .u32 (xorI .u32 x35 x37) x39)) (b := x85) (v := .bool (decide ((xorI .u32 (xorI .u32 x35 x37) x39) = x85))) e_60 rfl rfl h_) ?_
        refine DL.takeP (listed' := #[true, true, true, true, true, true, true, true, true, true, true, true, true, true, true, true, true, true, true, true, true, true]) (v := .bool (decide ((xorI .u32 (xorI .u32 x35 x37) x39) = x85))) 21 rfl rfl (by kernel_rfl) rfl trivial rfl (fun w_ K_ h_ => OpW.assign (v := .bool (decide ((xorI .u32 (xorI .u32 x35 x37) x39) = x85))) rfl h_) ?_
        refine DL.done (by kernel_rfl) ?_
        refine CW.ret ?_
        exact ret_intro (res1 rfl rfl) ⟨(decide ((xorI .u32 (xorI .u32 x35 x37) x39) = x85)), rfl, h⟩
      intro hD_3_4_8_9_14_15_18
      refine DL.state (fun ρ_ w87 => ∃ (x34 : Sl) (x35 : Int) (x36 : Sl) (x37 : Int) (x38 : Sl) (x39 : Int), Ext w32 w87 ∧ F44 () x34 w87 ∧ F50 x34 x35 w87 ∧ F56 () x36 w87 ∧ F62 (x34, x35, x36) x37 w87 ∧ F68 () x38 w87 ∧ F74 (x34, x35, x36, x37, x38) x39 w87 ∧ ρ_ 60 = .int .u32 (xorI .u32 (xorI .u32 x35 x37) x39) ∧ ρ_ 61 = Sl.v x6) 4 #[true, true, true, true, true, true, true, true, true, true, true, true, true, true, true, true, true, true, false, false, false, false] ?_ ?_
      · rintro ρ_ w87 ⟨x34, x35, x36, x37, x38, x39, hx_1, f_3, f_4, f_8, f_9, f_14, f_15, e_60, e_61⟩
        refine DL.branch [18] (by kernel_rfl) rfl ?_
        refine all_cons ?_ (all_nil)
        · clear h
          have h := run_18 () w87 hx_1 trivial
          obtain ⟨b88, hb88_⟩ : ∃ b_, b_ = w87.heap.size := ⟨_, rfl⟩
          obtain ⟨w89, hw89_⟩ : ∃ w_, w_ = w87.alloc (.cells (List.toArray [Sl.v x6]) 25) := ⟨_, rfl⟩
          have h := h b88 w89 hb88_ hw89_
          refine DLop.execS (listed' := #[true, true, true, true, true, true, true, true, true, true, true, true, true, true, true, true, true, true, true, false, false, false]) rfl rfl trivial rfl (OpW.buildSliceE (vs := [(0, Sl.v x6)]) (cs := [Sl.v x6]) (by simp only [List.map_cons, List.map_nil, ev, upd, Nat.beq, cond_false, cond_true, e_61]) (by kernel_rfl) hb88_ hw89_ ?_)
          obtain ⟨hx90, f91⟩ := h
          refine ⟨(fun h_ => absurd h_ (by decide)), ?_⟩
          exact hD_3_4_8_9_14_15_18 _ _ ⟨x34, x35, x36, x37, x38, x39, ⟨some ⟨b88, 0, none⟩, 1, 1⟩, Ext.trans hx_1 hx90, st_3 _ _ _ _ hx90 f_3, st_4 _ _ _ _ hx90 f_4, st_8 _ _ _ _ hx90 f_8, st_9 _ _ _ _ hx90 f_9, st_14 _ _ _ _ hx90 f_14, st_15 _ _ _ _ hx90 f_15, f91, e_60, rfl⟩

      intro hD_3_4_8_9_14_15
      refine DL.state (fun ρ_ w92 => ∃ (x34 : Sl) (x35 : Int) (x36 : Sl) (x37 : Int) (x38 : Sl) (x40 : Sl), Ext w32 w92 ∧ F44 () x34 w92 ∧ F50 x34 x35 w92 ∧ F56 () x36 w92 ∧ F62 (x34, x35, x36) x37 w92 ∧ F68 () x38 w92 ∧ F80 () x40 w92 ∧ ρ_ 54 = .int .u32 (xorI .u32 x35 x37) ∧ ρ_ 58 = Sl.v x38 ∧ ρ_ 62 = Sl.v x40) 5 #[true, true, true, true, true, true, true, true, true, true, true, true, true, true, true, false, false, true, true, false, false, false] ?_ ?_
      · rintro ρ_ w92 ⟨x34, x35, x36, x37, x38, x40, hx_1, f_3, f_4, f_8, f_9, f_14, f_18, e_54, e_58, e_62⟩
        refine DL.branch [15] (by kernel_rfl) rfl ?_
        refine all_cons ?_ (all_nil)
        · clear h
          have h := run_15 (x34, x35, x36, x37, x38) w92 hx_1 ⟨f_3, f_4, f_8, f_9, f_14⟩
          refine DLop.execS (listed' := #[true, true, true, true, true, true, true, true, true, true, true, true, true, true, true, true, false, true, true, false, false, false]) rfl rfl trivial rfl (OpW.callR (al := [Sl.v x38]) Try.func10 fb_10 fn_10 (by simp only [List.map_cons, List.map_nil, ev, upd, Nat.beq, cond_false, cond_true, e_58]) h (fun x93 w94 h => ?_))
          obtain ⟨hx95, f96⟩ := h
          refine ⟨(fun h_ => absurd h_ (by decide)), ?_⟩
          refine DL.takeP (listed' := #[true, true, true, true, true, true, true, true, true, true, true, true, true, true, true, true, true, true, true, false, false, false]) (v := .int .u32 (xorI .u32 (xorI .u32 x35 x37) x93)) 16 rfl rfl (by kernel_rfl) rfl trivial rfl (fun w_ K_ h_ => OpW.bin (k := .u32) (a := (xorI .u32 x35 x37)) (b := x93) (v := .int .u32 (xorI .u32 (xorI .u32 x35 x37) x93)) e_54 rfl rfl h_) ?_
          exact hD_3_4_8_9_14_15_18 _ _ ⟨x34, x35, x36, x37, x38, x93, x40, Ext.trans hx_1 hx95, st_3 _ _ _ _ hx95 f_3, st_4 _ _ _ _ hx95 f_4, st_8 _ _ _ _ hx95 f_8, st_9 _ _ _ _ hx95 f_9, st_14 _ _ _ _ hx95 f_14, f96, st_18 _ _ _ _ hx95 f_18, rfl, e_62⟩

      intro hD_3_4_8_9_14_18
      refine DL.state (fun ρ_ w97 => ∃ (x34 : Sl) (x35 : Int) (x36 : Sl) (x37 : Int) (x38 : Sl), Ext w32 w97 ∧ F44 () x34 w97 ∧ F50 x34 x35 w97 ∧ F56 () x36 w97 ∧ F62 (x34, x35, x36) x37 w97 ∧ F68 () x38 w97 ∧ ρ_ 54 = .int .u32 (xorI .u32 x35 x37) ∧ ρ_ 58 = Sl.v x38 ∧ ρ_ 61 = Sl.v x6) 6 #[true, true, true, true, true, true, true, true, true, true, true, true, true, true, true, false, false, true, false, false, false, false] ?_ ?_
      · rintro ρ_ w97 ⟨x34, x35, x36, x37, x38, hx_1, f_3, f_4, f_8, f_9, f_14, e_54, e_58, e_61⟩
        refine DL.branch [15, 18] (by kernel_rfl) rfl ?_
        refine all_cons ?_ (all_cons ?_ (all_nil))
        · clear h
          have h := run_15 (x34, x35, x36, x37, x38) w97 hx_1 ⟨f_3, f_4, f_8, f_9, f_14⟩
          refine DLop.execS (listed' := #[true, true, true, true, true, true, true, true, true, true, true, true, true, true, true, true, false, true, false, false, false, false]) rfl rfl trivial rfl (OpW.callR (al := [Sl.v x38]) Try.func10 fb_10 fn_10 (by simp only [List.map_cons, List.map_nil, ev, upd, Nat.beq, cond_false, cond_true, e_58]) h (fun x98 w99 h => ?_))
          obtain ⟨hx100, f101⟩ := h
          refine ⟨(fun h_ => absurd h_ (by decide)), ?_⟩
          refine DL.takeP (listed' := #[true, true, true, true, true, true, true, true, true, true, true, true, true, true, true, true, true, true, false, false, false, false]) (v := .int .u32 (xorI .u32 (xorI .u32 x35 x37) x98)) 16 rfl rfl (by kernel_rfl) rfl trivial rfl (fun w_ K_ h_ => OpW.bin (k := .u32) (a := (xorI .u32 x35 x37)) (b := x98) (v := .int .u32 (xorI .u32 (xorI .u32 x35 x37) x98)) e_54 rfl rfl h_) ?_
          exact hD_3_4_8_9_14_15 _ _ ⟨x34, x35, x36, x37, x38, x98, Ext.trans hx_1 hx100, st_3 _ _ _ _ hx100 f_3, st_4 _ _ _ _ hx100 f_4, st_8 _ _ _ _ hx100 f_8, st_9 _ _ _ _ hx100 f_9, st_14 _ _ _ _ hx100 f_14, f101, rfl, e_61⟩
        · clear h
          have h := run_18 () w97 hx_1 trivial
          obtain ⟨b102, hb102_⟩ : ∃ b_, b_ = w97.heap.size := ⟨_, rfl⟩
          obtain ⟨w103, hw103_⟩ : ∃ w_, w_ = w97.alloc (.cells (List.toArray [Sl.v x6]) 25) := ⟨_, rfl⟩
          have h := h b102 w103 hb102_ hw103_
          refine DLop.execS (listed' := #[true, true, true, true, true, true, true, true, true, true, true, true, true, true, true, false, false, true, true, false, false, false]) rfl rfl trivial rfl (OpW.buildSliceE (vs := [(0, Sl.v x6)]) (cs := [Sl.v x6]) (by simp only [List.map_cons, List.map_nil, ev, upd, Nat.beq, cond_false, cond_true, e_61]) (by kernel_rfl) hb102_ hw103_ ?_)
          obtain ⟨hx104, f105⟩ := h
          refine ⟨(fun h_ => absurd h_ (by decide)), ?_⟩
          exact hD_3_4_8_9_14_18 _ _ ⟨x34, x35, x36, x37, x38, ⟨some ⟨b102, 0, none⟩, 1, 1⟩, Ext.trans hx_1 hx104, st_3 _ _ _ _ hx104 f_3, st_4 _ _ _ _ hx104 f_4, st_8 _ _ _ _ hx104 f_8, st_9 _ _ _ _ hx104 f_9, st_14 _ _ _ _ hx104 f_14, f105, e_54, e_58, rfl⟩

      intro hD_3_4_8_9_14
      refine DL.state (fun ρ_ w106 => ∃ (x34 : Sl) (x35 : Int) (x36 : Sl) (x37 : Int) (x40 : Sl), Ext w32 w106 ∧ F44 () x34 w106 ∧ F50 x34 x35 w106 ∧ F56 () x36 w106 ∧ F62 (x34, x35, x36) x37 w106 ∧ F80 () x40 w106 ∧ ρ_ 54 = .int .u32 (xorI .u32 x35 x37) ∧ ρ_ 57 = Sl.v (p2.cut 1 0 (mn (mn (mn (p0.len : Int) (p1.len : Int)) (p2.len : Int)) 500) p2.cap) ∧ ρ_ 62 = Sl.v x40) 6 #[true, true, true, true, true, true, true, true, true, true, true, true, true, true, false, false, false, true, true, false, false, false] ?_ ?_
      · rintro ρ_ w106 ⟨x34, x35, x36, x37, x40, hx_1, f_3, f_4, f_8, f_9, f_18, e_54, e_57, e_62⟩
        refine DL.branch [14] (by kernel_rfl) rfl ?_
        refine all_cons ?_ (all_nil)
        · clear h
          have h := run_14 () w106 hx_1 trivial
          obtain ⟨b107, hb107_⟩ : ∃ b_, b_ = w106.heap.size := ⟨_, rfl⟩
          obtain ⟨w108, hw108_⟩ : ∃ w_, w_ = w106.alloc (.cells (List.toArray [Sl.v (p2.cut 1 0 (mn (mn (mn (p0.len : Int) (p1.len : Int)) (p2.len : Int)) 500) p2.cap)]) 25) := ⟨_, rfl⟩
          have h := h b107 w108 hb107_ hw108_
          refine DLop.execS (listed' := #[true, true, true, true, true, true, true, true, true, true, true, true, true, true, true, false, false, true, true, false, false, false]) rfl rfl trivial rfl (OpW.buildSliceE (vs := [(0, Sl.v (p2.cut 1 0 (mn (mn (mn (p0.len : Int) (p1.len : Int)) (p2.len : Int)) 500) p2.cap))]) (cs := [Sl.v (p2.cut 1 0 (mn (mn (mn (p0.len : Int) (p1.len : Int)) (p2.len : Int)) 500) p2.cap)]) (by simp only [List.map_cons, List.map_nil, ev, upd, Nat.beq, cond_false, cond_true, e_57]) (by kernel_rfl) hb107_ hw108_ ?_)
          obtain ⟨hx109, f110⟩ := h
          refine ⟨(fun h_ => absurd h_ (by decide)), ?_⟩
          exact hD_3_4_8_9_14_18 _ _ ⟨x34, x35, x36, x37, ⟨some ⟨b107, 0, none⟩, 1, 1⟩, x40, Ext.trans hx_1 hx109, st_3 _ _ _ _ hx109 f_3, st_4 _ _ _ _ hx109 f_4, st_8 _ _ _ _ hx109 f_8, st_9 _ _ _ _ hx109 f_9, f110, st_18 _ _ _ _ hx109 f_18, e_54, rfl, e_62⟩

      intro hD_3_4_8_9_18
      refine DL.state (fun ρ_ w111 => ∃ (x34 : Sl) (x35 : Int) (x36 : Sl) (x38 : Sl) (x40 : Sl), Ext w32 w111 ∧ F44 () x34 w111 ∧ F50 x34 x35 w111 ∧ F56 () x36 w111 ∧ F68 () x38 w111 ∧ F80 () x40 w111 ∧ ρ_ 48 = .int .u32 x35 ∧ ρ_ 52 = Sl.v x36 ∧ ρ_ 58 = Sl.v x38 ∧ ρ_ 62 = Sl.v x40) 7 #[true, true, true, true, true, true, true, true, true, false, false, true, true, true, true, false, false, true, true, false, false, false] ?_ ?_
      · rintro ρ_ w111 ⟨x34, x35, x36, x38, x40, hx_1, f_3, f_4, f_8, f_14, f_18, e_48, e_52, e_58, e_62⟩
        refine DL.branch [9] (by kernel_rfl) rfl ?_
        refine all_cons ?_ (all_nil)
        · clear h
          have h := run_9 (x34, x35, x36) w111 hx_1 ⟨f_3, f_4, f_8⟩
          refine DLop.execS (listed' := #[true, true, true, true, true, true, true, true, true, true, false, true, true, true, true, false, false, true, true, false, false, false]) rfl rfl trivial rfl (OpW.callR (al := [Sl.v x36]) Try.func10 fb_10 fn_10 (by simp only [List.map_cons, List.map_nil, ev, upd, Nat.beq, cond_false, cond_true, e_52]) h (fun x112 w113 h => ?_))
          obtain ⟨hx114, f115⟩ := h
          refine ⟨(fun h_ => absurd h_ (by decide)), ?_⟩
          refine DL.takeP (listed' := #[true, true, true, true, true, true, true, true, true, true, true, true, true, true, true, false, false, true, true, false, false, false]) (v := .int .u32 (xorI .u32 x35 x112)) 10 rfl rfl (by kernel_rfl) rfl trivial rfl (fun w_ K_ h_ => OpW.bin (k := .u32) (a := x35) (b := x112) (v := .int .u32 (xorI .u32 x35 x112)) e_48 rfl rfl h_) ?_
          exact hD_3_4_8_9_14_18 _ _ ⟨x34, x35, x36, x112, x38, x40, Ext.trans hx_1 hx114, st_3 _ _ _ _ hx114 f_3, st_4 _ _ _ _ hx114 f_4, st_8 _ _ _ _ hx114 f_8, f115, st_14 _ _ _ _ hx114 f_14, st_18 _ _ _ _ hx114 f_18, rfl, e_58, e_62⟩

      intro hD_3_4_8_14_18
      refine DL.state (fun ρ_ w116 => ∃ (x34 : Sl) (x35 : Int) (x36 : Sl) (x37 : Int), Ext w32 w116 ∧ F44 () x34 w116 ∧ F50 x34 x35 w116 ∧ F56 () x36 w116 ∧ F62 (x34, x35, x36) x37 w116 ∧ ρ_ 54 = .int .u32 (xorI .u32 x35 x37) ∧ ρ_ 57 = Sl.v (p2.cut 1 0 (mn (mn (mn (p0.len : Int) (p1.len : Int)) (p2.len : Int)) 500) p2.cap) ∧ ρ_ 61 = Sl.v x6) 7 #[true, true, true, true, true, true, true, true, true, true, true, true, true, true, false, false, false, true, false, false, false, false] ?_ ?_
      · rintro ρ_ w116 ⟨x34, x35, x36, x37, hx_1, f_3, f_4, f_8, f_9, e_54, e_57, e_61⟩
        refine DL.branch [14, 18] (by kernel_rfl) rfl ?_
        refine all_cons ?_ (all_cons ?_ (all_nil))
        · clear h
          have h := run_14 () w116 hx_1 trivial
          obtain ⟨b117, hb117_⟩ : ∃ b_, b_ = w116.heap.size := ⟨_, rfl⟩
          obtain ⟨w118, hw118_⟩ : ∃ w_, w_ = w116.alloc (.cells (List.toArray [Sl.v (p2.cut 1 0 (mn (mn (mn (p0.len : Int) (p1.len : Int)) (p2.len : Int)) 500) p2.cap)]) 25) := ⟨_, rfl⟩
          have h := h b117 w118 hb117_ hw118_
          refine DLop.execS (listed' := #[true, true, true, true, true, true, true, true, true, true, true, true, true, true, true, false, false, true, false, false, false, false]) rfl rfl trivial rfl (OpW.buildSliceE (vs := [(0, Sl.v (p2.cut 1 0 (mn (mn (mn (p0.len : Int) (p1.len : Int)) (p2.len : Int)) 500) p2.cap))]) (cs := [Sl.v (p2.cut 1 0 (mn (mn (mn (p0.len : Int) (p1.len : Int)) (p2.len : Int)) 500) p2.cap)]) (by simp only [List.map_cons, List.map_nil, ev, upd, Nat.beq, cond_false, cond_true, e_57]) (by kernel_rfl) hb117_ hw118_ ?_)
          obtain ⟨hx119, f120⟩ := h
          refine ⟨(fun h_ => absurd h_ (by decide)), ?_⟩
          exact hD_3_4_8_9_14 _ _ ⟨x34, x35, x36, x37, ⟨some ⟨b117, 0, none⟩, 1, 1⟩, Ext.trans hx_1 hx119, st_3 _ _ _ _ hx119 f_3, st_4 _ _ _ _ hx119 f_4, st_8 _ _ _ _ hx119 f_8, st_9 _ _ _ _ hx119 f_9, f120, e_54, rfl, e_61⟩
        · clear h
          have h := run_18 () w116 hx_1 trivial
          obtain ⟨b121, hb121_⟩ : ∃ b_, b_ = w116.heap.size := ⟨_, rfl⟩
          obtain ⟨w122, hw122_⟩ : ∃ w_, w_ = w116.alloc (.cells (List.toArray [Sl.v x6]) 25) := ⟨_, rfl⟩
          have h := h b121 w122 hb121_ hw122_
          refine DLop.execS (listed' := #[true, true, true, true, true, true, true, true, true, true, true, true, true, true, false, false, false, true, true, false, false, false]) rfl rfl trivial rfl (OpW.buildSliceE (vs := [(0, Sl.v x6)]) (cs := [Sl.v x6]) (by simp only [List.map_cons, List.map_nil, ev, upd, Nat.beq, cond_false, cond_true, e_61]) (by kernel_rfl) hb121_ hw122_ ?_)
          obtain ⟨hx123, f124⟩ := h
          refine ⟨(fun h_ => absurd h_ (by decide)), ?_⟩
          exact hD_3_4_8_9_18 _ _ ⟨x34, x35, x36, x37, ⟨some ⟨b121, 0, none⟩, 1, 1⟩, Ext.trans hx_1 hx123, st_3 _ _ _ _ hx123 f_3, st_4 _ _ _ _ hx123 f_4, st_8 _ _ _ _ hx123 f_8, st_9 _ _ _ _ hx123 f_9, f124, e_54, e_57, rfl⟩

      intro hD_3_4_8_9
      refine DL.state (fun ρ_ w125 => ∃ (x34 : Sl) (x35 : Int) (x36 : Sl) (x38 : Sl), Ext w32 w125 ∧ F44 () x34 w125 ∧ F50 x34 x35 w125 ∧ F56 () x36 w125 ∧ F68 () x38 w125 ∧ ρ_ 48 = .int .u32 x35 ∧ ρ_ 52 = Sl.v x36 ∧ ρ_ 58 = Sl.v x38 ∧ ρ_ 61 = Sl.v x6) 8 #[true, true, true, true, true, true, true, true, true, false, false, true, true, true, true, false, false, true, false, false, false, false] ?_ ?_
      · rintro ρ_ w125 ⟨x34, x35, x36, x38, hx_1, f_3, f_4, f_8, f_14, e_48, e_52, e_58, e_61⟩
        refine DL.branch [9, 18] (by kernel_rfl) rfl ?_
        refine all_cons ?_ (all_cons ?_ (all_nil))
        · clear h
          have h := run_9 (x34, x35, x36) w125 hx_1 ⟨f_3, f_4, f_8⟩
          refine DLop.execS (listed' := #[true, true, true, true, true, true, true, true, true, true, false, true, true, true, true, false, false, true, false, false, false, false]) rfl rfl trivial rfl (OpW.callR (al := [Sl.v x36]) Try.func10 fb_10 fn_10 (by simp only [List.map_cons, List.map_nil, ev, upd, Nat.beq, cond_false, cond_true, e_52]) h (fun x126 w127 h => ?_))
          obtain ⟨hx128, f129⟩ := h
          refine ⟨(fun h_ => absurd h_ (by decide)), ?_⟩
          refine DL.takeP (listed' := #[true, true, true, true, true, true, true, true, true, true, true, true, true, true, true, false, false, true, false, false, false, false]) (v := .int .u32 (xorI .u32 x35 x126)) 10 rfl rfl (by kernel_rfl) rfl trivial rfl (fun w_ K_ h_ => OpW.bin (k := .u32) (a := x35) (b := x126) (v := .int .u32 (xorI .u32 x35 x126)) e_48 rfl rfl h_) ?_
          exact hD_3_4_8_9_14 _ _ ⟨x34, x35, x36, x126, x38, Ext.trans hx_1 hx128, st_3 _ _ _ _ hx128 f_3, st_4 _ _ _ _ hx128 f_4, st_8 _ _ _ _ hx128 f_8, f129, st_14 _ _ _ _ hx128 f_14, rfl, e_58, e_61⟩
        · clear h
          have h := run_18 () w125 hx_1 trivial
          obtain ⟨b130, hb130_⟩ : ∃ b_, b_ = w125.heap.size := ⟨_, rfl⟩
          obtain ⟨w131, hw131_⟩ : ∃ w_, w_ = w125.alloc (.cells (List.toArray [Sl.v x6]) 25) := ⟨_, rfl⟩
          have h := h b130 w131 hb130_ hw131_
          refine DLop.execS (listed' := #[true, true, true, true, true, true, true, true, true, false, false, true, true, true, true, false, false, true, true, false, false, false]) rfl rfl trivial rfl (OpW.buildSliceE (vs := [(0, Sl.v x6)]) (cs := [Sl.v x6]) (by simp only [List.map_cons, List.map_nil, ev, upd, Nat.beq, cond_false, cond_true, e_61]) (by kernel_rfl) hb130_ hw131_ ?_)
          obtain ⟨hx132, f133⟩ := h
          refine ⟨(fun h_ => absurd h_ (by decide)), ?_⟩
          exact hD_3_4_8_14_18 _ _ ⟨x34, x35, x36, x38, ⟨some ⟨b130, 0, none⟩, 1, 1⟩, Ext.trans hx_1 hx132, st_3 _ _ _ _ hx132 f_3, st_4 _ _ _ _ hx132 f_4, st_8 _ _ _ _ hx132 f_8, st_14 _ _ _ _ hx132 f_14, f133, e_48, e_52, e_58, rfl⟩

      intro hD_3_4_8_14
      refine DL.state (fun ρ_ w134 => ∃ (x34 : Sl) (x35 : Int) (x36 : Sl) (x40 : Sl), Ext w32 w134 ∧ F44 () x34 w134 ∧ F50 x34 x35 w134 ∧ F56 () x36 w134 ∧ F80 () x40 w134 ∧ ρ_ 48 = .int .u32 x35 ∧ ρ_ 52 = Sl.v x36 ∧ ρ_ 57 = Sl.v (p2.cut 1 0 (mn (mn (mn (p0.len : Int) (p1.len : Int)) (p2.len : Int)) 500) p2.cap) ∧ ρ_ 62 = Sl.v x40) 8 #[true, true, true, true, true, true, true, true, true, false, false, true, true, true, false, false, false, true, true, false, false, false] ?_ ?_
      · rintro ρ_ w134 ⟨x34, x35, x36, x40, hx_1, f_3, f_4, f_8, f_18, e_48, e_52, e_57, e_62⟩
        refine DL.branch [9, 14] (by kernel_rfl) rfl ?_
        refine all_cons ?_ (all_cons ?_ (all_nil))
        · clear h
          have h := run_9 (x34, x35, x36) w134 hx_1 ⟨f_3, f_4, f_8⟩
          refine DLop.execS (listed' := #[true, true, true, true, true, true, true, true, true, true, false, true, true, true, false, false, false, true, true, false, false, false]) rfl rfl trivial rfl (OpW.callR (al := [Sl.v x36]) Try.func10 fb_10 fn_10 (by simp only [List.map_cons, List.map_nil, ev, upd, Nat.beq, cond_false, cond_true, e_52]) h (fun x135 w136 h => ?_))
          obtain ⟨hx137, f138⟩ := h
          refine ⟨(fun h_ => absurd h_ (by decide)), ?_⟩
          refine DL.takeP (listed' := #[true, true, true, true, true, true, true, true, true, true, true, true, true, true, false, false, false, true, true, false, false, false]) (v := .int .u32 (xorI .u32 x35 x135)) 10 rfl rfl (by kernel_rfl) rfl trivial rfl (fun w_ K_ h_ => OpW.bin (k := .u32) (a := x35) (b := x135) (v := .int .u32 (xorI .u32 x35 x135)) e_48 rfl rfl h_) ?_
          exact hD_3_4_8_9_18 _ _ ⟨x34, x35, x36, x135, x40, Ext.trans hx_1 hx137, st_3 _ _ _ _ hx137 f_3, st_4 _ _ _ _ hx137 f_4, st_8 _ _ _ _ hx137 f_8, f138, st_18 _ _ _ _ hx137 f_18, rfl, e_57, e_62⟩
        · clear h
          have h := run_14 () w134 hx_1 trivial
          obtain ⟨b139, hb139_⟩ : ∃ b_, b_ = w134.heap.size := ⟨_, rfl⟩
          obtain ⟨w140, hw140_⟩ : ∃ w_, w_ = w134.alloc (.cells (List.toArray [Sl.v (p2.cut 1 0 (mn (mn (mn (p0.len : Int) (p1.len : Int)) (p2.len : Int)) 500) p2.cap)]) 25) := ⟨_, rfl⟩
          have h := h b139 w140 hb139_ hw140_
          refine DLop.execS (listed' := #[true, true, true, true, true, true, true, true, true, false, false, true, true, true, true, false, false, true, true, false, false, false]) rfl rfl trivial rfl (OpW.buildSliceE (vs := [(0, Sl.v (p2.cut 1 0 (mn (mn (mn (p0.len : Int) (p1.len : Int)) (p2.len : Int)) 500) p2.cap))]) (cs := [Sl.v (p2.cut 1 0 (mn (mn (mn (p0.len : Int) (p1.len : Int)) (p2.len : Int)) 500) p2.cap)]) (by simp only [List.map_cons, List.map_nil, ev, upd, Nat.beq, cond_false, cond_true, e_57]) (by kernel_rfl) hb139_ hw140_ ?_)
          obtain ⟨hx141, f142⟩ := h
          refine ⟨(fun h_ => absurd h_ (by decide)), ?_⟩
          exact hD_3_4_8_14_18 _ _ ⟨x34, x35, x36, ⟨some ⟨b139, 0, none⟩, 1, 1⟩, x40, Ext.trans hx_1 hx141, st_3 _ _ _ _ hx141 f_3, st_4 _ _ _ _ hx141 f_4, st_8 _ _ _ _ hx141 f_8, f142, st_18 _ _ _ _ hx141 f_18, e_48, e_52, rfl, e_62⟩

      intro hD_3_4_8_18
      refine DL.state (fun ρ_ w143 => ∃ (x34 : Sl) (x35 : Int) (x38 : Sl) (x40 : Sl), Ext w32 w143 ∧ F44 () x34 w143 ∧ F50 x34 x35 w143 ∧ F68 () x38 w143 ∧ F80 () x40 w143 ∧ ρ_ 48 = .int .u32 x35 ∧ ρ_ 51 = Sl.v (p1.cut 1 0 (mn (mn (mn (p0.len : Int) (p1.len : Int)) (p2.len : Int)) 500) p1.cap) ∧ ρ_ 58 = Sl.v x38 ∧ ρ_ 62 = Sl.v x40) 8 #[true, true, true, true, true, true, true, true, false, false, false, true, true, true, true, false, false, true, true, false, false, false] ?_ ?_
      · rintro ρ_ w143 ⟨x34, x35, x38, x40, hx_1, f_3, f_4, f_14, f_18, e_48, e_51, e_58, e_62⟩
        refine DL.branch [8] (by kernel_rfl) rfl ?_
        refine all_cons ?_ (all_nil)
        · clear h
          have h := run_8 () w143 hx_1 trivial
          obtain ⟨b144, hb144_⟩ : ∃ b_, b_ = w143.heap.size := ⟨_, rfl⟩
          obtain ⟨w145, hw145_⟩ : ∃ w_, w_ = w143.alloc (.cells (List.toArray [Sl.v (p1.cut 1 0 (mn (mn (mn (p0.len : Int) (p1.len : Int)) (p2.len : Int)) 500) p1.cap)]) 25) := ⟨_, rfl⟩
          have h := h b144 w145 hb144_ hw145_
          refine DLop.execS (listed' := #[true, true, true, true, true, true, true, true, true, false, false, true, true, true, true, false, false, true, true, false, false, false]) rfl rfl trivial rfl (OpW.buildSliceE (vs := [(0, Sl.v (p1.cut 1 0 (mn (mn (mn (p0.len : Int) (p1.len : Int)) (p2.len : Int)) 500) p1.cap))]) (cs := [Sl.v (p1.cut 1 0 (mn (mn (mn (p0.len : Int) (p1.len : Int)) (p2.len : Int)) 500) p1.cap)]) (by simp only [List.map_cons, List.map_nil, ev, upd, Nat.beq, cond_false, cond_true, e_51]) (by kernel_rfl) hb144_ hw145_ ?_)
          obtain ⟨hx146, f147⟩ := h
          refine ⟨(fun h_ => absurd h_ (by decide)), ?_⟩
          exact hD_3_4_8_14_18 _ _ ⟨x34, x35, ⟨some ⟨b144, 0, none⟩, 1, 1⟩, x38, x40, Ext.trans hx_1 hx146, st_3 _ _ _ _ hx146 f_3, st_4 _ _ _ _ hx146 f_4, f147, st_14 _ _ _ _ hx146 f_14, st_18 _ _ _ _ hx146 f_18, e_48, rfl, e_58, e_62⟩

      intro hD_3_4_14_18
      refine DL.state (fun ρ_ w148 => ∃ (x34 : Sl) (x36 : Sl) (x38 : Sl) (x40 : Sl), Ext w32 w148 ∧ F44 () x34 w148 ∧ F56 () x36 w148 ∧ F68 () x38 w148 ∧ F80 () x40 w148 ∧ ρ_ 47 = Sl.v x34 ∧ ρ_ 52 = Sl.v x36 ∧ ρ_ 58 = Sl.v x38 ∧ ρ_ 62 = Sl.v x40) 8 #[true, true, true, true, false, true, true, true, true, false, false, true, true, true, true, false, false, true, true, false, false, false] ?_ ?_
      · rintro ρ_ w148 ⟨x34, x36, x38, x40, hx_1, f_3, f_8, f_14, f_18, e_47, e_52, e_58, e_62⟩
        refine DL.branch [4] (by kernel_rfl) rfl ?_
        refine all_cons ?_ (all_nil)
        · clear h
          have h := run_4 x34 w148 hx_1 f_3
          refine DLop.execS (listed' := #[true, true, true, true, true, true, true, true, true, false, false, true, true, true, true, false, false, true, true, false, false, false]) rfl rfl trivial rfl (OpW.callR (al := [Sl.v x34]) Try.func10 fb_10 fn_10 (by simp only [List.map_cons, List.map_nil, ev, upd, Nat.beq, cond_false, cond_true, e_47]) h (fun x149 w150 h => ?_))
          obtain ⟨hx151, f152⟩ := h
          refine ⟨(fun h_ => absurd h_ (by decide)), ?_⟩
          exact hD_3_4_8_14_18 _ _ ⟨x34, x149, x36, x38, x40, Ext.trans hx_1 hx151, st_3 _ _ _ _ hx151 f_3, f152, st_8 _ _ _ _ hx151 f_8, st_14 _ _ _ _ hx151 f_14, st_18 _ _ _ _ hx151 f_18, rfl, e_52, e_58, e_62⟩

      intro hD_3_8_14_18
      refine DL.state (fun ρ_ w153 => ∃ (x34 : Sl) (x35 : Int) (x36 : Sl), Ext w32 w153 ∧ F44 () x34 w153 ∧ F50 x34 x35 w153 ∧ F56 () x36 w153 ∧ ρ_ 48 = .int .u32 x35 ∧ ρ_ 52 = Sl.v x36 ∧ ρ_ 57 = Sl.v (p2.cut 1 0 (mn (mn (mn (p0.len : Int) (p1.len : Int)) (p2.len : Int)) 500) p2.cap) ∧ ρ_ 61 = Sl.v x6) 9 #[true, true, true, true, true, true, true, true, true, false, false, true, true, true, false, false, false, true, false, false, false, false] ?_ ?_
      · rintro ρ_ w153 ⟨x34, x35, x36, hx_1, f_3, f_4, f_8, e_48, e_52, e_57, e_61⟩
        refine DL.branch [9, 14, 18] (by kernel_rfl) rfl ?_
        refine all_cons ?_ (all_cons ?_ (all_cons ?_ (all_nil)))
        · clear h
          have h := run_9 (x34, x35, x36) w153 hx_1 ⟨f_3, f_4, f_8⟩
          refine DLop.execS (listed' := #[true, true, true, true, true, true, true, true, true, true, false, true, true, true, false, false, false, true, false, false, false, false]) rfl rfl trivial rfl (OpW.callR (al := [Sl.v x36]) Try.func10 fb_10 fn_10 (by simp only [List.map_cons, List.map_nil, ev, upd, Nat.beq, cond_false, cond_true, e_52]) h (fun x154 w155 h => ?_))
          obtain ⟨hx156, f157⟩ := h
          refine ⟨(fun h_ => absurd h_ (by decide)), ?_⟩
          refine DL.takeP (listed' := #[true, true, true, true, true, true, true, true, true, true, true, true, true, true, false, false, false, true, false, false, false, false]) (v := .int .u32 (xorI .u32 x35 x154)) 10 rfl rfl (by kernel_rfl) rfl trivial rfl (fun w_ K_ h_ => OpW.bin (k := .u32) (a := x35) (b := x154) (v := .int .u32 (xorI .u32 x35 x154)) e_48 rfl rfl h_) ?_
          exact hD_3_4_8_9 _ _ ⟨x34, x35, x36, x154, Ext.trans hx_1 hx156, st_3 _ _ _ _ hx156 f_3, st_4 _ _ _ _ hx156 f_4, st_8 _ _ _ _ hx156 f_8, f157, rfl, e_57, e_61⟩
        · clear h
          have h := run_14 () w153 hx_1 trivial
          obtain ⟨b158, hb158_⟩ : ∃ b_, b_ = w153.heap.size := ⟨_, rfl⟩
          obtain ⟨w159, hw159_⟩ : ∃ w_, w_ = w153.alloc (.cells (List.toArray [Sl.v (p2.cut 1 0 (mn (mn (mn (p0.len : Int) (p1.len : Int)) (p2.len : Int)) 500) p2.cap)]) 25) := ⟨_, rfl⟩
          have h := h b158 w159 hb158_ hw159_
          refine DLop.execS (listed' := #[true, true, true, true, true, true, true, true, true, false, false, true, true, true, true, false, false, true, false, false, false, false]) rfl rfl trivial rfl (OpW.buildSliceE (vs := [(0, Sl.v (p2.cut 1 0 (mn (mn (mn (p0.len : Int) (p1.len : Int)) (p2.len : Int)) 500) p2.cap))]) (cs := [Sl.v (p2.cut 1 0 (mn (mn (mn (p0.len : Int) (p1.len : Int)) (p2.len : Int)) 500) p2.cap)]) (by simp only [List.map_cons, List.map_nil, ev, upd, Nat.beq, cond_false, cond_true, e_57]) (by kernel_rfl) hb158_ hw159_ ?_)
          obtain ⟨hx160, f161⟩ := h
          refine ⟨(fun h_ => absurd h_ (by decide)), ?_⟩
          exact hD_3_4_8_14 _ _ ⟨x34, x35, x36, ⟨some ⟨b158, 0, none⟩, 1, 1⟩, Ext.trans hx_1 hx160, st_3 _ _ _ _ hx160 f_3, st_4 _ _ _ _ hx160 f_4, st_8 _ _ _ _ hx160 f_8, f161, e_48, e_52, rfl, e_61⟩
        · clear h
          have h := run_18 () w153 hx_1 trivial
          obtain ⟨b162, hb162_⟩ : ∃ b_, b_ = w153.heap.size := ⟨_, rfl⟩
          obtain ⟨w163, hw163_⟩ : ∃ w_, w_ = w153.alloc (.cells (List.toArray [Sl.v x6]) 25) := ⟨_, rfl⟩
          have h := h b162 w163 hb162_ hw163_
          refine DLop.execS (listed' := #[true, true, true, true, true, true, true, true, true, false, false, true, true, true, false, false, false, true, true, false, false, false]) rfl rfl trivial rfl (OpW.buildSliceE (vs := [(0, Sl.v x6)]) (cs := [Sl.v x6]) (by simp only [List.map_cons, List.map_nil, ev, upd, Nat.beq, cond_false, cond_true, e_61]) (by kernel_rfl) hb162_ hw163_ ?_)
          obtain ⟨hx164, f165⟩ := h
          refine ⟨(fun h_ => absurd h_ (by decide)), ?_⟩
          exact hD_3_4_8_18 _ _ ⟨x34, x35, x36, ⟨some ⟨b162, 0, none⟩, 1, 1⟩, Ext.trans hx_1 hx164, st_3 _ _ _ _ hx164 f_3, st_4 _ _ _ _ hx164 f_4, st_8 _ _ _ _ hx164 f_8, f165, e_48, e_52, e_57, rfl⟩

      intro hD_3_4_8
      refine DL.state (fun ρ_ w166 => ∃ (x34 : Sl) (x35 : Int) (x38 : Sl), Ext w32 w166 ∧ F44 () x34 w166 ∧ F50 x34 x35 w166 ∧ F68 () x38 w166 ∧ ρ_ 48 = .int .u32 x35 ∧ ρ_ 51 = Sl.v (p1.cut 1 0 (mn (mn (mn (p0.len : Int) (p1.len : Int)) (p2.len : Int)) 500) p1.cap) ∧ ρ_ 58 = Sl.v x38 ∧ ρ_ 61 = Sl.v x6) 9 #[true, true, true, true, true, true, true, true, false, false, false, true, true, true, true, false, false, true, false, false, false, false] ?_ ?_
      · rintro ρ_ w166 ⟨x34, x35, x38, hx_1, f_3, f_4, f_14, e_48, e_51, e_58, e_61⟩
        refine DL.branch [8, 18] (by kernel_rfl) rfl ?_
        refine all_cons ?_ (all_cons ?_ (all_nil))
        · clear h
          have h := run_8 () w166 hx_1 trivial
          obtain ⟨b167, hb167_⟩ : ∃ b_, b_ = w166.heap.size := ⟨_, rfl⟩
          obtain ⟨w168, hw168_⟩ : ∃ w_, w_ = w166.alloc (.cells (List.toArray [Sl.v (p1.cut 1 0 (mn (mn (mn (p0.len : Int) (p1.len : Int)) (p2.len : Int)) 500) p1.cap)]) 25) := ⟨_, rfl⟩
          have h := h b167 w168 hb167_ hw168_
          refine DLop.execS (listed' := #[true, true, true, true, true, true, true, true, true, false, false, true, true, true, true, false, false, true, false, false, false, false]) rfl rfl trivial rfl (OpW.buildSliceE (vs := [(0, Sl.v (p1.cut 1 0 (mn (mn (mn (p0.len : Int) (p1.len : Int)) (p2.len : Int)) 500) p1.cap))]) (cs := [Sl.v (p1.cut 1 0 (mn (mn (mn (p0.len : Int) (p1.len : Int)) (p2.len : Int)) 500) p1.cap)]) (by simp only [List.map_cons, List.map_nil, ev, upd, Nat.beq, cond_false, cond_true, e_51]) (by kernel_rfl) hb167_ hw168_ ?_)
          obtain ⟨hx169, f170⟩ := h
          refine ⟨(fun h_ => absurd h_ (by decide)), ?_⟩
          exact hD_3_4_8_14 _ _ ⟨x34, x35, ⟨some ⟨b167, 0, none⟩, 1, 1⟩, x38, Ext.trans hx_1 hx169, st_3 _ _ _ _ hx169 f_3, st_4 _ _ _ _ hx169 f_4, f170, st_14 _ _ _ _ hx169 f_14, e_48, rfl, e_58, e_61⟩
        · clear h
          have h := run_18 () w166 hx_1 trivial
          obtain ⟨b171, hb171_⟩ : ∃ b_, b_ = w166.heap.size := ⟨_, rfl⟩
          obtain ⟨w172, hw172_⟩ : ∃ w_, w_ = w166.alloc (.cells (List.toArray [Sl.v x6]) 25) := ⟨_, rfl⟩
          have h := h b171 w172 hb171_ hw172_
          refine DLop.execS (listed' := #[true, true, true, true, true, true, true, true, false, false, false, true, true, true, true, false, false, true, true, false, false, false]) rfl rfl trivial rfl (OpW.buildSliceE (vs := [(0, Sl.v x6)]) (cs := [Sl.v x6]) (by simp only [List.map_cons, List.map_nil, ev, upd, Nat.beq, cond_false, cond_true, e_61]) (by kernel_rfl) hb171_ hw172_ ?_)
          obtain ⟨hx173, f174⟩ := h
          refine ⟨(fun h_ => absurd h_ (by decide)), ?_⟩
          exact hD_3_4_14_18 _ _ ⟨x34, x35, x38, ⟨some ⟨b171, 0, none⟩, 1, 1⟩, Ext.trans hx_1 hx173, st_3 _ _ _ _ hx173 f_3, st_4 _ _ _ _ hx173 f_4, st_14 _ _ _ _ hx173 f_14, f174, e_48, e_51, e_58, rfl⟩

      intro hD_3_4_14
      refine DL.state (fun ρ_ w175 => ∃ (x34 : Sl) (x35 : Int) (x40 : Sl), Ext w32 w175 ∧ F44 () x34 w175 ∧ F50 x34 x35 w175 ∧ F80 () x40 w175 ∧ ρ_ 48 = .int .u32 x35 ∧ ρ_ 51 = Sl.v (p1.cut 1 0 (mn (mn (mn (p0.len : Int) (p1.len : Int)) (p2.len : Int)) 500) p1.cap) ∧ ρ_ 57 = Sl.v (p2.cut 1 0 (mn (mn (mn (p0.len : Int) (p1.len : Int)) (p2.len : Int)) 500) p2.cap) ∧ ρ_ 62 = Sl.v x40) 9 #[true, true, true, true, true, true, true, true, false, false, false, true, true, true, false, false, false, true, true, false, false, false] ?_ ?_
      · rintro ρ_ w175 ⟨x34, x35, x40, hx_1, f_3, f_4, f_18, e_48, e_51, e_57, e_62⟩
        refine DL.branch [8, 14] (by kernel_rfl) rfl ?_
        refine all_cons ?_ (all_cons ?_ (all_nil))
        · clear h
          have h := run_8 () w175 hx_1 trivial
          obtain ⟨b176, hb176_⟩ : ∃ b_, b_ = w175.heap.size := ⟨_, rfl⟩
          obtain ⟨w177, hw177_⟩ : ∃ w_, w_ = w175.alloc (.cells (List.toArray [Sl.v (p1.cut 1 0 (mn (mn (mn (p0.len : Int) (p1.len : Int)) (p2.len : Int)) 500) p1.cap)]) 25) := ⟨_, rfl⟩
          have h := h b176 w177 hb176_ hw177_
          refine DLop.execS (listed' := #[true, true, true, true, true, true, true, true, true, false, false, true, true, true, false, false, false, true, true, false, false, false]) rfl rfl trivial rfl (OpW.buildSliceE (vs := [(0, Sl.v (p1.cut 1 0 (mn (mn (mn (p0.len : Int) (p1.len : Int)) (p2.len : Int)) 500) p1.cap))]) (cs := [Sl.v (p1.cut 1 0 (mn (mn (mn (p0.len : Int) (p1.len : Int)) (p2.len : Int)) 500) p1.cap)]) (by simp only [List.map_cons, List.map_nil, ev, upd, Nat.beq, cond_false, cond_true, e_51]) (by kernel_rfl) hb176_ hw177_ ?_)
          obtain ⟨hx178, f179⟩ := h
          refine ⟨(fun h_ => absurd h_ (by decide)), ?_⟩
          exact hD_3_4_8_18 _ _ ⟨x34, x35, ⟨some ⟨b176, 0, none⟩, 1, 1⟩, x40, Ext.trans hx_1 hx178, st_3 _ _ _ _ hx178 f_3, st_4 _ _ _ _ hx178 f_4, f179, st_18 _ _ _ _ hx178 f_18, e_48, rfl, e_57, e_62⟩
        · clear h
          have h := run_14 () w175 hx_1 trivial
          obtain ⟨b180, hb180_⟩ : ∃ b_, b_ = w175.heap.size := ⟨_, rfl⟩
          obtain ⟨w181, hw181_⟩ : ∃ w_, w_ = w175.alloc (.cells (List.toArray [Sl.v (p2.cut 1 0 (mn (mn (mn (p0.len : Int) (p1.len : Int)) (p2.len : Int)) 500) p2.cap)]) 25) := ⟨_, rfl⟩
          have h := h b180 w181 hb180_ hw181_
          refine DLop.execS (listed' := #[true, true, true, true, true, true, true, true, false, false, false, true, true, true, true, false, false, true, true, false, false, false]) rfl rfl trivial rfl (OpW.buildSliceE (vs := [(0, Sl.v (p2.cut 1 0 (mn (mn (mn (p0.len : Int) (p1.len : Int)) (p2.len : Int)) 500) p2.cap))]) (cs := [Sl.v (p2.cut 1 0 (mn (mn (mn (p0.len : Int) (p1.len : Int)) (p2.len : Int)) 500) p2.cap)]) (by simp only [List.map_cons, List.map_nil, ev, upd, Nat.beq, cond_false, cond_true, e_57]) (by kernel_rfl) hb180_ hw181_ ?_)
          obtain ⟨hx182, f183⟩ := h
          refine ⟨(fun h_ => absurd h_ (by decide)), ?_⟩
          exact hD_3_4_14_18 _ _ ⟨x34, x35, ⟨some ⟨b180, 0, none⟩, 1, 1⟩, x40, Ext.trans hx_1 hx182, st_3 _ _ _ _ hx182 f_3, st_4 _ _ _ _ hx182 f_4, f183, st_18 _ _ _ _ hx182 f_18, e_48, e_51, rfl, e_62⟩

      intro hD_3_4_18
      refine DL.state (fun ρ_ w184 => ∃ (x34 : Sl) (x36 : Sl) (x38 : Sl), Ext w32 w184 ∧ F44 () x34 w184 ∧ F56 () x36 w184 ∧ F68 () x38 w184 ∧ ρ_ 47 = Sl.v x34 ∧ ρ_ 52 = Sl.v x36 ∧ ρ_ 58 = Sl.v x38 ∧ ρ_ 61 = Sl.v x6) 9 #[true, true, true, true, false, true, true, true, true, false, false, true, true, true, true, false, false, true, false, false, false, false] ?_ ?_
      · rintro ρ_ w184 ⟨x34, x36, x38, hx_1, f_3, f_8, f_14, e_47, e_52, e_58, e_61⟩
        refine DL.branch [4, 18] (by kernel_rfl) rfl ?_
        refine all_cons ?_ (all_cons ?_ (all_nil))
        · clear h
          have h := run_4 x34 w184 hx_1 f_3
          refine DLop.execS (listed' := #[true, true, true, true, true, true, true, true, true, false, false, true, true, true, true, false, false, true, false, false, false, false]) rfl rfl trivial rfl (OpW.callR (al := [Sl.v x34]) Try.func10 fb_10 fn_10 (by simp only [List.map_cons, List.map_nil, ev, upd, Nat.beq, cond_false, cond_true, e_47]) h (fun x185 w186 h => ?_))
          obtain ⟨hx187, f188⟩ := h
          refine ⟨(fun h_ => absurd h_ (by decide)), ?_⟩
          exact hD_3_4_8_14 _ _ ⟨x34, x185, x36, x38, Ext.trans hx_1 hx187, st_3 _ _ _ _ hx187 f_3, f188, st_8 _ _ _ _ hx187 f_8, st_14 _ _ _ _ hx187 f_14, rfl, e_52, e_58, e_61⟩
        · clear h
          have h := run_18 () w184 hx_1 trivial
          obtain ⟨b189, hb189_⟩ : ∃ b_, b_ = w184.heap.size := ⟨_, rfl⟩
          obtain ⟨w190, hw190_⟩ : ∃ w_, w_ = w184.alloc (.cells (List.toArray [Sl.v x6]) 25) := ⟨_, rfl⟩
          have h := h b189 w190 hb189_ hw190_
          refine DLop.execS (listed' := #[true, true, true, true, false, true, true, true, true, false, false, true, true, true, true, false, false, true, true, false, false, false]) rfl rfl trivial rfl (OpW.buildSliceE (vs := [(0, Sl.v x6)]) (cs := [Sl.v x6]) (by simp only [List.map_cons, List.map_nil, ev, upd, Nat.beq, cond_false, cond_true, e_61]) (by kernel_rfl) hb189_ hw190_ ?_)
          obtain ⟨hx191, f192⟩ := h
          refine ⟨(fun h_ => absurd h_ (by decide)), ?_⟩
          exact hD_3_8_14_18 _ _ ⟨x34, x36, x38, ⟨some ⟨b189, 0, none⟩, 1, 1⟩, Ext.trans hx_1 hx191, st_3 _ _ _ _ hx191 f_3, st_8 _ _ _ _ hx191 f_8, st_14 _ _ _ _ hx191 f_14, f192, e_47, e_52, e_58, rfl⟩

      intro hD_3_8_14
      refine DL.state (fun ρ_ w193 => ∃ (x34 : Sl) (x36 : Sl) (x40 : Sl), Ext w32 w193 ∧ F44 () x34 w193 ∧ F56 () x36 w193 ∧ F80 () x40 w193 ∧ ρ_ 47 = Sl.v x34 ∧ ρ_ 52 = Sl.v x36 ∧ ρ_ 57 = Sl.v (p2.cut 1 0 (mn (mn (mn (p0.len : Int) (p1.len : Int)) (p2.len : Int)) 500) p2.cap) ∧ ρ_ 62 = Sl.v x40) 9 #[true, true, true, true, false, true, true, true, true, false, false, true, true, true, false, false, false, true, true, false, false, false] ?_ ?_
      · rintro ρ_ w193 ⟨x34, x36, x40, hx_1, f_3, f_8, f_18, e_47, e_52, e_57, e_62⟩
        refine DL.branch [4, 14] (by kernel_rfl) rfl ?_
        refine all_cons ?_ (all_cons ?_ (all_nil))
        · clear h
          have h := run_4 x34 w193 hx_1 f_3
          refine DLop.execS (listed' := #[true, true, true, true, true, true, true, true, true, false, false, true, true, true, false, false, false, true, true, false, false, false]) rfl rfl trivial rfl (OpW.callR (al := [Sl.v x34]) Try.func10 fb_10 fn_10 (by simp only [List.map_cons, List.map_nil, ev, upd, Nat.beq, cond_false, cond_true, e_47]) h (fun x194 w195 h => ?_))
          obtain ⟨hx196, f197⟩ := h
          refine ⟨(fun h_ => absurd h_ (by decide)), ?_⟩
          exact hD_3_4_8_18 _ _ ⟨x34, x194, x36, x40, Ext.trans hx_1 hx196, st_3 _ _ _ _ hx196 f_3, f197, st_8 _ _ _ _ hx196 f_8, st_18 _ _ _ _ hx196 f_18, rfl, e_52, e_57, e_62⟩
        · clear h
          have h := run_14 () w193 hx_1 trivial
          obtain ⟨b198, hb198_⟩ : ∃ b_, b_ = w193.heap.size := ⟨_, rfl⟩
          obtain ⟨w199, hw199_⟩ : ∃ w_, w_ = w193.alloc (.cells (List.toArray [Sl.v (p2.cut 1 0 (mn (mn (mn (p0.len : Int) (p1.len : Int)) (p2.len : Int)) 500) p2.cap)]) 25) := ⟨_, rfl⟩
          have h := h b198 w199 hb198_ hw199_
          refine DLop.execS (listed' := #[true, true, true, true, false, true, true, true, true, false, false, true, true, true, true, false, false, true, true, false, false, false]) rfl rfl trivial rfl (OpW.buildSliceE (vs := [(0, Sl.v (p2.cut 1 0 (mn (mn (mn (p0.len : Int) (p1.len : Int)) (p2.len : Int)) 500) p2.cap))]) (cs := [Sl.v (p2.cut 1 0 (mn (mn (mn (p0.len : Int) (p1.len : Int)) (p2.len : Int)) 500) p2.cap)]) (by simp only [List.map_cons, List.map_nil, ev, upd, Nat.beq, cond_false, cond_true, e_57]) (by kernel_rfl) hb198_ hw199_ ?_)
          obtain ⟨hx200, f201⟩ := h
          refine ⟨(fun h_ => absurd h_ (by decide)), ?_⟩
          exact hD_3_8_14_18 _ _ ⟨x34, x36, ⟨some ⟨b198, 0, none⟩, 1, 1⟩, x40, Ext.trans hx_1 hx200, st_3 _ _ _ _ hx200 f_3, st_8 _ _ _ _ hx200 f_8, f201, st_18 _ _ _ _ hx200 f_18, e_47, e_52, rfl, e_62⟩

      intro hD_3_8_18
      refine DL.state (fun ρ_ w202 => ∃ (x34 : Sl) (x38 : Sl) (x40 : Sl), Ext w32 w202 ∧ F44 () x34 w202 ∧ F68 () x38 w202 ∧ F80 () x40 w202 ∧ ρ_ 47 = Sl.v x34 ∧ ρ_ 51 = Sl.v (p1.cut 1 0 (mn (mn (mn (p0.len : Int) (p1.len : Int)) (p2.len : Int)) 500) p1.cap) ∧ ρ_ 58 = Sl.v x38 ∧ ρ_ 62 = Sl.v x40) 9 #[true, true, true, true, false, true, true, true, false, false, false, true, true, true, true, false, false, true, true, false, false, false] ?_ ?_
      · rintro ρ_ w202 ⟨x34, x38, x40, hx_1, f_3, f_14, f_18, e_47, e_51, e_58, e_62⟩
        refine DL.branch [4, 8] (by kernel_rfl) rfl ?_
        refine all_cons ?_ (all_cons ?_ (all_nil))
        · clear h
          have h := run_4 x34 w202 hx_1 f_3
          refine DLop.execS (listed' := #[true, true, true, true, true, true, true, true, false, false, false, true, true, true, true, false, false, true, true, false, false, false]) rfl rfl trivial rfl (OpW.callR (al := [Sl.v x34]) Try.func10 fb_10 fn_10 (by simp only [List.map_cons, List.map_nil, ev, upd, Nat.beq, cond_false, cond_true, e_47]) h (fun x203 w204 h => ?_))
          obtain ⟨hx205, f206⟩ := h
          refine ⟨(fun h_ => absurd h_ (by decide)), ?_⟩
          exact hD_3_4_14_18 _ _ ⟨x34, x203, x38, x40, Ext.trans hx_1 hx205, st_3 _ _ _ _ hx205 f_3, f206, st_14 _ _ _ _ hx205 f_14, st_18 _ _ _ _ hx205 f_18, rfl, e_51, e_58, e_62⟩
        · clear h
          have h := run_8 () w202 hx_1 trivial
          obtain ⟨b207, hb207_⟩ : ∃ b_, b_ = w202.heap.size := ⟨_, rfl⟩
          obtain ⟨w208, hw208_⟩ : ∃ w_, w_ = w202.alloc (.cells (List.toArray [Sl.v (p1.cut 1 0 (mn (mn (mn (p0.len : Int) (p1.len : Int)) (p2.len : Int)) 500) p1.cap)]) 25) := ⟨_, rfl⟩
          have h := h b207 w208 hb207_ hw208_
          refine DLop.execS (listed' := #[true, true, true, true, false, true, true, true, true, false, false, true, true, true, true, false, false, true, true, false, false, false]) rfl rfl trivial rfl (OpW.buildSliceE (vs := [(0, Sl.v (p1.cut 1 0 (mn (mn (mn (p0.len : Int) (p1.len : Int)) (p2.len : Int)) 500) p1.cap))]) (cs := [Sl.v (p1.cut 1 0 (mn (mn (mn (p0.len : Int) (p1.len : Int)) (p2.len : Int)) 500) p1.cap)]) (by simp only [List.map_cons, List.map_nil, ev, upd, Nat.beq, cond_false, cond_true, e_51]) (by kernel_rfl) hb207_ hw208_ ?_)
          obtain ⟨hx209, f210⟩ := h
          refine ⟨(fun h_ => absurd h_ (by decide)), ?_⟩
          exact hD_3_8_14_18 _ _ ⟨x34, ⟨some ⟨b207, 0, none⟩, 1, 1⟩, x38, x40, Ext.trans hx_1 hx209, st_3 _ _ _ _ hx209 f_3, f210, st_14 _ _ _ _ hx209 f_14, st_18 _ _ _ _ hx209 f_18, e_47, rfl, e_58, e_62⟩

      intro hD_3_14_18
      refine DL.state (fun ρ_ w211 => ∃ (x36 : Sl) (x38 : Sl) (x40 : Sl), Ext w32 w211 ∧ F56 () x36 w211 ∧ F68 () x38 w211 ∧ F80 () x40 w211 ∧ ρ_ 46 = Sl.v (p0.cut 1 0 (mn (mn (mn (p0.len : Int) (p1.len : Int)) (p2.len : Int)) 500) p0.cap) ∧ ρ_ 52 = Sl.v x36 ∧ ρ_ 58 = Sl.v x38 ∧ ρ_ 62 = Sl.v x40) 9 #[true, true, true, false, false, true, true, true, true, false, false, true, true, true, true, false, false, true, true, false, false, false] ?_ ?_
      · rintro ρ_ w211 ⟨x36, x38, x40, hx_1, f_8, f_14, f_18, e_46, e_52, e_58, e_62⟩
        refine DL.branch [3] (by kernel_rfl) rfl ?_
        refine all_cons ?_ (all_nil)
        · clear h
          have h := run_3 () w211 hx_1 trivial
          obtain ⟨b212, hb212_⟩ : ∃ b_, b_ = w211.heap.size := ⟨_, rfl⟩
          obtain ⟨w213, hw213_⟩ : ∃ w_, w_ = w211.alloc (.cells (List.toArray [Sl.v (p0.cut 1 0 (mn (mn (mn (p0.len : Int) (p1.len : Int)) (p2.len : Int)) 500) p0.cap)]) 25) := ⟨_, rfl⟩
          have h := h b212 w213 hb212_ hw213_
          refine DLop.execS (listed' := #[true, true, true, true, false, true, true, true, true, false, false, true, true, true, true, false, false, true, true, false, false, false]) rfl rfl trivial rfl (OpW.buildSliceE (vs := [(0, Sl.v (p0.cut 1 0 (mn (mn (mn (p0.len : Int) (p1.len : Int)) (p2.len : Int)) 500) p0.cap))]) (cs := [Sl.v (p0.cut 1 0 (mn (mn (mn (p0.len : Int) (p1.len : Int)) (p2.len : Int)) 500) p0.cap)]) (by simp only [List.map_cons, List.map_nil, ev, upd, Nat.beq, cond_false, cond_true, e_46]) (by kernel_rfl) hb212_ hw213_ ?_)
          obtain ⟨hx214, f215⟩ := h
          refine ⟨(fun h_ => absurd h_ (by decide)), ?_⟩
          exact hD_3_8_14_18 _ _ ⟨⟨some ⟨b212, 0, none⟩, 1, 1⟩, x36, x38, x40, Ext.trans hx_1 hx214, f215, st_8 _ _ _ _ hx214 f_8, st_14 _ _ _ _ hx214 f_14, st_18 _ _ _ _ hx214 f_18, rfl, e_52, e_58, e_62⟩

      intro hD_8_14_18
      refine DL.state (fun ρ_ w216 => ∃ (x34 : Sl) (x35 : Int), Ext w32 w216 ∧ F44 () x34 w216 ∧ F50 x34 x35 w216 ∧ ρ_ 48 = .int .u32 x35 ∧ ρ_ 51 = Sl.v (p1.cut 1 0 (mn (mn (mn (p0.len : Int) (p1.len : Int)) (p2.len : Int)) 500) p1.cap) ∧ ρ_ 57 = Sl.v (p2.cut 1 0 (mn (mn (mn (p0.len : Int) (p1.len : Int)) (p2.len : Int)) 500) p2.cap) ∧ ρ_ 61 = Sl.v x6) 10 #[true, true, true, true, true, true, true, true, false, false, false, true, true, true, false, false, false, true, false, false, false, false] ?_ ?_
      · rintro ρ_ w216 ⟨x34, x35, hx_1, f_3, f_4, e_48, e_51, e_57, e_61⟩
        refine DL.branch [8, 14, 18] (by kernel_rfl) rfl ?_
        refine all_cons ?_ (all_cons ?_ (all_cons ?_ (all_nil)))
        · clear h
          have h := run_8 () w216 hx_1 trivial
          obtain ⟨b217, hb217_⟩ : ∃ b_, b_ = w216.heap.size := ⟨_, rfl⟩
          obtain ⟨w218, hw218_⟩ : ∃ w_, w_ = w216.alloc (.cells (List.toArray [Sl.v (p1.cut 1 0 (mn (mn (mn (p0.len : Int) (p1.len : Int)) (p2.len : Int)) 500) p1.cap)]) 25) := ⟨_, rfl⟩
          have h := h b217 w218 hb217_ hw218_
          refine DLop.execS (listed' := #[true, true, true, true, true, true, true, true, true, false, false, true, true, true, false, false, false, true, false, false, false, false]) rfl rfl trivial rfl (OpW.buildSliceE (vs := [(0, Sl.v (p1.cut 1 0 (mn (mn (mn (p0.len : Int) (p1.len : Int)) (p2.len : Int)) 500) p1.cap))]) (cs := [Sl.v (p1.cut 1 0 (mn (mn (mn (p0.len : Int) (p1.len : Int)) (p2.len : Int)) 500) p1.cap)]) (by simp only [List.map_cons, List.map_nil, ev, upd, Nat.beq, cond_false, cond_true, e_51]) (by kernel_rfl) hb217_ hw218_ ?_)
          obtain ⟨hx219, f220⟩ := h
          refine ⟨(fun h_ => absurd h_ (by decide)), ?_⟩
          exact hD_3_4_8 _ _ ⟨x34, x35, ⟨some ⟨b217, 0, none⟩, 1, 1⟩, Ext.trans hx_1 hx219, st_3 _ _ _ _ hx219 f_3, st_4 _ _ _ _ hx219 f_4, f220, e_48, rfl, e_57, e_61⟩
        · clear h
          have h := run_14 () w216 hx_1 trivial
          obtain ⟨b221, hb221_⟩ : ∃ b_, b_ = w216.heap.size := ⟨_, rfl⟩
          obtain ⟨w222, hw222_⟩ : ∃ w_, w_ = w216.alloc (.cells (List.toArray [Sl.v (p2.cut 1 0 (mn (mn (mn (p0.len : Int) (p1.len : Int)) (p2.len : Int)) 500) p2.cap)]) 25) := ⟨_, rfl⟩
          have h := h b221 w222 hb221_ hw222_
          refine DLop.execS (listed' := #[true, true, true, true, true, true, true, true, false, false, false, true, true, true, true, false, false, true, false, false, false, false]) rfl rfl trivial rfl (OpW.buildSliceE (vs := [(0, Sl.v (p2.cut 1 0 (mn (mn (mn (p0.len : Int) (p1.len : Int)) (p2.len : Int)) 500) p2.cap))]) (cs := [Sl.v (p2.cut 1 0 (mn (mn (mn (p0.len : Int) (p1.len : Int)) (p2.len : Int)) 500) p2.cap)]) (by simp only [List.map_cons, List.map_nil, ev, upd, Nat.beq, cond_false, cond_true, e_57]) (by kernel_rfl) hb221_ hw222_ ?_)
          obtain ⟨hx223, f224⟩ := h
          refine ⟨(fun h_ => absurd h_ (by decide)), ?_⟩
          exact hD_3_4_14 _ _ ⟨x34, x35, ⟨some ⟨b221, 0, none⟩, 1, 1⟩, Ext.trans hx_1 hx223, st_3 _ _ _ _ hx223 f_3, st_4 _ _ _ _ hx223 f_4, f224, e_48, e_51, rfl, e_61⟩
        · clear h
          have h := run_18 () w216 hx_1 trivial
          obtain ⟨b225, hb225_⟩ : ∃ b_, b_ = w216.heap.size := ⟨_, rfl⟩
          obtain ⟨w226, hw226_⟩ : ∃ w_, w_ = w216.alloc (.cells (List.toArray [Sl.v x6]) 25) := ⟨_, rfl⟩
          have h := h b225 w226 hb225_ hw226_
          refine DLop.execS (listed' := #[true, true, true, true, true, true, true, true, false, false, false, true, true, true, false, false, false, true, true, false, false, false]) rfl rfl trivial rfl (OpW.buildSliceE (vs := [(0, Sl.v x6)]) (cs := [Sl.v x6]) (by simp only [List.map_cons, List.map_nil, ev, upd, Nat.beq, cond_false, cond_true, e_61]) (by kernel_rfl) hb225_ hw226_ ?_)
          obtain ⟨hx227, f228⟩ := h
          refine ⟨(fun h_ => absurd h_ (by decide)), ?_⟩
          exact hD_3_4_18 _ _ ⟨x34, x35, ⟨some ⟨b225, 0, none⟩, 1, 1⟩, Ext.trans hx_1 hx227, st_3 _ _ _ _ hx227 f_3, st_4 _ _ _ _ hx227 f_4, f228, e_48, e_51, e_57, rfl⟩

      intro hD_3_4
      refine DL.state (fun ρ_ w229 => ∃ (x34 : Sl) (x36 : Sl), Ext w32 w229 ∧ F44 () x34 w229 ∧ F56 () x36 w229 ∧ ρ_ 47 = Sl.v x34 ∧ ρ_ 52 = Sl.v x36 ∧ ρ_ 57 = Sl.v (p2.cut 1 0 (mn (mn (mn (p0.len : Int) (p1.len : Int)) (p2.len : Int)) 500) p2.cap) ∧ ρ_ 61 = Sl.v x6) 10 #[true, true, true, true, false, true, true, true, true, false, false, true, true, true, false, false, false, true, false, false, false, false] ?_ ?_
      · rintro ρ_ w229 ⟨x34, x36, hx_1, f_3, f_8, e_47, e_52, e_57, e_61⟩
        refine DL.branch [4, 14, 18] (by kernel_rfl) rfl ?_
        refine all_cons ?_ (all_cons ?_ (all_cons ?_ (all_nil)))
        · clear h
          have h := run_4 x34 w229 hx_1 f_3
          refine DLop.execS (listed' := #[true, true, true, true, true, true, true, true, true, false, false, true, true, true, false, false, false, true, false, false, false, false]) rfl rfl trivial rfl (OpW.callR (al := [Sl.v x34]) Try.func10 fb_10 fn_10 (by simp only [List.map_cons, List.map_nil, ev, upd, Nat.beq, cond_false, cond_true, e_47]) h (fun x230 w231 h => ?_))
          obtain ⟨hx232, f233⟩ := h
          refine ⟨(fun h_ => absurd h_ (by decide)), ?_⟩
          exact hD_3_4_8 _ _ ⟨x34, x230, x36, Ext.trans hx_1 hx232, st_3 _ _ _ _ hx232 f_3, f233, st_8 _ _ _ _ hx232 f_8, rfl, e_52, e_57, e_61⟩
        · clear h
          have h := run_14 () w229 hx_1 trivial
          obtain ⟨b234, hb234_⟩ : ∃ b_, b_ = w229.heap.size := ⟨_, rfl⟩
          obtain ⟨w235, hw235_⟩ : ∃ w_, w_ = w229.alloc (.cells (List.toArray [Sl.v (p2.cut 1 0 (mn (mn (mn (p0.len : Int) (p1.len : Int)) (p2.len : Int)) 500) p2.cap)]) 25) := ⟨_, rfl⟩
          have h := h b234 w235 hb234_ hw235_
          refine DLop.execS (listed' := #[true, true, true, true, false, true, true, true, true, false, false, true, true, true, true, false, false, true, false, false, false, false]) rfl rfl trivial rfl (OpW.buildSliceE (vs := [(0, Sl.v (p2.cut 1 0 (mn (mn (mn (p0.len : Int) (p1.len : Int)) (p2.len : Int)) 500) p2.cap))]) (cs := [Sl.v (p2.cut 1 0 (mn (mn (mn (p0.len : Int) (p1.len : Int)) (p2.len : Int)) 500) p2.cap)]) (by simp only [List.map_cons, List.map_nil, ev, upd, Nat.beq, cond_false, cond_true, e_57]) (by kernel_rfl) hb234_ hw235_ ?_)
          obtain ⟨hx236, f237⟩ := h
          refine ⟨(fun h_ => absurd h_ (by decide)), ?_⟩
          exact hD_3_8_14 _ _ ⟨x34, x36, ⟨some ⟨b234, 0, none⟩, 1, 1⟩, Ext.trans hx_1 hx236, st_3 _ _ _ _ hx236 f_3, st_8 _ _ _ _ hx236 f_8, f237, e_47, e_52, rfl, e_61⟩
        · clear h
          have h := run_18 () w229 hx_1 trivial
          obtain ⟨b238, hb238_⟩ : ∃ b_, b_ = w229.heap.size := ⟨_, rfl⟩
          obtain ⟨w239, hw239_⟩ : ∃ w_, w_ = w229.alloc (.cells (List.toArray [Sl.v x6]) 25) := ⟨_, rfl⟩
          have h := h b238 w239 hb238_ hw239_
          refine DLop.execS (listed' := #[true, true, true, true, false, true, true, true, true, false, false, true, true, true, false, false, false, true, true, false, false, false]) rfl rfl trivial rfl (OpW.buildSliceE (vs := [(0, Sl.v x6)]) (cs := [Sl.v x6]) (by simp only [List.map_cons, List.map_nil, ev, upd, Nat.beq, cond_false, cond_true, e_61]) (by kernel_rfl) hb238_ hw239_ ?_)
          obtain ⟨hx240, f241⟩ := h
          refine ⟨(fun h_ => absurd h_ (by decide)), ?_⟩
          exact hD_3_8_18 _ _ ⟨x34, x36, ⟨some ⟨b238, 0, none⟩, 1, 1⟩, Ext.trans hx_1 hx240, st_3 _ _ _ _ hx240 f_3, st_8 _ _ _ _ hx240 f_8, f241, e_47, e_52, e_57, rfl⟩

      intro hD_3_8
      refine DL.state (fun ρ_ w242 => ∃ (x34 : Sl) (x38 : Sl), Ext w32 w242 ∧ F44 () x34 w242 ∧ F68 () x38 w242 ∧ ρ_ 47 = Sl.v x34 ∧ ρ_ 51 = Sl.v (p1.cut 1 0 (mn (mn (mn (p0.len : Int) (p1.len : Int)) (p2.len : Int)) 500) p1.cap) ∧ ρ_ 58 = Sl.v x38 ∧ ρ_ 61 = Sl.v x6) 10 #[true, true, true, true, false, true, true, true, false, false, false, true, true, true, true, false, false, true, false, false, false, false] ?_ ?_
      · rintro ρ_ w242 ⟨x34, x38, hx_1, f_3, f_14, e_47, e_51, e_58, e_61⟩
        refine DL.branch [4, 8, 18] (by kernel_rfl) rfl ?_
        refine all_cons ?_ (all_cons ?_ (all_cons ?_ (all_nil)))
        · clear h
          have h := run_4 x34 w242 hx_1 f_3
          refine DLop.execS (listed' := #[true, true, true, true, true, true, true, true, false, false, false, true, true, true, true, false, false, true, false, false, false, false]) rfl rfl trivial rfl (OpW.callR (al := [Sl.v x34]) Try.func10 fb_10 fn_10 (by simp only [List.map_cons, List.map_nil, ev, upd, Nat.beq, cond_false, cond_true, e_47]) h (fun x243 w244 h => ?_))
          obtain ⟨hx245, f246⟩ := h
          refine ⟨(fun h_ => absurd h_ (by decide)), ?_⟩
          exact hD_3_4_14 _ _ ⟨x34, x243, x38, Ext.trans hx_1 hx245, st_3 _ _ _ _ hx245 f_3, f246, st_14 _ _ _ _ hx245 f_14, rfl, e_51, e_58, e_61⟩
        · clear h
          have h := run_8 () w242 hx_1 trivial
          obtain ⟨b247, hb247_⟩ : ∃ b_, b_ = w242.heap.size := ⟨_, rfl⟩
          obtain ⟨w248, hw248_⟩ : ∃ w_, w_ = w242.alloc (.cells (List.toArray [Sl.v (p1.cut 1 0 (mn (mn (mn (p0.len : Int) (p1.len : Int)) (p2.len : Int)) 500) p1.cap)]) 25) := ⟨_, rfl⟩
          have h := h b247 w248 hb247_ hw248_
          refine DLop.execS (listed' := #[true, true, true, true, false, true, true, true, true, false, false, true, true, true, true, false, false, true, false, false, false, false]) rfl rfl trivial rfl (OpW.buildSliceE (vs := [(0, Sl.v (p1.cut 1 0 (mn (mn (mn (p0.len : Int) (p1.len : Int)) (p2.len : Int)) 500) p1.cap))]) (cs := [Sl.v (p1.cut 1 0 (mn (mn (mn (p0.len : Int) (p1.len : Int)) (p2.len : Int)) 500) p1.cap)]) (by simp only [List.map_cons, List.map_nil, ev, upd, Nat.beq, cond_false, cond_true, e_51]) (by kernel_rfl) hb247_ hw248_ ?_)
          obtain ⟨hx249, f250⟩ := h
          refine ⟨(fun h_ => absurd h_ (by decide)), ?_⟩
          exact hD_3_8_14 _ _ ⟨x34, ⟨some ⟨b247, 0, none⟩, 1, 1⟩, x38, Ext.trans hx_1 hx249, st_3 _ _ _ _ hx249 f_3, f250, st_14 _ _ _ _ hx249 f_14, e_47, rfl, e_58, e_61⟩
        · clear h
          have h := run_18 () w242 hx_1 trivial
          obtain ⟨b251, hb251_⟩ : ∃ b_, b_ = w242.heap.size := ⟨_, rfl⟩
          obtain ⟨w252, hw252_⟩ : ∃ w_, w_ = w242.alloc (.cells (List.toArray [Sl.v x6]) 25) := ⟨_, rfl⟩
          have h := h b251 w252 hb251_ hw252_
          refine DLop.execS (listed' := #[true, true, true, true, false, true, true, true, false, false, false, true, true, true, true, false, false, true, true, false, false, false]) rfl rfl trivial rfl (OpW.buildSliceE (vs := [(0, Sl.v x6)]) (cs := [Sl.v x6]) (by simp only [List.map_cons, List.map_nil, ev, upd, Nat.beq, cond_false, cond_true, e_61]) (by kernel_rfl) hb251_ hw252_ ?_)
          obtain ⟨hx253, f254⟩ := h
          refine ⟨(fun h_ => absurd h_ (by decide)), ?_⟩
          exact hD_3_14_18 _ _ ⟨x34, x38, ⟨some ⟨b251, 0, none⟩, 1, 1⟩, Ext.trans hx_1 hx253, st_3 _ _ _ _ hx253 f_3, st_14 _ _ _ _ hx253 f_14, f254, e_47, e_51, e_58, rfl⟩

      intro hD_3_14
      refine DL.state (fun ρ_ w255 => ∃ (x34 : Sl) (x40 : Sl), Ext w32 w255 ∧ F44 () x34 w255 ∧ F80 () x40 w255 ∧ ρ_ 47 = Sl.v x34 ∧ ρ_ 51 = Sl.v (p1.cut 1 0 (mn (mn (mn (p0.len : Int) (p1.len : Int)) (p2.len : Int)) 500) p1.cap) ∧ ρ_ 57 = Sl.v (p2.cut 1 0 (mn (mn (mn (p0.len : Int) (p1.len : Int)) (p2.len : Int)) 500) p2.cap) ∧ ρ_ 62 = Sl.v x40) 10 #[true, true, true, true, false, true, true, true, false, false, false, true, true, true, false, false, false, true, true, false, false, false] ?_ ?_
      · rintro ρ_ w255 ⟨x34, x40, hx_1, f_3, f_18, e_47, e_51, e_57, e_62⟩
        refine DL.branch [4, 8, 14] (by kernel_rfl) rfl ?_
        refine all_cons ?_ (all_cons ?_ (all_cons ?_ (all_nil)))
        · clear h
          have h := run_4 x34 w255 hx_1 f_3
          refine DLop.execS (listed' := #[true, true, true, true, true, true, true, true, false, false, false, true, true, true, false, false, false, true, true, false, false, false]) rfl rfl trivial rfl (OpW.callR (al := [Sl.v x34]) Try.func10 fb_10 fn_10 (by simp only [List.map_cons, List.map_nil, ev, upd, Nat.beq, cond_false, cond_true, e_47]) h (fun x256 w257 h => ?_))
          obtain ⟨hx258, f259⟩ := h
          refine ⟨(fun h_ => absurd h_ (by decide)), ?_⟩
          exact hD_3_4_18 _ _ ⟨x34, x256, x40, Ext.trans hx_1 hx258, st_3 _ _ _ _ hx258 f_3, f259, st_18 _ _ _ _ hx258 f_18, rfl, e_51, e_57, e_62⟩
        · clear h
          have h := run_8 () w255 hx_1 trivial
          obtain ⟨b260, hb260_⟩ : ∃ b_, b_ = w255.heap.size := ⟨_, rfl⟩
          obtain ⟨w261, hw261_⟩ : ∃ w_, w_ = w255.alloc (.cells (List.toArray [Sl.v (p1.cut 1 0 (mn (mn (mn (p0.len : Int) (p1.len : Int)) (p2.len : Int)) 500) p1.cap)]) 25) := ⟨_, rfl⟩
          have h := h b260 w261 hb260_ hw261_
          refine DLop.execS (listed' := #[true, true, true, true, false, true, true, true, true, false, false, true, true, true, false, false, false, true, true, false, false, false]) rfl rfl trivial rfl (OpW.buildSliceE (vs := [(0, Sl.v (p1.cut 1 0 (mn (mn (mn (p0.len : Int) (p1.len : Int)) (p2.len : Int)) 500) p1.cap))]) (cs := [Sl.v (p1.cut 1 0 (mn (mn (mn (p0.len : Int) (p1.len : Int)) (p2.len : Int)) 500) p1.cap)]) (by simp only [List.map_cons, List.map_nil, ev, upd, Nat.beq, cond_false, cond_true, e_51]) (by kernel_rfl) hb260_ hw261_ ?_)
          obtain ⟨hx262, f263⟩ := h
          refine ⟨(fun h_ => absurd h_ (by decide)), ?_⟩
          exact hD_3_8_18 _ _ ⟨x34, ⟨some ⟨b260, 0, none⟩, 1, 1⟩, x40, Ext.trans hx_1 hx262, st_3 _ _ _ _ hx262 f_3, f263, st_18 _ _ _ _ hx262 f_18, e_47, rfl, e_57, e_62⟩
        · clear h
          have h := run_14 () w255 hx_1 trivial
          obtain ⟨b264, hb264_⟩ : ∃ b_, b_ = w255.heap.size := ⟨_, rfl⟩
          obtain ⟨w265, hw265_⟩ : ∃ w_, w_ = w255.alloc (.cells (List.toArray [Sl.v (p2.cut 1 0 (mn (mn (mn (p0.len : Int) (p1.len : Int)) (p2.len : Int)) 500) p2.cap)]) 25) := ⟨_, rfl⟩
          have h := h b264 w265 hb264_ hw265_
          refine DLop.execS (listed' := #[true, true, true, true, false, true, true, true, false, false, false, true, true, true, true, false, false, true, true, false, false, false]) rfl rfl trivial rfl (OpW.buildSliceE (vs := [(0, Sl.v (p2.cut 1 0 (mn (mn (mn (p0.len : Int) (p1.len : Int)) (p2.len : Int)) 500) p2.cap))]) (cs := [Sl.v (p2.cut 1 0 (mn (mn (mn (p0.len : Int) (p1.len : Int)) (p2.len : Int)) 500) p2.cap)]) (by simp only [List.map_cons, List.map_nil, ev, upd, Nat.beq, cond_false, cond_true, e_57]) (by kernel_rfl) hb264_ hw265_ ?_)
          obtain ⟨hx266, f267⟩ := h
          refine ⟨(fun h_ => absurd h_ (by decide)), ?_⟩
          exact hD_3_14_18 _ _ ⟨x34, ⟨some ⟨b264, 0, none⟩, 1, 1⟩, x40, Ext.trans hx_1 hx266, st_3 _ _ _ _ hx266 f_3, f267, st_18 _ _ _ _ hx266 f_18, e_47, e_51, rfl, e_62⟩

      intro hD_3_18
      refine DL.state (fun ρ_ w268 => ∃ (x36 : Sl) (x38 : Sl), Ext w32 w268 ∧ F56 () x36 w268 ∧ F68 () x38 w268 ∧ ρ_ 46 = Sl.v (p0.cut 1 0 (mn (mn (mn (p0.len : Int) (p1.len : Int)) (p2.len : Int)) 500) p0.cap) ∧ ρ_ 52 = Sl.v x36 ∧ ρ_ 58 = Sl.v x38 ∧ ρ_ 61 = Sl.v x6) 10 #[true, true, true, false, false, true, true, true, true, false, false, true, true, true, true, false, false, true, false, false, false, false] ?_ ?_
      · rintro ρ_ w268 ⟨x36, x38, hx_1, f_8, f_14, e_46, e_52, e_58, e_61⟩
        refine DL.branch [3, 18] (by kernel_rfl) rfl ?_
        refine all_cons ?_ (all_cons ?_ (all_nil))
        · clear h
          have h := run_3 () w268 hx_1 trivial
          obtain ⟨b269, hb269_⟩ : ∃ b_, b_ = w268.heap.size := ⟨_, rfl⟩
          obtain ⟨w270, hw270_⟩ : ∃ w_, w_ = w268.alloc (.cells (List.toArray [Sl.v (p0.cut 1 0 (mn (mn (mn (p0.len : Int) (p1.len : Int)) (p2.len : Int)) 500) p0.cap)]) 25) := ⟨_, rfl⟩
          have h := h b269 w270 hb269_ hw270_
          refine DLop.execS (listed' := #[true, true, true, true, false, true, true, true, true, false, false, true, true, true, true, false, false, true, false, false, false, false]) rfl rfl trivial rfl (OpW.buildSliceE (vs := [(0, Sl.v (p0.cut 1 0 (mn (mn (mn (p0.len : Int) (p1.len : Int)) (p2.len : Int)) 500) p0.cap))]) (cs := [Sl.v (p0.cut 1 0 (mn (mn (mn (p0.len : Int) (p1.len : Int)) (p2.len : Int)) 500) p0.cap)]) (by simp only [List.map_cons, List.map_nil, ev, upd, Nat.beq, cond_false, cond_true, e_46]) (by kernel_rfl) hb269_ hw270_ ?_)
          obtain ⟨hx271, f272⟩ := h
          refine ⟨(fun h_ => absurd h_ (by decide)), ?_⟩
          exact hD_3_8_14 _ _ ⟨⟨some ⟨b269, 0, none⟩, 1, 1⟩, x36, x38, Ext.trans hx_1 hx271, f272, st_8 _ _ _ _ hx271 f_8, st_14 _ _ _ _ hx271 f_14, rfl, e_52, e_58, e_61⟩
        · clear h
          have h := run_18 () w268 hx_1 trivial
          obtain ⟨b273, hb273_⟩ : ∃ b_, b_ = w268.heap.size := ⟨_, rfl⟩
          obtain ⟨w274, hw274_⟩ : ∃ w_, w_ = w268.alloc (.cells (List.toArray [Sl.v x6]) 25) := ⟨_, rfl⟩
          have h := h b273 w274 hb273_ hw274_
          refine DLop.execS (listed' := #[true, true, true, false, false, true, true, true, true, false, false, true, true, true, true, false, false, true, true, false, false, false]) rfl rfl trivial rfl (OpW.buildSliceE (vs := [(0, Sl.v x6)]) (cs := [Sl.v x6]) (by simp only [List.map_cons, List.map_nil, ev, upd, Nat.beq, cond_false, cond_true, e_61]) (by kernel_rfl) hb273_ hw274_ ?_)
          obtain ⟨hx275, f276⟩ := h
          refine ⟨(fun h_ => absurd h_ (by decide)), ?_⟩
          exact hD_8_14_18 _ _ ⟨x36, x38, ⟨some ⟨b273, 0, none⟩, 1, 1⟩, Ext.trans hx_1 hx275, st_8 _ _ _ _ hx275 f_8, st_14 _ _ _ _ hx275 f_14, f276, e_46, e_52, e_58, rfl⟩

      intro hD_8_14
      refine DL.state (fun ρ_ w277 => ∃ (x36 : Sl) (x40 : Sl), Ext w32 w277 ∧ F56 () x36 w277 ∧ F80 () x40 w277 ∧ ρ_ 46 = Sl.v (p0.cut 1 0 (mn (mn (mn (p0.len : Int) (p1.len : Int)) (p2.len : Int)) 500) p0.cap) ∧ ρ_ 52 = Sl.v x36 ∧ ρ_ 57 = Sl.v (p2.cut 1 0 (mn (mn (mn (p0.len : Int) (p1.len : Int)) (p2.len : Int)) 500) p2.cap) ∧ ρ_ 62 = Sl.v x40) 10 #[true, true, true, false, false, true, true, true, true, false, false, true, true, true, false, false, false, true, true, false, false, false] ?_ ?_
      · rintro ρ_ w277 ⟨x36, x40, hx_1, f_8, f_18, e_46, e_52, e_57, e_62⟩
        refine DL.branch [3, 14] (by kernel_rfl) rfl ?_
        refine all_cons ?_ (all_cons ?_ (all_nil))
        · clear h
          have h := run_3 () w277 hx_1 trivial
          obtain ⟨b278, hb278_⟩ : ∃ b_, b_ = w277.heap.size := ⟨_, rfl⟩
          obtain ⟨w279, hw279_⟩ : ∃ w_, w_ = w277.alloc (.cells (List.toArray [Sl.v (p0.cut 1 0 (mn (mn (mn (p0.len : Int) (p1.len : Int)) (p2.len : Int)) 500) p0.cap)]) 25) := ⟨_, rfl⟩
          have h := h b278 w279 hb278_ hw279_
          refine DLop.execS (listed' := #[true, true, true, true, false, true, true, true, true, false, false, true, true, true, false, false, false, true, true, false, false, false]) rfl rfl trivial rfl (OpW.buildSliceE (vs := [(0, Sl.v (p0.cut 1 0 (mn (mn (mn (p0.len : Int) (p1.len : Int)) (p2.len : Int)) 500) p0.cap))]) (cs := [Sl.v (p0.cut 1 0 (mn (mn (mn (p0.len : Int) (p1.len : Int)) (p2.len : Int)) 500) p0.cap)]) (by simp only [List.map_cons, List.map_nil, ev, upd, Nat.beq, cond_false, cond_true, e_46]) (by kernel_rfl) hb278_ hw279_ ?_)
          obtain ⟨hx280, f281⟩ := h
          refine ⟨(fun h_ => absurd h_ (by decide)), ?_⟩
          exact hD_3_8_18 _ _ ⟨⟨some ⟨b278, 0, none⟩, 1, 1⟩, x36, x40, Ext.trans hx_1 hx280, f281, st_8 _ _ _ _ hx280 f_8, st_18 _ _ _ _ hx280 f_18, rfl, e_52, e_57, e_62⟩
        · clear h
          have h := run_14 () w277 hx_1 trivial
          obtain ⟨b282, hb282_⟩ : ∃ b_, b_ = w277.heap.size := ⟨_, rfl⟩
          obtain ⟨w283, hw283_⟩ : ∃ w_, w_ = w277.alloc (.cells (List.toArray [Sl.v (p2.cut 1 0 (mn (mn (mn (p0.len : Int) (p1.len : Int)) (p2.len : Int)) 500) p2.cap)]) 25) := ⟨_, rfl⟩
          have h := h b282 w283 hb282_ hw283_
          refine DLop.execS (listed' := #[true, true, true, false, false, true, true, true, true, false, false, true, true, true, true, false, false, true, true, false, false, false]) rfl rfl trivial rfl (OpW.buildSliceE (vs := [(0, Sl.v (p2.cut 1 0 (mn (mn (mn (p0.len : Int) (p1.len : Int)) (p2.len : Int)) 500) p2.cap))]) (cs := [Sl.v (p2.cut 1 0 (mn (mn (mn (p0.len : Int) (p1.len : Int)) (p2.len : Int)) 500) p2.cap)]) (by simp only [List.map_cons, List.map_nil, ev, upd, Nat.beq, cond_false, cond_true, e_57]) (by kernel_rfl) hb282_ hw283_ ?_)
          obtain ⟨hx284, f285⟩ := h
          refine ⟨(fun h_ => absurd h_ (by decide)), ?_⟩
          exact hD_8_14_18 _ _ ⟨x36, ⟨some ⟨b282, 0, none⟩, 1, 1⟩, x40, Ext.trans hx_1 hx284, st_8 _ _ _ _ hx284 f_8, f285, st_18 _ _ _ _ hx284 f_18, e_46, e_52, rfl, e_62⟩

      intro hD_8_18
      refine DL.state (fun ρ_ w286 => ∃ (x38 : Sl) (x40 : Sl), Ext w32 w286 ∧ F68 () x38 w286 ∧ F80 () x40 w286 ∧ ρ_ 46 = Sl.v (p0.cut 1 0 (mn (mn (mn (p0.len : Int) (p1.len : Int)) (p2.len : Int)) 500) p0.cap) ∧ ρ_ 51 = Sl.v (p1.cut 1 0 (mn (mn (mn (p0.len : Int) (p1.len : Int)) (p2.len : Int)) 500) p1.cap) ∧ ρ_ 58 = Sl.v x38 ∧ ρ_ 62 = Sl.v x40) 10 #[true, true, true, false, false, true, true, true, false, false, false, true, true, true, true, false, false, true, true, false, false, false] ?_ ?_
      · rintro ρ_ w286 ⟨x38, x40, hx_1, f_14, f_18, e_46, e_51, e_58, e_62⟩
        refine DL.branch [3, 8] (by kernel_rfl) rfl ?_
        refine all_cons ?_ (all_cons ?_ (all_nil))
        · clear h
          have h := run_3 () w286 hx_1 trivial
          obtain ⟨b287, hb287_⟩ : ∃ b_, b_ = w286.heap.size := ⟨_, rfl⟩
          obtain ⟨w288, hw288_⟩ : ∃ w_, w_ = w286.alloc (.cells (List.toArray [Sl.v (p0.cut 1 0 (mn (mn (mn (p0.len : Int) (p1.len : Int)) (p2.len : Int)) 500) p0.cap)]) 25) := ⟨_, rfl⟩
          have h := h b287 w288 hb287_ hw288_
          refine DLop.execS (listed' := #[true, true, true, true, false, true, true, true, false, false, false, true, true, true, true, false, false, true, true, false, false, false]) rfl rfl trivial rfl (OpW.buildSliceE (vs := [(0, Sl.v (p0.cut 1 0 (mn (mn (mn (p0.len : Int) (p1.len : Int)) (p2.len : Int)) 500) p0.cap))]) (cs := [Sl.v (p0.cut 1 0 (mn (mn (mn (p0.len : Int) (p1.len : Int)) (p2.len : Int)) 500) p0.cap)]) (by simp only [List.map_cons, List.map_nil, ev, upd, Nat.beq, cond_false, cond_true, e_46]) (by kernel_rfl) hb287_ hw288_ ?_)
          obtain ⟨hx289, f290⟩ := h
          refine ⟨(fun h_ => absurd h_ (by decide)), ?_⟩
          exact hD_3_14_18 _ _ ⟨⟨some ⟨b287, 0, none⟩, 1, 1⟩, x38, x40, Ext.trans hx_1 hx289, f290, st_14 _ _ _ _ hx289 f_14, st_18 _ _ _ _ hx289 f_18, rfl, e_51, e_58, e_62⟩
        · clear h
          have h := run_8 () w286 hx_1 trivial
          obtain ⟨b291, hb291_⟩ : ∃ b_, b_ = w286.heap.size := ⟨_, rfl⟩
          obtain ⟨w292, hw292_⟩ : ∃ w_, w_ = w286.alloc (.cells (List.toArray [Sl.v (p1.cut 1 0 (mn (mn (mn (p0.len : Int) (p1.len : Int)) (p2.len : Int)) 500) p1.cap)]) 25) := ⟨_, rfl⟩
          have h := h b291 w292 hb291_ hw292_
          refine DLop.execS (listed' := #[true, true, true, false, false, true, true, true, true, false, false, true, true, true, true, false, false, true, true, false, false, false]) rfl rfl trivial rfl (OpW.buildSliceE (vs := [(0, Sl.v (p1.cut 1 0 (mn (mn (mn (p0.len : Int) (p1.len : Int)) (p2.len : Int)) 500) p1.cap))]) (cs := [Sl.v (p1.cut 1 0 (mn (mn (mn (p0.len : Int) (p1.len : Int)) (p2.len : Int)) 500) p1.cap)]) (by simp only [List.map_cons, List.map_nil, ev, upd, Nat.beq, cond_false, cond_true, e_51]) (by kernel_rfl) hb291_ hw292_ ?_)
          obtain ⟨hx293, f294⟩ := h
          refine ⟨(fun h_ => absurd h_ (by decide)), ?_⟩
          exact hD_8_14_18 _ _ ⟨⟨some ⟨b291, 0, none⟩, 1, 1⟩, x38, x40, Ext.trans hx_1 hx293, f294, st_14 _ _ _ _ hx293 f_14, st_18 _ _ _ _ hx293 f_18, e_46, rfl, e_58, e_62⟩

      intro hD_14_18
      refine DL.state (fun ρ_ w295 => ∃ (x34 : Sl), Ext w32 w295 ∧ F44 () x34 w295 ∧ ρ_ 47 = Sl.v x34 ∧ ρ_ 51 = Sl.v (p1.cut 1 0 (mn (mn (mn (p0.len : Int) (p1.len : Int)) (p2.len : Int)) 500) p1.cap) ∧ ρ_ 57 = Sl.v (p2.cut 1 0 (mn (mn (mn (p0.len : Int) (p1.len : Int)) (p2.len : Int)) 500) p2.cap) ∧ ρ_ 61 = Sl.v x6) 11 #[true, true, true, true, false, true, true, true, false, false, false, true, true, true, false, false, false, true, false, false, false, false] ?_ ?_
      · rintro ρ_ w295 ⟨x34, hx_1, f_3, e_47, e_51, e_57, e_61⟩
        refine DL.branch [4, 8, 14, 18] (by kernel_rfl) rfl ?_
        refine all_cons ?_ (all_cons ?_ (all_cons ?_ (all_cons ?_ (all_nil))))
        · clear h
          have h := run_4 x34 w295 hx_1 f_3
          refine DLop.execS (listed' := #[true, true, true, true, true, true, true, true, false, false, false, true, true, true, false, false, false, true, false, false, false, false]) rfl rfl trivial rfl (OpW.callR (al := [Sl.v x34]) Try.func10 fb_10 fn_10 (by simp only [List.map_cons, List.map_nil, ev, upd, Nat.beq, cond_false, cond_true, e_47]) h (fun x296 w297 h => ?_))
          obtain ⟨hx298, f299⟩ := h
          refine ⟨(fun h_ => absurd h_ (by decide)), ?_⟩
          exact hD_3_4 _ _ ⟨x34, x296, Ext.trans hx_1 hx298, st_3 _ _ _ _ hx298 f_3, f299, rfl, e_51, e_57, e_61⟩
        · clear h
          have h := run_8 () w295 hx_1 trivial
          obtain ⟨b300, hb300_⟩ : ∃ b_, b_ = w295.heap.size := ⟨_, rfl⟩
          obtain ⟨w301, hw301_⟩ : ∃ w_, w_ = w295.alloc (.cells (List.toArray [Sl.v (p1.cut 1 0 (mn (mn (mn (p0.len : Int) (p1.len : Int)) (p2.len : Int)) 500) p1.cap)]) 25) := ⟨_, rfl⟩
          have h := h b300 w301 hb300_ hw301_
          refine DLop.execS (listed' := #[true, true, true, true, false, true, true, true, true, false, false, true, true, true, false, false, false, true, false, false, false, false]) rfl rfl trivial rfl (OpW.buildSliceE (vs := [(0, Sl.v (p1.cut 1 0 (mn (mn (mn (p0.len : Int) (p1.len : Int)) (p2.len : Int)) 500) p1.cap))]) (cs := [Sl.v (p1.cut 1 0 (mn (mn (mn (p0.len : Int) (p1.len : Int)) (p2.len : Int)) 500) p1.cap)]) (by simp only [List.map_cons, List.map_nil, ev, upd, Nat.beq, cond_false, cond_true, e_51]) (by kernel_rfl) hb300_ hw301_ ?_)
          obtain ⟨hx302, f303⟩ := h
          refine ⟨(fun h_ => absurd h_ (by decide)), ?_⟩
          exact hD_3_8 _ _ ⟨x34, ⟨some ⟨b300, 0, none⟩, 1, 1⟩, Ext.trans hx_1 hx302, st_3 _ _ _ _ hx302 f_3, f303, e_47, rfl, e_57, e_61⟩
        · clear h
          have h := run_14 () w295 hx_1 trivial
          obtain ⟨b304, hb304_⟩ : ∃ b_, b_ = w295.heap.size := ⟨_, rfl⟩
          obtain ⟨w305, hw305_⟩ : ∃ w_, w_ = w295.alloc (.cells (List.toArray [Sl.v (p2.cut 1 0 (mn (mn (mn (p0.len : Int) (p1.len : Int)) (p2.len : Int)) 500) p2.cap)]) 25) := ⟨_, rfl⟩
          have h := h b304 w305 hb304_ hw305_
          refine DLop.execS (listed' := #[true, true, true, true, false, true, true, true, false, false, false, true, true, true, true, false, false, true, false, false, false, false]) rfl rfl trivial rfl (OpW.buildSliceE (vs := [(0, Sl.v (p2.cut 1 0 (mn (mn (mn (p0.len : Int) (p1.len : Int)) (p2.len : Int)) 500) p2.cap))]) (cs := [Sl.v (p2.cut 1 0 (mn (mn (mn (p0.len : Int) (p1.len : Int)) (p2.len : Int)) 500) p2.cap)]) (by simp only [List.map_cons, List.map_nil, ev, upd, Nat.beq, cond_false, cond_true, e_57]) (by kernel_rfl) hb304_ hw305_ ?_)
          obtain ⟨hx306, f307⟩ := h
          refine ⟨(fun h_ => absurd h_ (by decide)), ?_⟩
          exact hD_3_14 _ _ ⟨x34, ⟨some ⟨b304, 0, none⟩, 1, 1⟩, Ext.trans hx_1 hx306, st_3 _ _ _ _ hx306 f_3, f307, e_47, e_51, rfl, e_61⟩
        · clear h
          have h := run_18 () w295 hx_1 trivial
          obtain ⟨b308, hb308_⟩ : ∃ b_, b_ = w295.heap.size := ⟨_, rfl⟩
          obtain ⟨w309, hw309_⟩ : ∃ w_, w_ = w295.alloc (.cells (List.toArray [Sl.v x6]) 25) := ⟨_, rfl⟩
          have h := h b308 w309 hb308_ hw309_
          refine DLop.execS (listed' := #[true, true, true, true, false, true, true, true, false, false, false, true, true, true, false, false, false, true, true, false, false, false]) rfl rfl trivial rfl (OpW.buildSliceE (vs := [(0, Sl.v x6)]) (cs := [Sl.v x6]) (by simp only [List.map_cons, List.map_nil, ev, upd, Nat.beq, cond_false, cond_true, e_61]) (by kernel_rfl) hb308_ hw309_ ?_)
          obtain ⟨hx310, f311⟩ := h
          refine ⟨(fun h_ => absurd h_ (by decide)), ?_⟩
          exact hD_3_18 _ _ ⟨x34, ⟨some ⟨b308, 0, none⟩, 1, 1⟩, Ext.trans hx_1 hx310, st_3 _ _ _ _ hx310 f_3, f311, e_47, e_51, e_57, rfl⟩

      intro hD_3
      refine DL.state (fun ρ_ w312 => ∃ (x36 : Sl), Ext w32 w312 ∧ F56 () x36 w312 ∧ ρ_ 46 = Sl.v (p0.cut 1 0 (mn (mn (mn (p0.len : Int) (p1.len : Int)) (p2.len : Int)) 500) p0.cap) ∧ ρ_ 52 = Sl.v x36 ∧ ρ_ 57 = Sl.v (p2.cut 1 0 (mn (mn (mn (p0.len : Int) (p1.len : Int)) (p2.len : Int)) 500) p2.cap) ∧ ρ_ 61 = Sl.v x6) 11 #[true, true, true, false, false, true, true, true, true, false, false, true, true, true, false, false, false, true, false, false, false, false] ?_ ?_
      · rintro ρ_ w312 ⟨x36, hx_1, f_8, e_46, e_52, e_57, e_61⟩
        refine DL.branch [3, 14, 18] (by kernel_rfl) rfl ?_
        refine all_cons ?_ (all_cons ?_ (all_cons ?_ (all_nil)))
        · clear h
          have h := run_3 () w312 hx_1 trivial
          obtain ⟨b313, hb313_⟩ : ∃ b_, b_ = w312.heap.size := ⟨_, rfl⟩
          obtain ⟨w314, hw314_⟩ : ∃ w_, w_ = w312.alloc (.cells (List.toArray [Sl.v (p0.cut 1 0 (mn (mn (mn (p0.len : Int) (p1.len : Int)) (p2.len : Int)) 500) p0.cap)]) 25) := ⟨_, rfl⟩
          have h := h b313 w314 hb313_ hw314_
          refine DLop.execS (listed' := #[true, true, true, true, false, true, true, true, true, false, false, true, true, true, false, false, false, true, false, false, false, false]) rfl rfl trivial rfl (OpW.buildSliceE (vs := [(0, Sl.v (p0.cut 1 0 (mn (mn (mn (p0.len : Int) (p1.len : Int)) (p2.len : Int)) 500) p0.cap))]) (cs := [Sl.v (p0.cut 1 0 (mn (mn (mn (p0.len : Int) (p1.len : Int)) (p2.len : Int)) 500) p0.cap)]) (by simp only [List.map_cons, List.map_nil, ev, upd, Nat.beq, cond_false, cond_true, e_46]) (by kernel_rfl) hb313_ hw314_ ?_)
          obtain ⟨hx315, f316⟩ := h
          refine ⟨(fun h_ => absurd h_ (by decide)), ?_⟩
          exact hD_3_8 _ _ ⟨⟨some ⟨b313, 0, none⟩, 1, 1⟩, x36, Ext.trans hx_1 hx315, f316, st_8 _ _ _ _ hx315 f_8, rfl, e_52, e_57, e_61⟩
        · clear h
          have h := run_14 () w312 hx_1 trivial
          obtain ⟨b317, hb317_⟩ : ∃ b_, b_ = w312.heap.size := ⟨_, rfl⟩
          obtain ⟨w318, hw318_⟩ : ∃ w_, w_ = w312.alloc (.cells (List.toArray [Sl.v (p2.cut 1 0 (mn (mn (mn (p0.len : Int) (p1.len : Int)) (p2.len : Int)) 500) p2.cap)]) 25) := ⟨_, rfl⟩
          have h := h b317 w318 hb317_ hw318_
          refine DLop.execS (listed' := #[true, true, true, false, false, true, true, true, true, false, false, true, true, true, true, false, false, true, false, false, false, false]) rfl rfl trivial rfl (OpW.buildSliceE (vs := [(0, Sl.v (p2.cut 1 0 (mn (mn (mn (p0.len : Int) (p1.len : Int)) (p2.len : Int)) 500) p2.cap))]) (cs := [Sl.v (p2.cut 1 0 (mn (mn (mn (p0.len : Int) (p1.len : Int)) (p2.len : Int)) 500) p2.cap)]) (by simp only [List.map_cons, List.map_nil, ev, upd, Nat.beq, cond_false, cond_true, e_57]) (by kernel_rfl) hb317_ hw318_ ?_)
          obtain ⟨hx319, f320⟩ := h
          refine ⟨(fun h_ => absurd h_ (by decide)), ?_⟩
          exact hD_8_14 _ _ ⟨x36, ⟨some ⟨b317, 0, none⟩, 1, 1⟩, Ext.trans hx_1 hx319, st_8 _ _ _ _ hx319 f_8, f320, e_46, e_52, rfl, e_61⟩
        · clear h
          have h := run_18 () w312 hx_1 trivial
          obtain ⟨b321, hb321_⟩ : ∃ b_, b_ = w312.heap.size := ⟨_, rfl⟩
          obtain ⟨w322, hw322_⟩ : ∃ w_, w_ = w312.alloc (.cells (List.toArray [Sl.v x6]) 25) := ⟨_, rfl⟩
          have h := h b321 w322 hb321_ hw322_
          refine DLop.execS (listed' := #[true, true, true, false, false, true, true, true, true, false, false, true, true, true, false, false, false, true, true, false, false, false]) rfl rfl trivial rfl (OpW.buildSliceE (vs := [(0, Sl.v x6)]) (cs := [Sl.v x6]) (by simp only [List.map_cons, List.map_nil, ev, upd, Nat.beq, cond_false, cond_true, e_61]) (by kernel_rfl) hb321_ hw322_ ?_)
          obtain ⟨hx323, f324⟩ := h
          refine ⟨(fun h_ => absurd h_ (by decide)), ?_⟩
          exact hD_8_18 _ _ ⟨x36, ⟨some ⟨b321, 0, none⟩, 1, 1⟩, Ext.trans hx_1 hx323, st_8 _ _ _ _ hx323 f_8, f324, e_46, e_52, e_57, rfl⟩

      intro hD_8
      refine DL.state (fun ρ_ w325 => ∃ (x38 : Sl), Ext w32 w325 ∧ F68 () x38 w325 ∧ ρ_ 46 = Sl.v (p0.cut 1 0 (mn (mn (mn (p0.len : Int) (p1.len : Int)) (p2.len : Int)) 500) p0.cap) ∧ ρ_ 51 = Sl.v (p1.cut 1 0 (mn (mn (mn (p0.len : Int) (p1.len : Int)) (p2.len : Int)) 500) p1.cap) ∧ ρ_ 58 = Sl.v x38 ∧ ρ_ 61 = Sl.v x6) 11 #[true, true, true, false, false, true, true, true, false, false, false, true, true, true, true, false, false, true, false, false, false, false] ?_ ?_
      · rintro ρ_ w325 ⟨x38, hx_1, f_14, e_46, e_51, e_58, e_61⟩
        refine DL.branch [3, 8, 18] (by kernel_rfl) rfl ?_
        refine all_cons ?_ (all_cons ?_ (all_cons ?_ (all_nil)))
        · clear h
          have h := run_3 () w325 hx_1 trivial
          obtain ⟨b326, hb326_⟩ : ∃ b_, b_ = w325.heap.size := ⟨_, rfl⟩
          obtain ⟨w327, hw327_⟩ : ∃ w_, w_ = w325.alloc (.cells (List.toArray [Sl.v (p0.cut 1 0 (mn (mn (mn (p0.len : Int) (p1.len : Int)) (p2.len : Int)) 500) p0.cap)]) 25) := ⟨_, rfl⟩
          have h := h b326 w327 hb326_ hw327_
          refine DLop.execS (listed' := #[true, true, true, true, false, true, true, true, false, false, false, true, true, true, true, false, false, true, false, false, false, false]) rfl rfl trivial rfl (OpW.buildSliceE (vs := [(0, Sl.v (p0.cut 1 0 (mn (mn (mn (p0.len : Int) (p1.len : Int)) (p2.len : Int)) 500) p0.cap))]) (cs := [Sl.v (p0.cut 1 0 (mn (mn (mn (p0.len : Int) (p1.len : Int)) (p2.len : Int)) 500) p0.cap)]) (by simp only [List.map_cons, List.map_nil, ev, upd, Nat.beq, cond_false, cond_true, e_46]) (by kernel_rfl) hb326_ hw327_ ?_)
          obtain ⟨hx328, f329⟩ := h
          refine ⟨(fun h_ => absurd h_ (by decide)), ?_⟩
          exact hD_3_14 _ _ ⟨⟨some ⟨b326, 0, none⟩, 1, 1⟩, x38, Ext.trans hx_1 hx328, f329, st_14 _ _ _ _ hx328 f_14, rfl, e_51, e_58, e_61⟩
        · clear h
          have h := run_8 () w325 hx_1 trivial
          obtain ⟨b330, hb330_⟩ : ∃ b_, b_ = w325.heap.size := ⟨_, rfl⟩
          obtain ⟨w331, hw331_⟩ : ∃ w_, w_ = w325.alloc (.cells (List.toArray [Sl.v (p1.cut 1 0 (mn (mn (mn (p0.len : Int) (p1.len : Int)) (p2.len : Int)) 500) p1.cap)]) 25) := ⟨_, rfl⟩
          have h := h b330 w331 hb330_ hw331_
          refine DLop.execS (listed' := #[true, true, true, false, false, true, true, true, true, false, false, true, true, true, true, false, false, true, false, false, false, false]) rfl rfl trivial rfl (OpW.buildSliceE (vs := [(0, Sl.v (p1.cut 1 0 (mn (mn (mn (p0.len : Int) (p1.len : Int)) (p2.len : Int)) 500) p1.cap))]) (cs := [Sl.v (p1.cut 1 0 (mn (mn (mn (p0.len : Int) (p1.len : Int)) (p2.len : Int)) 500) p1.cap)]) (by simp only [List.map_cons, List.map_nil, ev, upd, Nat.beq, cond_false, cond_true, e_51]) (by kernel_rfl) hb330_ hw331_ ?_)
          obtain ⟨hx332, f333⟩ := h
          refine ⟨(fun h_ => absurd h_ (by decide)), ?_⟩
          exact hD_8_14 _ _ ⟨⟨some ⟨b330, 0, none⟩, 1, 1⟩, x38, Ext.trans hx_1 hx332, f333, st_14 _ _ _ _ hx332 f_14, e_46, rfl, e_58, e_61⟩
        · clear h
          have h := run_18 () w325 hx_1 trivial
          obtain ⟨b334, hb334_⟩ : ∃ b_, b_ = w325.heap.size := ⟨_, rfl⟩
          obtain ⟨w335, hw335_⟩ : ∃ w_, w_ = w325.alloc (.cells (List.toArray [Sl.v x6]) 25) := ⟨_, rfl⟩
          have h := h b334 w335 hb334_ hw335_
          refine DLop.execS (listed' := #[true, true, true, false, false, true, true, true, false, false, false, true, true, true, true, false, false, true, true, false, false, false]) rfl rfl trivial rfl (OpW.buildSliceE (vs := [(0, Sl.v x6)]) (cs := [Sl.v x6]) (by simp only [List.map_cons, List.map_nil, ev, upd, Nat.beq, cond_false, cond_true, e_61]) (by kernel_rfl) hb334_ hw335_ ?_)
          obtain ⟨hx336, f337⟩ := h
          refine ⟨(fun h_ => absurd h_ (by decide)), ?_⟩
          exact hD_14_18 _ _ ⟨x38, ⟨some ⟨b334, 0, none⟩, 1, 1⟩, Ext.trans hx_1 hx336, st_14 _ _ _ _ hx336 f_14, f337, e_46, e_51, e_58, rfl⟩

      intro hD_14
      refine DL.state (fun ρ_ w338 => ∃ (x40 : Sl), Ext w32 w338 ∧ F80 () x40 w338 ∧ ρ_ 46 = Sl.v (p0.cut 1 0 (mn (mn (mn (p0.len : Int) (p1.len : Int)) (p2.len : Int)) 500) p0.cap) ∧ ρ_ 51 = Sl.v (p1.cut 1 0 (mn (mn (mn (p0.len : Int) (p1.len : Int)) (p2.len : Int)) 500) p1.cap) ∧ ρ_ 57 = Sl.v (p2.cut 1 0 (mn (mn (mn (p0.len : Int) (p1.len : Int)) (p2.len : Int)) 500) p2.cap) ∧ ρ_ 62 = Sl.v x40) 11 #[true, true, true, false, false, true, true, true, false, false, false, true, true, true, false, false, false, true, true, false, false, false] ?_ ?_
      · rintro ρ_ w338 ⟨x40, hx_1, f_18, e_46, e_51, e_57, e_62⟩
        refine DL.branch [3, 8, 14] (by kernel_rfl) rfl ?_
        refine all_cons ?_ (all_cons ?_ (all_cons ?_ (all_nil)))
        · clear h
          have h := run_3 () w338 hx_1 trivial
          obtain ⟨b339, hb339_⟩ : ∃ b_, b_ = w338.heap.size := ⟨_, rfl⟩
          obtain ⟨w340, hw340_⟩ : ∃ w_, w_ = w338.alloc (.cells (List.toArray [Sl.v (p0.cut 1 0 (mn (mn (mn (p0.len : Int) (p1.len : Int)) (p2.len : Int)) 500) p0.cap)]) 25) := ⟨_, rfl⟩
          have h := h b339 w340 hb339_ hw340_
          refine DLop.execS (listed' := #[true, true, true, true, false, true, true, true, false, false, false, true, true, true, false, false, false, true, true, false, false, false]) rfl rfl trivial rfl (OpW.buildSliceE (vs := [(0, Sl.v (p0.cut 1 0 (mn (mn (mn (p0.len : Int) (p1.len : Int)) (p2.len : Int)) 500) p0.cap))]) (cs := [Sl.v (p0.cut 1 0 (mn (mn (mn (p0.len : Int) (p1.len : Int)) (p2.len : Int)) 500) p0.cap)]) (by simp only [List.map_cons, List.map_nil, ev, upd, Nat.beq, cond_false, cond_true, e_46]) (by kernel_rfl) hb339_ hw340_ ?_)
          obtain ⟨hx341, f342⟩ := h
          refine ⟨(fun h_ => absurd h_ (by decide)), ?_⟩
          exact hD_3_18 _ _ ⟨⟨some ⟨b339, 0, none⟩, 1, 1⟩, x40, Ext.trans hx_1 hx341, f342, st_18 _ _ _ _ hx341 f_18, rfl, e_51, e_57, e_62⟩
        · clear h
          have h := run_8 () w338 hx_1 trivial
          obtain ⟨b343, hb343_⟩ : ∃ b_, b_ = w338.heap.size := ⟨_, rfl⟩
          obtain ⟨w344, hw344_⟩ : ∃ w_, w_ = w338.alloc (.cells (List.toArray [Sl.v (p1.cut 1 0 (mn (mn (mn (p0.len : Int) (p1.len : Int)) (p2.len : Int)) 500) p1.cap)]) 25) := ⟨_, rfl⟩
          have h := h b343 w344 hb343_ hw344_
          refine DLop.execS (listed' := #[true, true, true, false, false, true, true, true, true, false, false, true, true, true, false, false, false, true, true, false, false, false]) rfl rfl trivial rfl (OpW.buildSliceE (vs := [(0, Sl.v (p1.cut 1 0 (mn (mn (mn (p0.len : Int) (p1.len : Int)) (p2.len : Int)) 500) p1.cap))]) (cs := [Sl.v (p1.cut 1 0 (mn (mn (mn (p0.len : Int) (p1.len : Int)) (p2.len : Int)) 500) p1.cap)]) (by simp only [List.map_cons, List.map_nil, ev, upd, Nat.beq, cond_false, cond_true, e_51]) (by kernel_rfl) hb343_ hw344_ ?_)
          obtain ⟨hx345, f346⟩ := h
          refine ⟨(fun h_ => absurd h_ (by decide)), ?_⟩
          exact hD_8_18 _ _ ⟨⟨some ⟨b343, 0, none⟩, 1, 1⟩, x40, Ext.trans hx_1 hx345, f346, st_18 _ _ _ _ hx345 f_18, e_46, rfl, e_57, e_62⟩
        · clear h
          have h := run_14 () w338 hx_1 trivial
          obtain ⟨b347, hb347_⟩ : ∃ b_, b_ = w338.heap.size := ⟨_, rfl⟩
          obtain ⟨w348, hw348_⟩ : ∃ w_, w_ = w338.alloc (.cells (List.toArray [Sl.v (p2.cut 1 0 (mn (mn (mn (p0.len : Int) (p1.len : Int)) (p2.len : Int)) 500) p2.cap)]) 25) := ⟨_, rfl⟩
          have h := h b347 w348 hb347_ hw348_
          refine DLop.execS (listed' := #[true, true, true, false, false, true, true, true, false, false, false, true, true, true, true, false, false, true, true, false, false, false]) rfl rfl trivial rfl (OpW.buildSliceE (vs := [(0, Sl.v (p2.cut 1 0 (mn (mn (mn (p0.len : Int) (p1.len : Int)) (p2.len : Int)) 500) p2.cap))]) (cs := [Sl.v (p2.cut 1 0 (mn (mn (mn (p0.len : Int) (p1.len : Int)) (p2.len : Int)) 500) p2.cap)]) (by simp only [List.map_cons, List.map_nil, ev, upd, Nat.beq, cond_false, cond_true, e_57]) (by kernel_rfl) hb347_ hw348_ ?_)
          obtain ⟨hx349, f350⟩ := h
          refine ⟨(fun h_ => absurd h_ (by decide)), ?_⟩
          exact hD_14_18 _ _ ⟨⟨some ⟨b347, 0, none⟩, 1, 1⟩, x40, Ext.trans hx_1 hx349, f350, st_18 _ _ _ _ hx349 f_18, e_46, e_51, rfl, e_62⟩

      intro hD_18
      have hx_0 : Ext w32 w32 := Ext.refl _
      refine DL.branch [3, 8, 14, 18] (by kernel_rfl) rfl ?_
      refine all_cons ?_ (all_cons ?_ (all_cons ?_ (all_cons ?_ (all_nil))))
      · clear h
        have h := run_3 () w32 hx_0 trivial
        obtain ⟨b351, hb351_⟩ : ∃ b_, b_ = w32.heap.size := ⟨_, rfl⟩
        obtain ⟨w352, hw352_⟩ : ∃ w_, w_ = w32.alloc (.cells (List.toArray [Sl.v (p0.cut 1 0 (mn (mn (mn (p0.len : Int) (p1.len : Int)) (p2.len : Int)) 500) p0.cap)]) 25) := ⟨_, rfl⟩
        have h := h b351 w352 hb351_ hw352_
        refine DLop.execS (listed' := #[true, true, true, true, false, true, true, true, false, false, false, true, true, true, false, false, false, true, false, false, false, false]) rfl rfl trivial rfl (OpW.buildSliceE (vs := [(0, Sl.v (p0.cut 1 0 (mn (mn (mn (p0.len : Int) (p1.len : Int)) (p2.len : Int)) 500) p0.cap))]) (cs := [Sl.v (p0.cut 1 0 (mn (mn (mn (p0.len : Int) (p1.len : Int)) (p2.len : Int)) 500) p0.cap)]) (by rfl) (by kernel_rfl) hb351_ hw352_ ?_)
        obtain ⟨hx353, f354⟩ := h
        refine ⟨(fun h_ => absurd h_ (by decide)), ?_⟩
        exact hD_3 _ _ ⟨⟨some ⟨b351, 0, none⟩, 1, 1⟩, Ext.trans hx_0 hx353, f354, rfl, rfl, rfl, rfl⟩
      · clear h
        have h := run_8 () w32 hx_0 trivial
        obtain ⟨b355, hb355_⟩ : ∃ b_, b_ = w32.heap.size := ⟨_, rfl⟩
        obtain ⟨w356, hw356_⟩ : ∃ w_, w_ = w32.alloc (.cells (List.toArray [Sl.v (p1.cut 1 0 (mn (mn (mn (p0.len : Int) (p1.len : Int)) (p2.len : Int)) 500) p1.cap)]) 25) := ⟨_, rfl⟩
        have h := h b355 w356 hb355_ hw356_
        refine DLop.execS (listed' := #[true, true, true, false, false, true, true, true, true, false, false, true, true, true, false, false, false, true, false, false, false, false]) rfl rfl trivial rfl (OpW.buildSliceE (vs := [(0, Sl.v (p1.cut 1 0 (mn (mn (mn (p0.len : Int) (p1.len : Int)) (p2.len : Int)) 500) p1.cap))]) (cs := [Sl.v (p1.cut 1 0 (mn (mn (mn (p0.len : Int) (p1.len : Int)) (p2.len : Int)) 500) p1.cap)]) (by rfl) (by kernel_rfl) hb355_ hw356_ ?_)
        obtain ⟨hx357, f358⟩ := h
        refine ⟨(fun h_ => absurd h_ (by decide)), ?_⟩
        exact hD_8 _ _ ⟨⟨some ⟨b355, 0, none⟩, 1, 1⟩, Ext.trans hx_0 hx357, f358, rfl, rfl, rfl, rfl⟩
      · clear h
        have h := run_14 () w32 hx_0 trivial
        obtain ⟨b359, hb359_⟩ : ∃ b_, b_ = w32.heap.size := ⟨_, rfl⟩
        obtain ⟨w360, hw360_⟩ : ∃ w_, w_ = w32.alloc (.cells (List.toArray [Sl.v (p2.cut 1 0 (mn (mn (mn (p0.len : Int) (p1.len : Int)) (p2.len : Int)) 500) p2.cap)]) 25) := ⟨_, rfl⟩
        have h := h b359 w360 hb359_ hw360_
        refine DLop.execS (listed' := #[true, true, true, false, false, true, true, true, false, false, false, true, true, true, true, false, false, true, false, false, false, false]) rfl rfl trivial rfl (OpW.buildSliceE (vs := [(0, Sl.v (p2.cut 1 0 (mn (mn (mn (p0.len : Int) (p1.len : Int)) (p2.len : Int)) 500) p2.cap))]) (cs := [Sl.v (p2.cut 1 0 (mn (mn (mn (p0.len : Int) (p1.len : Int)) (p2.len : Int)) 500) p2.cap)]) (by rfl) (by kernel_rfl) hb359_ hw360_ ?_)
        obtain ⟨hx361, f362⟩ := h
        refine ⟨(fun h_ => absurd h_ (by decide)), ?_⟩
        exact hD_14 _ _ ⟨⟨some ⟨b359, 0, none⟩, 1, 1⟩, Ext.trans hx_0 hx361, f362, rfl, rfl, rfl, rfl⟩
      · clear h
        have h := run_18 () w32 hx_0 trivial
        obtain ⟨b363, hb363_⟩ : ∃ b_, b_ = w32.heap.size := ⟨_, rfl⟩
        obtain ⟨w364, hw364_⟩ : ∃ w_, w_ = w32.alloc (.cells (List.toArray [Sl.v x6]) 25) := ⟨_, rfl⟩
        have h := h b363 w364 hb363_ hw364_
        refine DLop.execS (listed' := #[true, true, true, false, false, true, true, true, false, false, false, true, true, true, false, false, false, true, true, false, false, false]) rfl rfl trivial rfl (OpW.buildSliceE (vs := [(0, Sl.v x6)]) (cs := [Sl.v x6]) (by rfl) (by kernel_rfl) hb363_ hw364_ ?_)
        obtain ⟨hx365, f366⟩ := h
        refine ⟨(fun h_ => absurd h_ (by decide)), ?_⟩
        exact hD_18 _ _ ⟨⟨some ⟨b363, 0, none⟩, 1, 1⟩, Ext.trans hx_0 hx365, f366, rfl, rfl, rfl, rfl⟩

end Go.Proofs.Ytmlbmnaknjdmgaa
