/- The typed readings of the functions, and that the program meets each: written by gen.py (a program of this session). -/
import Derived.Test.YtagkcbbbdlmcjaaLiftDraw
import Derived.Test.YtagkcbbbdlmcjaaRead
set_option linter.unusedVariables false
set_option linter.unusedSimpArgs false
namespace Go.Proofs.Ytagkcbbbdlmcjaa
open Go.Lift
set_option maxRecDepth 100000 in
set_option maxHeartbeats 4000000 in
theorem s34_calls (K : Int → World → Prop) (p0 : Option Addr) (w : World) (h : s34 K p0 w) :
    Calls Try.prog 34 #[.pointer p0] w (Ret r34 K) := by
  unfold s34 at h
  refine calls_of_CW (n := 36) Try.func34 rfl rfl rfl ?_
  refine CW.seq ?_
  refine CW.region ?_
  refine RL.opS trivial rfl (OpW.assign (v := .int .i64 0) rfl ?_)
  refine RL.nil ?_
  refine CW.seq ?_
  refine CW.seq ?_
  refine CW.region ?_
  refine RL.opS trivial rfl (OpW.move (v := .pointer p0) rfl ?_)
  refine RL.opS trivial rfl (OpW.callR (al := [.pointer p0]) Try.func38 fb_38 fn_38 rfl h (fun x1 w2 h => ?_))
  refine RL.nil ?_
  obtain ⟨ha, hc⟩ := h
  refine CW.cond (b := x1) rfl (fun hb3 => ?_) (fun hb3 => ?_)
  · have h := ha hb3; clear ha hc
    refine CW.seq ?_
    refine CW.region ?_
    refine RL.opS trivial rfl (OpW.assign (v := .int .i64 6) rfl ?_)
    refine RL.nil ?_
    refine CW.ret ?_
    exact ret_intro (res1 rfl rfl) ⟨6, rfl, h⟩
  · have h := hc hb3; clear ha hc
    refine CW.skip ?_
    refine CW.seq ?_
    refine CW.seq ?_
    refine CW.region ?_
    refine RL.opS trivial rfl (OpW.move (v := .pointer p0) rfl ?_)
    refine RL.opS trivial rfl (OpW.callR (al := [.pointer p0]) Try.func61 fb_61 fn_61 rfl h (fun x4 w5 h => ?_))
    refine RL.opS trivial rfl (OpW.assign (v := .int .i64 x4) rfl ?_)
    refine RL.nil ?_
    refine CW.seq ?_
    refine CW.region ?_
    refine RL.opS trivial rfl (OpW.move (v := .int .i64 x4) rfl ?_)
    refine RL.opS trivial rfl (OpW.bin (k := .i64) (a := x4) (b := 0) (v := .bool (!decide (x4 = 0))) rfl rfl rfl ?_)
    refine RL.nil ?_
    obtain ⟨ha, hc⟩ := h
    refine CW.cond (b := (!decide (x4 = 0))) rfl (fun hb6 => ?_) (fun hb6 => ?_)
    · have h := ha hb6; clear ha hc
      refine CW.seq ?_
      refine CW.region ?_
      refine RL.opS trivial rfl (OpW.move (v := .int .i64 x4) rfl ?_)
      refine RL.opS trivial rfl (OpW.assign (v := .int .i64 x4) rfl ?_)
      refine RL.nil ?_
      refine CW.ret ?_
      exact ret_intro (res1 rfl rfl) ⟨x4, rfl, h⟩
    · have h := hc hb6; clear ha hc
      refine CW.skip ?_
      refine CW.seq ?_
      refine CW.seq ?_
      refine CW.region ?_
      refine RL.opS trivial rfl (OpW.move (v := .pointer p0) rfl ?_)
      obtain ⟨a7, ha8, h⟩ := h
      refine RL.opS trivial rfl (OpW.nilCheck (a := a7) (congrArg Value.pointer ha8) ?_)
      refine RL.opS trivial rfl (OpW.fieldAddr field_93_1 rfl ?_)
      obtain ⟨x9, h1, h⟩ := h
      refine RL.opS trivial rfl (OpW.load1 (v := Sl.v x9) one_91 rfl h1 ?_)
      refine RL.opS trivial rfl (OpW.len (s := x9) slice_91 rfl ?_)
      refine RL.opS trivial rfl (OpW.move (v := .int .i64 0) rfl ?_)
      refine RL.nil ?_
      refine CW.block ?_
      obtain ⟨I36, mu37, hI, hs⟩ := h
      refine CW.loop (σ := Int) (fun s10 ρ => ρ 18 = .int .i64 s10 ∧ ρ 0 = .pointer p0 ∧ ρ 16 = Sl.v x9 ∧ ρ 17 = .int .i64 (x9.len : Int)) I36 mu37 0 ⟨rfl, rfl, rfl, rfl⟩ hI ?_
      rintro s10 ρ w11 ⟨e13, e14, e15, e16⟩ hI
      have h := hs s10 w11 hI
      clear hs hI
      refine CW.seq ?_
      refine CW.region ?_
      refine RL.opS trivial rfl (OpW.bin (k := .i64) (a := s10) (b := (x9.len : Int)) (v := .bool (decide (s10 < (x9.len : Int)))) e13 e16 rfl ?_)
      refine RL.nil ?_
      refine CW.seq ?_
      obtain ⟨ha, hc⟩ := h
      refine CW.cond (b := (decide (s10 < (x9.len : Int)))) rfl (fun hb17 => ?_) (fun hb17 => ?_)
      · have h := ha hb17; clear ha hc
        refine CW.skip ?_
        refine CW.seq ?_
        refine CW.block ?_
        refine CW.seq ?_
        refine CW.region ?_
        obtain ⟨a18_, a18, h1, h2, h3, h4, h⟩ := h
        refine RL.opS trivial rfl (OpW.indexE (a' := a18) slice_91 e15 e13 h1 h2 h3 h4 ?_)
        obtain ⟨x20, h1, h2, h⟩ := h
        refine RL.opS trivial rfl (OpW.loadA agg_116 rfl h1 h2 ?_)
        obtain ⟨hl_b21, ho_b21, h⟩ := h
        obtain ⟨b21, hb21_⟩ : ∃ b_, b_ = w11.heap.size := ⟨_, rfl⟩
        obtain ⟨w22, hw22_⟩ : ∃ w_, w_ = w11.alloc (.cells (List.toArray x20) 116) := ⟨_, rfl⟩
        have h := h b21 w22 hb21_ hw22_
        refine RL.opS trivial rfl (OpW.allocZ (b := b21) zero_116 hb21_ ?_)
        refine RL.opN trivial (OpW.storeF (zs := ([Value.int .i64 0] ++ List.replicate 512 (Value.int .u8 0))) (cs := x20) size_116 rfl rfl hl_b21 (by decide) ho_b21 hb21_ hw22_ ?_)
        refine RL.nil ?_
        obtain ⟨w23, hw23_⟩ : ∃ w_, w_ = w22.drew := ⟨_, rfl⟩
        have h := h w23 hw23_
        have hx24 : Ext w22 w23 := by rw [hw23_]; exact Ext.drew _
        refine CW.draws (m := 11) (listed := #[false, false, false, false, false, false, false, false, false, false, false]) mixed [0, 1, 2, 3, 4, 5, 6, 7, 8, 9] (Ext w22) rfl rfl ?_
        rw [← hw23_]
        refine DL.takeP (listed' := #[true, false, false, false, false, false, false, false, false, false, false]) (v := .pointer p0) 0 rfl rfl (by kernel_rfl) rfl trivial rfl (fun w_ K_ h_ => OpW.move (v := .pointer p0) e14 h_) ?_
        obtain ⟨a25, ha26, h⟩ := h
        refine DL.takeP (listed' := #[true, true, false, false, false, false, false, false, false, false, false]) (v := .pointer (some a25)) 1 rfl rfl (by kernel_rfl) rfl trivial rfl (fun w_ K_ h_ => OpW.nilCheck (a := a25) (congrArg Value.pointer ha26) h_) ?_
        refine DL.takeP (listed' := #[true, true, true, false, false, false, false, false, false, false, false]) (v := .pointer (some (Addr.add a25 0))) 2 rfl rfl (by kernel_rfl) rfl trivial rfl (fun w_ K_ h_ => OpW.fieldAddr (off := 0) field_93_0 rfl h_) ?_
        obtain ⟨x27, h1, h⟩ := h
        refine DL.takeK (listed' := #[true, true, true, true, false, false, false, false, false, false, false]) (v := Sl.v x27) 3 rfl rfl (by kernel_rfl) (by kernel_rfl) rfl trivial rfl hx24 (fun w_ hS_ K_ h_ => OpW.load1 (v := Sl.v x27) one_90 rfl (hS_.cell h1) h_) ?_
        refine DL.takeP (listed' := #[true, true, true, true, true, false, false, false, false, false, false]) (v := .pointer (some (Addr.add ⟨b21, 0, none⟩ 0))) 4 rfl rfl (by kernel_rfl) rfl trivial rfl (fun w_ K_ h_ => OpW.fieldAddr (off := 0) field_116_0 rfl h_) ?_
        obtain ⟨x28, h1, h⟩ := h
        refine DL.takeK (listed' := #[true, true, true, true, true, true, false, false, false, false, false]) (v := .int .i64 x28) 5 rfl rfl (by kernel_rfl) (by kernel_rfl) rfl trivial rfl hx24 (fun w_ hS_ K_ h_ => OpW.load1 (v := .int .i64 x28) one_3 rfl (hS_.cell h1) h_) ?_
        refine DL.takeP (listed' := #[true, true, true, true, true, true, true, false, false, false, false]) (v := .pointer (some (Addr.add ⟨b21, 0, none⟩ 1))) 6 rfl rfl (by kernel_rfl) rfl trivial rfl (fun w_ K_ h_ => OpW.fieldAddr field_116_1 rfl h_) ?_
        obtain ⟨x29, h1, h2, h⟩ := h
        refine DL.takeK (listed' := #[true, true, true, true, true, true, true, true, false, false, false]) (v := aggv x29) 7 rfl rfl (by kernel_rfl) (by kernel_rfl) rfl trivial rfl hx24 (fun w_ hS_ K_ h_ => OpW.loadA agg_110 rfl h1 (hS_.at h2) h_) ?_
        obtain ⟨a30_, a30, h1, h2, h3, h4, h⟩ := h
        refine DL.takeP (listed' := #[true, true, true, true, true, true, true, true, true, false, false]) (v := .pointer (some a30)) 8 rfl rfl (by kernel_rfl) rfl trivial rfl (fun w_ K_ h_ => OpW.indexE (a' := a30) slice_90 rfl rfl h1 h2 h3 h4 h_) ?_
        refine DL.takeP (listed' := #[true, true, true, true, true, true, true, true, true, true, false]) (v := .pointer (some (Addr.add a30 512))) 9 rfl rfl (by kernel_rfl) rfl trivial rfl (fun w_ K_ h_ => OpW.fieldAddr field_112_1 rfl h_) ?_
        obtain ⟨g_, o_, e_, cur_, ha_, h1, h2, h3, h4, h⟩ := h
        obtain ⟨w32, hw32_⟩ : ∃ w_, w_ = w23.setRow g_ (cur_.toList.take o_ ++ x29 ++ cur_.toList.drop (o_ + List.length x29)).toArray := ⟨_, rfl⟩
        have h := h w32 hw32_
        refine DL.execN (listed' := #[true, true, true, true, true, true, true, true, true, true, true]) 10 rfl (by kernel_rfl) rfl trivial (OpW.storeAE (cs := x29) size_110 rfl rfl ha_ h1 h2 h3 h4 hw32_ ?_)
        refine ⟨(fun h_ => absurd h_ (by decide)), ?_⟩
        refine DL.done (by kernel_rfl) ?_
        refine CW.region ?_
        refine RL.opS trivial rfl (OpW.bin (k := .i64) (a := s10) (b := 1) (v := .int .i64 (IntKind.i64.wrap (s10 + 1))) e13 rfl rfl ?_)
        refine RL.opS trivial rfl (OpW.move (v := .int .i64 (IntKind.i64.wrap (s10 + 1))) rfl ?_)
        refine RL.nil ?_
        exact ⟨(IntKind.i64.wrap (s10 + 1)), ⟨rfl, e14, e15, e16⟩, h⟩
      · have h := hc hb17; clear ha hc
        refine CW.exit ?_
        refine CW.seq ?_
        refine CW.region ?_
        refine RL.opS trivial rfl (OpW.move (v := .pointer p0) e14 ?_)
        obtain ⟨a33, ha34, h⟩ := h
        refine RL.opS trivial rfl (OpW.nilCheck (a := a33) (congrArg Value.pointer ha34) ?_)
        refine RL.opS trivial rfl (OpW.fieldAddr field_93_1 rfl ?_)
        obtain ⟨u_, h1, h2, h⟩ := h
        obtain ⟨w35, hw35_⟩ : ∃ w_, w_ = w11.setCell (Addr.add a33 1) (Sl.v nilSl) := ⟨_, rfl⟩
        have h := h w35 hw35_
        refine RL.opN trivial (OpW.store1E (v := Sl.v nilSl) size_91 rfl rfl rfl h1 h2 hw35_ ?_)
        refine RL.nil ?_
        refine CW.seq ?_
        refine CW.region ?_
        refine RL.opS trivial rfl (OpW.assign (v := .int .i64 0) rfl ?_)
        refine RL.nil ?_
        refine CW.ret ?_
        exact ret_intro (res1 rfl rfl) ⟨0, rfl, h⟩
end Go.Proofs.Ytagkcbbbdlmcjaa
