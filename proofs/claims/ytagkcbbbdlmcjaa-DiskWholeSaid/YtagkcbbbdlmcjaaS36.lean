/- The typed readings of the functions, and that the program meets each: written by gen.py (a program of this session). -/
import Derived.Test.YtagkcbbbdlmcjaaLiftDraw
import Derived.Test.YtagkcbbbdlmcjaaRead
set_option linter.unusedVariables false
set_option linter.unusedSimpArgs false
namespace Go.Proofs.Ytagkcbbbdlmcjaa
open Go.Lift
set_option maxRecDepth 100000 in
set_option maxHeartbeats 4000000 in
theorem s36_calls (K : Option Addr → World → Prop) (p0 : Option Addr) (w : World) (h : s36 K p0 w) :
    Calls Try.prog 36 #[.pointer p0] w (Ret r36 K) := by
  unfold s36 at h
  refine calls_of_CW (n := 22) Try.func36 rfl rfl rfl ?_
  refine CW.seq ?_
  refine CW.region ?_
  refine RL.opS trivial rfl (OpW.assign (v := .pointer none) rfl ?_)
  refine RL.nil ?_
  refine CW.seq ?_
  refine CW.seq ?_
  refine CW.region ?_
  refine RL.opS trivial rfl (OpW.move (v := .pointer p0) rfl ?_)
  refine RL.opS trivial rfl (OpW.ptrNil (b := p0.isNone) (p := p0) ptr_31 rfl rfl rfl ?_)
  refine RL.nil ?_
  obtain ⟨ha, hc⟩ := h
  refine CW.cond (b := (p0.isNone)) rfl (fun hb1 => ?_) (fun hb1 => ?_)
  · have h := ha hb1; clear ha hc
    refine CW.seq ?_
    refine CW.region ?_
    refine RL.opS trivial rfl (OpW.assign (v := .pointer none) rfl ?_)
    refine RL.nil ?_
    refine CW.ret ?_
    exact ret_intro (res1 rfl rfl) ⟨none, rfl, h⟩
  · have h := hc hb1; clear ha hc
    refine CW.skip ?_
    refine CW.seq ?_
    refine CW.region ?_
    refine RL.opS trivial rfl (OpW.move (v := .pointer p0) rfl ?_)
    obtain ⟨a2, ha3, h⟩ := h
    refine RL.opS trivial rfl (OpW.nilCheck (a := a2) (congrArg Value.pointer ha3) ?_)
    obtain ⟨x4, h1, h2, h⟩ := h
    refine RL.opS trivial rfl (OpW.loadA agg_93 rfl h1 h2 ?_)
    obtain ⟨hl_b5, ho_b5, h⟩ := h
    obtain ⟨b5, hb5_⟩ : ∃ b_, b_ = w.heap.size := ⟨_, rfl⟩
    obtain ⟨w6, hw6_⟩ : ∃ w_, w_ = w.alloc (.cells (List.toArray x4) 93) := ⟨_, rfl⟩
    have h := h b5 w6 hb5_ hw6_
    refine RL.opS trivial rfl (OpW.allocZ (b := b5) zero_93 hb5_ ?_)
    refine RL.opN trivial (OpW.storeF (zs := [Value.slice none 0 0, Value.slice none 0 0, Value.slice none 0 0, Value.int .i64 0, Value.bool false]) (cs := x4) size_93 rfl rfl hl_b5 (by decide) ho_b5 hb5_ hw6_ ?_)
    refine RL.nil ?_
    refine CW.seq ?_
    obtain ⟨w7, hw7_⟩ : ∃ w_, w_ = w6.drew := ⟨_, rfl⟩
    have h := h w7 hw7_
    have hx8 : Ext w6 w7 := by rw [hw7_]; exact Ext.drew _
    refine CW.draws (m := 16) (listed := #[false, false, false, false, false, false, false, false, false, false, false, false, false, false, false, false]) mixed [0, 1, 2, 3, 4, 5, 6, 7, 8, 10, 12, 14] (Ext w6) rfl rfl ?_
    rw [← hw7_]
    refine DL.takeP (listed' := #[true, false, false, false, false, false, false, false, false, false, false, false, false, false, false, false]) (v := .pointer p0) 0 rfl rfl (by kernel_rfl) rfl trivial rfl (fun w_ K_ h_ => OpW.move (v := .pointer p0) rfl h_) ?_
    obtain ⟨a9, ha10, h⟩ := h
    refine DL.takeP (listed' := #[true, true, false, false, false, false, false, false, false, false, false, false, false, false, false, false]) (v := .pointer (some a9)) 1 rfl rfl (by kernel_rfl) rfl trivial rfl (fun w_ K_ h_ => OpW.nilCheck (a := a9) (congrArg Value.pointer ha10) h_) ?_
    refine DL.takeP (listed' := #[true, true, true, false, false, false, false, false, false, false, false, false, false, false, false, false]) (v := .pointer (some (Addr.add a9 0))) 2 rfl rfl (by kernel_rfl) rfl trivial rfl (fun w_ K_ h_ => OpW.fieldAddr (off := 0) field_93_0 rfl h_) ?_
    obtain ⟨x11, h1, h⟩ := h
    refine DL.takeK (listed' := #[true, true, true, true, false, false, false, false, false, false, false, false, false, false, false, false]) (v := Sl.v x11) 3 rfl rfl (by kernel_rfl) (by kernel_rfl) rfl trivial rfl hx8 (fun w_ hS_ K_ h_ => OpW.load1 (v := Sl.v x11) one_90 rfl (hS_.cell h1) h_) ?_
    refine DL.takeP (listed' := #[true, true, true, true, false, true, false, false, false, false, false, false, false, false, false, false]) (v := .pointer p0) 5 rfl rfl (by kernel_rfl) rfl trivial rfl (fun w_ K_ h_ => OpW.move (v := .pointer p0) rfl h_) ?_
    obtain ⟨a12, ha13, h⟩ := h
    refine DL.takeP (listed' := #[true, true, true, true, false, true, true, false, false, false, false, false, false, false, false, false]) (v := .pointer (some a12)) 6 rfl rfl (by kernel_rfl) rfl trivial rfl (fun w_ K_ h_ => OpW.nilCheck (a := a12) (congrArg Value.pointer ha13) h_) ?_
    refine DL.takeP (listed' := #[true, true, true, true, false, true, true, true, false, false, false, false, false, false, false, false]) (v := .pointer (some (Addr.add a12 1))) 7 rfl rfl (by kernel_rfl) rfl trivial rfl (fun w_ K_ h_ => OpW.fieldAddr field_93_1 rfl h_) ?_
    obtain ⟨x14, h1, h⟩ := h
    refine DL.takeK (listed' := #[true, true, true, true, false, true, true, true, true, false, false, false, false, false, false, false]) (v := Sl.v x14) 8 rfl rfl (by kernel_rfl) (by kernel_rfl) rfl trivial rfl hx8 (fun w_ hS_ K_ h_ => OpW.load1 (v := Sl.v x14) one_91 rfl (hS_.cell h1) h_) ?_
    refine DL.execS (listed' := #[true, true, true, true, true, true, true, true, true, false, false, false, false, false, false, false]) 4 rfl (by kernel_rfl) rfl trivial rfl (OpW.callR (al := [Sl.v x11]) Try.func62 fb_62 fn_62 rfl h (fun x15 w16 h => ?_))
    obtain ⟨hx17, h⟩ := h
    refine ⟨(fun _ _ => hx17), ?_⟩
    refine DL.execS (listed' := #[true, true, true, true, true, true, true, true, true, true, false, false, false, false, false, false]) 9 rfl (by kernel_rfl) rfl trivial rfl (OpW.callR (al := [Sl.v x14]) Try.func63 fb_63 fn_63 rfl h (fun x18 w19 h => ?_))
    refine ⟨(fun h_ => absurd h_ (by decide)), ?_⟩
    refine DL.takeP (listed' := #[true, true, true, true, true, true, true, true, true, true, true, false, false, false, false, false]) (v := .pointer (some (Addr.add ⟨b5, 0, none⟩ 0))) 10 rfl rfl (by kernel_rfl) rfl trivial rfl (fun w_ K_ h_ => OpW.fieldAddr (off := 0) field_93_0 rfl h_) ?_
    obtain ⟨u_, h1, h2, h⟩ := h
    obtain ⟨w20, hw20_⟩ : ∃ w_, w_ = w19.setCell (Addr.add ⟨b5, 0, none⟩ 0) (Sl.v x15) := ⟨_, rfl⟩
    have h := h w20 hw20_
    refine DL.execN (listed' := #[true, true, true, true, true, true, true, true, true, true, true, true, false, false, false, false]) 11 rfl (by kernel_rfl) rfl trivial (OpW.store1E (v := Sl.v x15) size_90 rfl rfl rfl h1 h2 hw20_ ?_)
    refine ⟨(fun h_ => absurd h_ (by decide)), ?_⟩
    refine DL.takeP (listed' := #[true, true, true, true, true, true, true, true, true, true, true, true, true, false, false, false]) (v := .pointer (some (Addr.add ⟨b5, 0, none⟩ 1))) 12 rfl rfl (by kernel_rfl) rfl trivial rfl (fun w_ K_ h_ => OpW.fieldAddr field_93_1 rfl h_) ?_
    obtain ⟨u_, h1, h2, h⟩ := h
    obtain ⟨w21, hw21_⟩ : ∃ w_, w_ = w20.setCell (Addr.add ⟨b5, 0, none⟩ 1) (Sl.v x18) := ⟨_, rfl⟩
    have h := h w21 hw21_
    refine DL.execN (listed' := #[true, true, true, true, true, true, true, true, true, true, true, true, true, true, false, false]) 13 rfl (by kernel_rfl) rfl trivial (OpW.store1E (v := Sl.v x18) size_91 rfl rfl rfl h1 h2 hw21_ ?_)
    refine ⟨(fun h_ => absurd h_ (by decide)), ?_⟩
    refine DL.takeP (listed' := #[true, true, true, true, true, true, true, true, true, true, true, true, true, true, true, false]) (v := .pointer (some (Addr.add ⟨b5, 0, none⟩ 2))) 14 rfl rfl (by kernel_rfl) rfl trivial rfl (fun w_ K_ h_ => OpW.fieldAddr field_93_2 rfl h_) ?_
    obtain ⟨u_, h1, h2, h⟩ := h
    obtain ⟨w22, hw22_⟩ : ∃ w_, w_ = w21.setCell (Addr.add ⟨b5, 0, none⟩ 2) (Sl.v nilSl) := ⟨_, rfl⟩
    have h := h w22 hw22_
    refine DL.execN (listed' := #[true, true, true, true, true, true, true, true, true, true, true, true, true, true, true, true]) 15 rfl (by kernel_rfl) rfl trivial (OpW.store1E (v := Sl.v nilSl) size_47 rfl rfl rfl h1 h2 hw22_ ?_)
    refine ⟨(fun h_ => absurd h_ (by decide)), ?_⟩
    refine DL.done (by kernel_rfl) ?_
    refine CW.seq ?_
    refine CW.region ?_
    refine RL.opS trivial rfl (OpW.assign (v := .pointer (some ⟨b5, 0, none⟩)) rfl ?_)
    refine RL.nil ?_
    refine CW.ret ?_
    exact ret_intro (res1 rfl rfl) ⟨some ⟨b5, 0, none⟩, rfl, h⟩
end Go.Proofs.Ytagkcbbbdlmcjaa
