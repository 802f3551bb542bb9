/- The typed readings of the functions, and that the program meets each: written by gen.py (a program of this session). -/
import Derived.Test.YtagkcbbbdlmcjaaLiftDraw
import Derived.Test.YtagkcbbbdlmcjaaRead
set_option linter.unusedVariables false
set_option linter.unusedSimpArgs false
namespace Go.Proofs.Ytagkcbbbdlmcjaa
open Go.Lift
set_option maxRecDepth 100000 in
set_option maxHeartbeats 4000000 in
theorem s33_calls (K : Int → World → Prop) (p0 : Option Addr) (p1 : Int) (p2 : Sl) (w : World) (h : s33 K p0 p1 p2 w) :
    Calls Try.prog 33 #[.pointer p0, .int .i64 p1, Sl.v p2] w (Ret r33 K) := by
  unfold s33 at h
  refine calls_of_CW (n := 46) Try.func33 rfl rfl rfl ?_
  refine CW.seq ?_
  refine CW.region ?_
  refine RL.opS trivial rfl (OpW.assign (v := .int .i64 0) rfl ?_)
  refine RL.nil ?_
  refine CW.seq ?_
  refine CW.seq ?_
  refine CW.region ?_
  refine RL.opS trivial rfl (OpW.move (v := .pointer p0) rfl ?_)
  refine RL.opS trivial rfl (OpW.move (v := .int .i64 p1) rfl ?_)
  refine RL.opS trivial rfl (OpW.callR (al := [.pointer p0, .int .i64 p1]) Try.func59 fb_59 fn_59 rfl h (fun x1 w2 h => ?_))
  refine RL.opS trivial rfl (OpW.assign (v := .int .i64 x1) rfl ?_)
  refine RL.nil ?_
  refine CW.seq ?_
  refine CW.region ?_
  refine RL.opS trivial rfl (OpW.move (v := .int .i64 x1) rfl ?_)
  refine RL.opS trivial rfl (OpW.bin (k := .i64) (a := x1) (b := 0) (v := .bool (!decide (x1 = 0))) rfl rfl rfl ?_)
  refine RL.nil ?_
  obtain ⟨ha, hc⟩ := h
  refine CW.cond (b := (!decide (x1 = 0))) rfl (fun hb3 => ?_) (fun hb3 => ?_)
  · have h := ha hb3; clear ha hc
    refine CW.seq ?_
    refine CW.region ?_
    refine RL.opS trivial rfl (OpW.move (v := .int .i64 x1) rfl ?_)
    refine RL.opS trivial rfl (OpW.assign (v := .int .i64 x1) rfl ?_)
    refine RL.nil ?_
    refine CW.ret ?_
    exact ret_intro (res1 rfl rfl) ⟨x1, rfl, h⟩
  · have h := hc hb3; clear ha hc
    refine CW.skip ?_
    refine CW.seq ?_
    refine CW.seq ?_
    refine CW.region ?_
    refine RL.opS trivial rfl (OpW.move (v := Sl.v p2) rfl ?_)
    refine RL.opS trivial rfl (OpW.len (s := p2) slice_39 rfl ?_)
    refine RL.opS trivial rfl (OpW.bin (k := .i64) (a := (p2.len : Int)) (b := 512) (v := .bool (!decide ((p2.len : Int) = 512))) rfl rfl rfl ?_)
    refine RL.nil ?_
    obtain ⟨ha, hc⟩ := h
    refine CW.cond (b := (!decide ((p2.len : Int) = 512))) rfl (fun hb4 => ?_) (fun hb4 => ?_)
    · have h := ha hb4; clear ha hc
      refine CW.seq ?_
      refine CW.region ?_
      refine RL.opS trivial rfl (OpW.assign (v := .int .i64 1) rfl ?_)
      refine RL.nil ?_
      refine CW.ret ?_
      exact ret_intro (res1 rfl rfl) ⟨1, rfl, h⟩
    · have h := hc hb4; clear ha hc
      refine CW.skip ?_
      refine CW.seq ?_
      refine CW.region ?_
      refine RL.opS trivial rfl (OpW.move (v := .int .i64 p1) rfl ?_)
      refine RL.opS trivial rfl (OpW.buildL (vs := [(0, .int .i64 p1)]) (cs := ([.int .i64 p1] ++ List.replicate 512 (Value.int .u8 0))) (by rfl) (fun _ => by kernel_rfl) ?_)
      obtain ⟨hl_b5, ho_b5, h⟩ := h
      obtain ⟨b5, hb5_⟩ : ∃ b_, b_ = w2.heap.size := ⟨_, rfl⟩
      obtain ⟨w6, hw6_⟩ : ∃ w_, w_ = w2.alloc (.cells (List.toArray ([.int .i64 p1] ++ List.replicate 512 (Value.int .u8 0))) 116) := ⟨_, rfl⟩
      have h := h b5 w6 hb5_ hw6_
      refine RL.opS trivial rfl (OpW.allocZ (b := b5) zero_116 hb5_ ?_)
      refine RL.opN trivial (OpW.storeF (zs := ([Value.int .i64 0] ++ List.replicate 512 (Value.int .u8 0))) (cs := ([.int .i64 p1] ++ List.replicate 512 (Value.int .u8 0))) size_116 rfl rfl hl_b5 (by decide) ho_b5 hb5_ hw6_ ?_)
      refine RL.nil ?_
      refine CW.seq ?_
      refine CW.region ?_
      refine RL.opS trivial rfl (OpW.fieldAddr field_116_1 rfl ?_)
      refine RL.opS trivial rfl (OpW.sliceArr (l := 0) (h := 512) arr_110 rfl rfl rfl (by decide) (by decide) (by decide) ?_)
      refine RL.opS trivial rfl (OpW.move (v := Sl.v p2) rfl ?_)
      obtain ⟨x7, w8, hr_, h⟩ := h
      refine RL.opS trivial rfl (OpW.copyL (v := .int .i64 x7) rfl hr_ ?_)
      refine RL.nil ?_
      refine CW.seq ?_
      obtain ⟨w9, hw9_⟩ : ∃ w_, w_ = w8.drew := ⟨_, rfl⟩
      have h := h w9 hw9_
      have hx10 : Ext w8 w9 := by rw [hw9_]; exact Ext.drew _
      refine CW.draws (m := 10) (listed := #[false, false, false, false, false, false, false, false, false, false]) mixed [0, 1, 2, 3, 4, 5, 6, 7, 8] (Ext w8) rfl rfl ?_
      rw [← hw9_]
      refine DL.takeP (listed' := #[true, false, false, false, false, false, false, false, false, false]) (v := .pointer p0) 0 rfl rfl (by kernel_rfl) rfl trivial rfl (fun w_ K_ h_ => OpW.move (v := .pointer p0) rfl h_) ?_
      obtain ⟨a11, ha12, h⟩ := h
      refine DL.takeP (listed' := #[true, true, false, false, false, false, false, false, false, false]) (v := .pointer (some a11)) 1 rfl rfl (by kernel_rfl) rfl trivial rfl (fun w_ K_ h_ => OpW.nilCheck (a := a11) (congrArg Value.pointer ha12) h_) ?_
      refine DL.takeP (listed' := #[true, true, true, false, false, false, false, false, false, false]) (v := .pointer (some (Addr.add a11 0))) 2 rfl rfl (by kernel_rfl) rfl trivial rfl (fun w_ K_ h_ => OpW.fieldAddr (off := 0) field_93_0 rfl h_) ?_
      obtain ⟨x13, h1, h⟩ := h
      refine DL.takeK (listed' := #[true, true, true, true, false, false, false, false, false, false]) (v := Sl.v x13) 3 rfl rfl (by kernel_rfl) (by kernel_rfl) rfl trivial rfl hx10 (fun w_ hS_ K_ h_ => OpW.load1 (v := Sl.v x13) one_90 rfl (hS_.cell h1) h_) ?_
      refine DL.takeP (listed' := #[true, true, true, true, true, false, false, false, false, false]) (v := .int .i64 p1) 4 rfl rfl (by kernel_rfl) rfl trivial rfl (fun w_ K_ h_ => OpW.move (v := .int .i64 p1) rfl h_) ?_
      refine DL.takeP (listed' := #[true, true, true, true, true, true, false, false, false, false]) (v := .pointer (some (Addr.add ⟨b5, 0, none⟩ 1))) 5 rfl rfl (by kernel_rfl) rfl trivial rfl (fun w_ K_ h_ => OpW.fieldAddr field_116_1 rfl h_) ?_
      obtain ⟨x14, h1, h2, h⟩ := h
      refine DL.takeK (listed' := #[true, true, true, true, true, true, true, false, false, false]) (v := aggv x14) 6 rfl rfl (by kernel_rfl) (by kernel_rfl) rfl trivial rfl hx10 (fun w_ hS_ K_ h_ => OpW.loadA agg_110 rfl h1 (hS_.at h2) h_) ?_
      obtain ⟨a15_, a15, h1, h2, h3, h4, h⟩ := h
      refine DL.takeP (listed' := #[true, true, true, true, true, true, true, true, false, false]) (v := .pointer (some a15)) 7 rfl rfl (by kernel_rfl) rfl trivial rfl (fun w_ K_ h_ => OpW.indexE (a' := a15) slice_90 rfl rfl h1 h2 h3 h4 h_) ?_
      refine DL.takeP (listed' := #[true, true, true, true, true, true, true, true, true, false]) (v := .pointer (some (Addr.add a15 0))) 8 rfl rfl (by kernel_rfl) rfl trivial rfl (fun w_ K_ h_ => OpW.fieldAddr (off := 0) field_112_0 rfl h_) ?_
      obtain ⟨g_, o_, e_, cur_, ha_, h1, h2, h3, h4, h⟩ := h
      obtain ⟨w17, hw17_⟩ : ∃ w_, w_ = w9.setRow g_ (cur_.toList.take o_ ++ x14 ++ cur_.toList.drop (o_ + List.length x14)).toArray := ⟨_, rfl⟩
      have h := h w17 hw17_
      refine DL.execN (listed' := #[true, true, true, true, true, true, true, true, true, true]) 9 rfl (by kernel_rfl) rfl trivial (OpW.storeAE (cs := x14) size_110 rfl rfl ha_ h1 h2 h3 h4 hw17_ ?_)
      refine ⟨(fun h_ => absurd h_ (by decide)), ?_⟩
      refine DL.done (by kernel_rfl) ?_
      refine CW.seq ?_
      obtain ⟨w18, hw18_⟩ : ∃ w_, w_ = w17.drew := ⟨_, rfl⟩
      have h := h w18 hw18_
      have hx19 : Ext w17 w18 := by rw [hw18_]; exact Ext.drew _
      refine CW.draws (m := 12) (listed := #[false, false, false, false, false, false, false, false, false, false, false, false]) mixed [0, 1, 2, 3, 4, 5, 6, 7, 9, 10] (Ext w17) rfl rfl ?_
      rw [← hw18_]
      refine DL.takeP (listed' := #[true, false, false, false, false, false, false, false, false, false, false, false]) (v := .pointer p0) 0 rfl rfl (by kernel_rfl) rfl trivial rfl (fun w_ K_ h_ => OpW.move (v := .pointer p0) rfl h_) ?_
      refine DL.takeP (listed' := #[true, true, false, false, false, false, false, false, false, false, false, false]) (v := .pointer p0) 1 rfl rfl (by kernel_rfl) rfl trivial rfl (fun w_ K_ h_ => OpW.move (v := .pointer p0) rfl h_) ?_
      obtain ⟨a20, ha21, h⟩ := h
      refine DL.takeP (listed' := #[true, true, true, false, false, false, false, false, false, false, false, false]) (v := .pointer (some a20)) 2 rfl rfl (by kernel_rfl) rfl trivial rfl (fun w_ K_ h_ => OpW.nilCheck (a := a20) (congrArg Value.pointer ha21) h_) ?_
      refine DL.takeP (listed' := #[true, true, true, true, false, false, false, false, false, false, false, false]) (v := .pointer (some (Addr.add a20 1))) 3 rfl rfl (by kernel_rfl) rfl trivial rfl (fun w_ K_ h_ => OpW.fieldAddr field_93_1 rfl h_) ?_
      obtain ⟨x22, h1, h⟩ := h
      refine DL.takeK (listed' := #[true, true, true, true, true, false, false, false, false, false, false, false]) (v := Sl.v x22) 4 rfl rfl (by kernel_rfl) (by kernel_rfl) rfl trivial rfl hx19 (fun w_ hS_ K_ h_ => OpW.load1 (v := Sl.v x22) one_91 rfl (hS_.cell h1) h_) ?_
      obtain ⟨x23, h1, h2, h⟩ := h
      refine DL.takeK (listed' := #[true, true, true, true, true, false, true, false, false, false, false, false]) (v := aggv x23) 6 rfl rfl (by kernel_rfl) (by kernel_rfl) rfl trivial rfl hx19 (fun w_ hS_ K_ h_ => OpW.loadA agg_116 rfl h1 (hS_.at h2) h_) ?_
      obtain ⟨F29, st_5, run_5, h⟩ := h
      obtain ⟨F35, st_7, run_7, h⟩ := h
      refine DL.state (fun ρ_ w38 => ∃ (x24 : Sl) (x25 : Sl), Ext w18 w38 ∧ F29 () x24 w38 ∧ F35 () x25 w38 ∧ ρ_ 0 = .pointer p0 ∧ ρ_ 33 = .pointer p0 ∧ ρ_ 38 = Sl.v x24 ∧ ρ_ 40 = Sl.v x25) 4 #[true, true, true, true, true, true, true, true, false, false, false, false] ?_ ?_
      · rintro ρ_ w38 ⟨x24, x25, hx_1, f_5, f_7, e_0, e_33, e_38, e_40⟩
        have h := h x24 x25 w38 hx_1 f_5 f_7
        have hx39 := Ext.trans hx19 hx_1
        obtain ⟨x40, w41, hr_, h⟩ := h
        refine DL.execS (listed' := #[true, true, true, true, true, true, true, true, true, false, false, false]) 8 rfl (by kernel_rfl) rfl trivial rfl (OpW.appendL (v := Sl.v x40) (by simp only [List.map_cons, List.map_nil, ev, upd, Nat.beq, cond_false, cond_true, e_38, e_40]) hr_ ?_)
        refine ⟨(fun h_ => absurd h_ (by decide)), ?_⟩
        obtain ⟨a42, ha43, h⟩ := h
        refine DL.takeP (listed' := #[true, true, true, true, true, true, true, true, true, true, false, false]) (v := .pointer (some a42)) 9 rfl rfl (by kernel_rfl) rfl trivial rfl (fun w_ K_ h_ => OpW.nilCheck (a := a42) (e_33.trans (congrArg Value.pointer ha43)) h_) ?_
        refine DL.takeP (listed' := #[true, true, true, true, true, true, true, true, true, true, true, false]) (v := .pointer (some (Addr.add a42 1))) 10 rfl rfl (by kernel_rfl) rfl trivial rfl (fun w_ K_ h_ => OpW.fieldAddr field_93_1 rfl h_) ?_
        obtain ⟨u_, h1, h2, h⟩ := h
        obtain ⟨w44, hw44_⟩ : ∃ w_, w_ = w41.setCell (Addr.add a42 1) (Sl.v x40) := ⟨_, rfl⟩
        have h := h w44 hw44_
        refine DL.execN (listed' := #[true, true, true, true, true, true, true, true, true, true, true, true]) 11 rfl (by kernel_rfl) rfl trivial (OpW.store1E (v := Sl.v x40) size_91 rfl rfl rfl h1 h2 hw44_ ?_)
        refine ⟨(fun h_ => absurd h_ (by decide)), ?_⟩
        refine DL.done (by kernel_rfl) ?_
        refine CW.seq ?_
        refine CW.region ?_
        refine RL.opS trivial rfl (OpW.move (v := .pointer p0) e_0 ?_)
        refine RL.opS trivial rfl (OpW.callR (al := [.pointer p0]) Try.func61 fb_61 fn_61 rfl h (fun x45 w46 h => ?_))
        refine RL.opS trivial rfl (OpW.assign (v := .int .i64 x45) rfl ?_)
        refine RL.nil ?_
        refine CW.ret ?_
        exact ret_intro (res1 rfl rfl) ⟨x45, rfl, h⟩
      intro hD_5_7
      refine DL.state (fun ρ_ w47 => ∃ (x24 : Sl), Ext w18 w47 ∧ F29 () x24 w47 ∧ ρ_ 0 = .pointer p0 ∧ ρ_ 33 = .pointer p0 ∧ ρ_ 38 = Sl.v x24 ∧ ρ_ 39 = aggv x23) 5 #[true, true, true, true, true, true, true, false, false, false, false, false] ?_ ?_
      · rintro ρ_ w47 ⟨x24, hx_1, f_5, e_0, e_33, e_38, e_39⟩
        refine DL.branch [7] (by kernel_rfl) rfl ?_
        refine all_cons ?_ (all_nil)
        · clear h
          have h := run_7 () w47 hx_1 trivial
          obtain ⟨hl_, ho_, h⟩ := h
          obtain ⟨b48, hb48_⟩ : ∃ b_, b_ = w47.heap.size := ⟨_, rfl⟩
          obtain ⟨w49, hw49_⟩ : ∃ w_, w_ = w47.alloc (.cells (List.toArray x23) 116) := ⟨_, rfl⟩
          have h := h b48 w49 hb48_ hw49_
          refine DLop.execS (listed' := #[true, true, true, true, true, true, true, true, false, false, false, false]) rfl rfl trivial rfl (OpW.buildSliceE (vs := [(0, aggv x23)]) (cs := x23) (by simp only [List.map_cons, List.map_nil, ev, upd, Nat.beq, cond_false, cond_true, e_39]) (fillOne mkz_91 (by simp) (by decide) (by decide) hl_) hb48_ hw49_ ?_)
          obtain ⟨hx50, f51⟩ := h
          refine ⟨(fun _ hS_ => Ext.trans hS_ hx50), ?_⟩
          exact hD_5_7 _ _ ⟨x24, ⟨some ⟨b48, 0, none⟩, 1, 1⟩, Ext.trans hx_1 hx50, st_5 _ _ _ _ hx50 f_5, f51, e_0, e_33, e_38, rfl⟩

      intro hD_5
      refine DL.state (fun ρ_ w52 => ∃ (x25 : Sl), Ext w18 w52 ∧ F35 () x25 w52 ∧ ρ_ 0 = .pointer p0 ∧ ρ_ 33 = .pointer p0 ∧ ρ_ 37 = Sl.v x22 ∧ ρ_ 40 = Sl.v x25) 5 #[true, true, true, true, true, false, true, true, false, false, false, false] ?_ ?_
      · rintro ρ_ w52 ⟨x25, hx_1, f_7, e_0, e_33, e_37, e_40⟩
        refine DL.branch [5] (by kernel_rfl) rfl ?_
        refine all_cons ?_ (all_nil)
        · clear h
          have h := run_5 () w52 hx_1 trivial
          refine DLop.execS (listed' := #[true, true, true, true, true, true, true, true, false, false, false, false]) rfl rfl trivial rfl (OpW.callR (al := [Sl.v x22]) Try.func60 fb_60 fn_60 (by simp only [List.map_cons, List.map_nil, ev, upd, Nat.beq, cond_false, cond_true, e_37]) h (fun x53 w54 h => ?_))
          obtain ⟨hx55, f56⟩ := h
          refine ⟨(fun _ hS_ => Ext.trans hS_ hx55), ?_⟩
          exact hD_5_7 _ _ ⟨x53, x25, Ext.trans hx_1 hx55, f56, st_7 _ _ _ _ hx55 f_7, e_0, e_33, rfl, e_40⟩

      intro hD_7
      have hx_0 : Ext w18 w18 := Ext.refl _
      refine DL.branch [5, 7] (by kernel_rfl) rfl ?_
      refine all_cons ?_ (all_cons ?_ (all_nil))
      · clear h
        have h := run_5 () w18 hx_0 trivial
        refine DLop.execS (listed' := #[true, true, true, true, true, true, true, false, false, false, false, false]) rfl rfl trivial rfl (OpW.callR (al := [Sl.v x22]) Try.func60 fb_60 fn_60 rfl h (fun x57 w58 h => ?_))
        obtain ⟨hx59, f60⟩ := h
        refine ⟨(fun _ hS_ => Ext.trans hS_ hx59), ?_⟩
        exact hD_5 _ _ ⟨x57, Ext.trans hx_0 hx59, f60, rfl, rfl, rfl, rfl⟩
      · clear h
        have h := run_7 () w18 hx_0 trivial
        obtain ⟨hl_, ho_, h⟩ := h
        obtain ⟨b61, hb61_⟩ : ∃ b_, b_ = w18.heap.size := ⟨_, rfl⟩
        obtain ⟨w62, hw62_⟩ : ∃ w_, w_ = w18.alloc (.cells (List.toArray x23) 116) := ⟨_, rfl⟩
        have h := h b61 w62 hb61_ hw62_
        refine DLop.execS (listed' := #[true, true, true, true, true, false, true, true, false, false, false, false]) rfl rfl trivial rfl (OpW.buildSliceE (vs := [(0, aggv x23)]) (cs := x23) (by rfl) (fillOne mkz_91 (by simp) (by decide) (by decide) hl_) hb61_ hw62_ ?_)
        obtain ⟨hx63, f64⟩ := h
        refine ⟨(fun _ hS_ => Ext.trans hS_ hx63), ?_⟩
        exact hD_7 _ _ ⟨⟨some ⟨b61, 0, none⟩, 1, 1⟩, Ext.trans hx_0 hx63, f64, rfl, rfl, rfl, rfl⟩

end Go.Proofs.Ytagkcbbbdlmcjaa
