/- The typed readings of the functions, and that the program meets each: written by gen.py (a program of this session). -/
import Derived.Test.YtagkcbbbdlmcjaaLiftDraw
import Derived.Test.YtagkcbbbdlmcjaaRead
set_option linter.unusedVariables false
set_option linter.unusedSimpArgs false
namespace Go.Proofs.Ytagkcbbbdlmcjaa
open Go.Lift
set_option maxRecDepth 100000 in
set_option maxHeartbeats 4000000 in
theorem s35_calls (K : Unit → World → Prop) (p0 : Option Addr) (p1 : List Value) (w : World) (h : s35 K p0 p1 w) :
    Calls Try.prog 35 #[.pointer p0, aggv p1] w (Ret r35 K) := by
  unfold s35 at h
  refine calls_of_CW (n := 95) Try.func35 rfl rfl rfl ?_
  refine CW.seq ?_
  refine CW.region ?_
  obtain ⟨b1, hb1_⟩ : ∃ b_, b_ = w.heap.size := ⟨_, rfl⟩
  obtain ⟨w2, hw2_⟩ : ∃ w_, w_ = w.alloc (.cells (List.toArray p1) 27) := ⟨_, rfl⟩
  have h := h b1 w2 hb1_ hw2_
  refine RL.opS trivial rfl (OpW.boxE (cs := p1) (rfl) hb1_ hw2_ ?_)
  refine RL.nil ?_
  refine CW.seq ?_
  refine CW.seq ?_
  refine CW.region ?_
  refine RL.opS trivial rfl (OpW.move (v := .pointer p0) rfl ?_)
  refine RL.opS trivial rfl (OpW.callR (al := [.pointer p0]) Try.func38 fb_38 fn_38 rfl h (fun x3 w4 h => ?_))
  refine RL.nil ?_
  obtain ⟨ha, hc⟩ := h
  refine CW.cond (b := x3) rfl (fun hb5 => ?_) (fun hb5 => ?_)
  · have h := ha hb5; clear ha hc
    refine CW.ret ?_
    exact ret_intro (res0 rfl) ⟨(), rfl, h⟩
  · have h := hc hb5; clear ha hc
    refine CW.skip ?_
    refine CW.seq ?_
    refine CW.region ?_
    refine RL.opS trivial rfl (OpW.move (v := .pointer p0) rfl ?_)
    obtain ⟨a6, ha7, h⟩ := h
    refine RL.opS trivial rfl (OpW.nilCheck (a := a6) (congrArg Value.pointer ha7) ?_)
    refine RL.opS trivial rfl (OpW.fieldAddr field_93_1 rfl ?_)
    obtain ⟨x8, h1, h⟩ := h
    refine RL.opS trivial rfl (OpW.load1 (v := Sl.v x8) one_91 rfl h1 ?_)
    refine RL.opS trivial rfl (OpW.len (s := x8) slice_91 rfl ?_)
    refine RL.opS trivial rfl (OpW.bin (k := .i64) (a := (x8.len : Int)) (b := 1) (v := .int .i64 (IntKind.i64.wrap ((x8.len : Int) - 1))) rfl rfl rfl ?_)
    refine RL.opS trivial rfl (OpW.assign (v := .int .i64 (IntKind.i64.wrap ((x8.len : Int) - 1))) rfl ?_)
    refine RL.nil ?_
    refine CW.seq ?_
    refine CW.seq ?_
    refine CW.region ?_
    refine RL.opS trivial rfl (OpW.move (v := .pointer p0) rfl ?_)
    obtain ⟨a9, ha10, h⟩ := h
    refine RL.opS trivial rfl (OpW.nilCheck (a := a9) (congrArg Value.pointer ha10) ?_)
    refine RL.opS trivial rfl (OpW.fieldAddr field_93_1 rfl ?_)
    obtain ⟨x11, h1, h⟩ := h
    refine RL.opS trivial rfl (OpW.load1 (v := Sl.v x11) one_91 rfl h1 ?_)
    refine RL.opS trivial rfl (OpW.len (s := x11) slice_91 rfl ?_)
    refine RL.opS trivial rfl (OpW.move (v := .int .i64 0) rfl ?_)
    refine RL.nil ?_
    refine CW.block ?_
    obtain ⟨I104, mu105, hI, hs⟩ := h
    refine CW.loop (σ := Int) (fun s12 ρ => ρ 22 = .int .i64 s12 ∧ ρ 0 = .pointer p0 ∧ ρ 3 = .pointer (some ⟨b1, 0, none⟩) ∧ ρ 4 = .int .i64 (IntKind.i64.wrap ((x8.len : Int) - 1)) ∧ ρ 20 = Sl.v x11 ∧ ρ 21 = .int .i64 (x11.len : Int)) I104 mu105 0 ⟨rfl, rfl, rfl, rfl, rfl, rfl⟩ hI ?_
    rintro s12 ρ w13 ⟨e15, e16, e17, e18, e19, e20⟩ hI
    have h := hs s12 w13 hI
    clear hs hI
    refine CW.seq ?_
    refine CW.region ?_
    refine RL.opS trivial rfl (OpW.bin (k := .i64) (a := s12) (b := (x11.len : Int)) (v := .bool (decide (s12 < (x11.len : Int)))) e15 e20 rfl ?_)
    refine RL.nil ?_
    refine CW.seq ?_
    obtain ⟨ha, hc⟩ := h
    refine CW.cond (b := (decide (s12 < (x11.len : Int)))) rfl (fun hb21 => ?_) (fun hb21 => ?_)
    · have h := ha hb21; clear ha hc
      refine CW.skip ?_
      refine jn_elim h ?_; clear h; intro k70 hk71 h
      refine CW.seqJ (A := Unit) (fun s62 ρ => ρ 0 = .pointer p0 ∧ ρ 3 = .pointer (some ⟨b1, 0, none⟩) ∧ ρ 4 = .int .i64 (IntKind.i64.wrap ((x8.len : Int) - 1)) ∧ ρ 20 = Sl.v x11 ∧ ρ 21 = .int .i64 (x11.len : Int) ∧ ρ 22 = .int .i64 s12) k70 ?_ ?_
      · rintro s62 ρ w63 ⟨e64, e65, e66, e67, e68, e69⟩ h
        subst hk71
        refine CW.region ?_
        refine RL.opS trivial rfl (OpW.bin (k := .i64) (a := s12) (b := 1) (v := .int .i64 (IntKind.i64.wrap (s12 + 1))) e69 rfl rfl ?_)
        refine RL.opS trivial rfl (OpW.move (v := .int .i64 (IntKind.i64.wrap (s12 + 1))) rfl ?_)
        refine RL.nil ?_
        exact ⟨(IntKind.i64.wrap (s12 + 1)), ⟨rfl, e64, e65, e66, e67, e68⟩, h⟩
      · clear hk71
        refine CW.block ?_
        refine CW.seq ?_
        refine CW.region ?_
        refine RL.opS trivial rfl (OpW.move (v := .int .i64 s12) e15 ?_)
        obtain ⟨a23_, a23, h1, h2, h3, h4, h⟩ := h
        refine RL.opS trivial rfl (OpW.indexE (a' := a23) slice_91 e19 e15 h1 h2 h3 h4 ?_)
        obtain ⟨x25, h1, h2, h⟩ := h
        refine RL.opS trivial rfl (OpW.loadA agg_116 rfl h1 h2 ?_)
        obtain ⟨hl_b26, ho_b26, h⟩ := h
        obtain ⟨b26, hb26_⟩ : ∃ b_, b_ = w13.heap.size := ⟨_, rfl⟩
        obtain ⟨w27, hw27_⟩ : ∃ w_, w_ = w13.alloc (.cells (List.toArray x25) 116) := ⟨_, rfl⟩
        have h := h b26 w27 hb26_ hw27_
        refine RL.opS trivial rfl (OpW.allocZ (b := b26) zero_116 hb26_ ?_)
        refine RL.opS trivial rfl (OpW.assign (v := .int .i64 s12) rfl ?_)
        refine RL.opN trivial (OpW.storeF (zs := ([Value.int .i64 0] ++ List.replicate 512 (Value.int .u8 0))) (cs := x25) size_116 rfl rfl hl_b26 (by decide) ho_b26 hb26_ hw27_ ?_)
        refine RL.nil ?_
        refine CW.seq ?_
        obtain ⟨w28, hw28_⟩ : ∃ w_, w_ = w27.drew := ⟨_, rfl⟩
        have h := h w28 hw28_
        have hx29 : Ext w27 w28 := by rw [hw28_]; exact Ext.drew _
        refine CW.draws (m := 9) (listed := #[false, false, false, false, false, false, false, false, false]) mixed [0, 1, 2, 3, 4, 5, 6, 7, 8] (Ext w27) rfl rfl ?_
        rw [← hw28_]
        refine DL.takeP (listed' := #[true, false, false, false, false, false, false, false, false]) (v := .pointer p0) 0 rfl rfl (by kernel_rfl) rfl trivial rfl (fun w_ K_ h_ => OpW.move (v := .pointer p0) e16 h_) ?_
        obtain ⟨a30, ha31, h⟩ := h
        refine DL.takeP (listed' := #[true, true, false, false, false, false, false, false, false]) (v := .pointer (some a30)) 1 rfl rfl (by kernel_rfl) rfl trivial rfl (fun w_ K_ h_ => OpW.nilCheck (a := a30) (congrArg Value.pointer ha31) h_) ?_
        refine DL.takeP (listed' := #[true, true, true, false, false, false, false, false, false]) (v := .pointer (some (Addr.add a30 0))) 2 rfl rfl (by kernel_rfl) rfl trivial rfl (fun w_ K_ h_ => OpW.fieldAddr (off := 0) field_93_0 rfl h_) ?_
        obtain ⟨x32, h1, h⟩ := h
        refine DL.takeK (listed' := #[true, true, true, true, false, false, false, false, false]) (v := Sl.v x32) 3 rfl rfl (by kernel_rfl) (by kernel_rfl) rfl trivial rfl hx29 (fun w_ hS_ K_ h_ => OpW.load1 (v := Sl.v x32) one_90 rfl (hS_.cell h1) h_) ?_
        refine DL.takeP (listed' := #[true, true, true, true, true, false, false, false, false]) (v := .pointer (some (Addr.add ⟨b26, 0, none⟩ 0))) 4 rfl rfl (by kernel_rfl) rfl trivial rfl (fun w_ K_ h_ => OpW.fieldAddr (off := 0) field_116_0 rfl h_) ?_
        obtain ⟨x33, h1, h⟩ := h
        refine DL.takeK (listed' := #[true, true, true, true, true, true, false, false, false]) (v := .int .i64 x33) 5 rfl rfl (by kernel_rfl) (by kernel_rfl) rfl trivial rfl hx29 (fun w_ hS_ K_ h_ => OpW.load1 (v := .int .i64 x33) one_3 rfl (hS_.cell h1) h_) ?_
        obtain ⟨a34_, a34, h1, h2, h3, h4, h⟩ := h
        refine DL.takeP (listed' := #[true, true, true, true, true, true, true, false, false]) (v := .pointer (some a34)) 6 rfl rfl (by kernel_rfl) rfl trivial rfl (fun w_ K_ h_ => OpW.indexE (a' := a34) slice_90 rfl rfl h1 h2 h3 h4 h_) ?_
        refine DL.takeP (listed' := #[true, true, true, true, true, true, true, true, false]) (v := .pointer (some (Addr.add a34 512))) 7 rfl rfl (by kernel_rfl) rfl trivial rfl (fun w_ K_ h_ => OpW.fieldAddr field_112_1 rfl h_) ?_
        refine DL.takeP (listed' := #[true, true, true, true, true, true, true, true, true]) (v := .pointer (some (Addr.add a34 512))) 8 rfl rfl (by kernel_rfl) rfl trivial rfl (fun w_ K_ h_ => OpW.assign (v := .pointer (some (Addr.add a34 512))) rfl h_) ?_
        refine DL.done (by kernel_rfl) ?_
        refine CW.block ?_
        refine CW.seq ?_
        refine CW.region ?_
        refine RL.opS trivial rfl (OpW.move (v := .int .i64 s12) rfl ?_)
        refine RL.opS trivial rfl (OpW.bin (k := .i64) (a := s12) (b := 64) (v := .bool (decide (s12 < 64))) rfl rfl rfl ?_)
        refine RL.opS trivial rfl (OpW.move (v := .bool (decide (s12 < 64))) rfl ?_)
        refine jn_elim h ?_; clear h; intro k60 hk61 h
        refine RL.joinAt (A := Bool) 7 (fun s39 ρ => ρ 45 = .bool s39 ∧ ρ 0 = .pointer p0 ∧ ρ 3 = .pointer (some ⟨b1, 0, none⟩) ∧ ρ 4 = .int .i64 (IntKind.i64.wrap ((x8.len : Int) - 1)) ∧ ρ 5 = .int .i64 s12 ∧ ρ 6 = .pointer (some ⟨b26, 0, none⟩) ∧ ρ 7 = .pointer (some (Addr.add a34 512)) ∧ ρ 20 = Sl.v x11 ∧ ρ 21 = .int .i64 (x11.len : Int) ∧ ρ 22 = .int .i64 s12) k60 ?_ ?_
        · rintro s39 ρ w40 ⟨e41, e42, e43, e44, e45, e46, e47, e48, e49, e50⟩ h
          subst hk61
          dsimp only [List.drop]
          refine RL.opS trivial rfl (OpW.assign (v := .bool s39) e41 ?_)
          refine RL.nil ?_
          obtain ⟨ha, hc⟩ := h
          refine CW.cond (b := s39) rfl (fun hb51 => ?_) (fun hb51 => ?_)
          · have h := ha hb51; clear ha hc
            refine CW.region ?_
            refine RL.opS trivial rfl (OpW.move (v := .pointer (some (Addr.add a34 512))) e47 ?_)
            refine RL.opS trivial rfl (OpW.fieldAddr field_116_1 e46 ?_)
            obtain ⟨x52, h1, h2, h⟩ := h
            refine RL.opS trivial rfl (OpW.loadA agg_110 rfl h1 h2 ?_)
            refine RL.opS trivial rfl (OpW.nilCheck rfl ?_)
            obtain ⟨g_, o_, e_, cur_, ha_, h1, h2, h3, h4, h⟩ := h
            obtain ⟨w53, hw53_⟩ : ∃ w_, w_ = w40.setRow g_ (cur_.toList.take o_ ++ x52 ++ cur_.toList.drop (o_ + List.length x52)).toArray := ⟨_, rfl⟩
            have h := h w53 hw53_
            refine RL.opN trivial (OpW.storeAE (cs := x52) size_110 rfl rfl ha_ h1 h2 h3 h4 hw53_ ?_)
            refine RL.nil ?_
            exact ⟨(), ⟨e42, e43, e44, e48, e49, e50⟩, h⟩
          · have h := hc hb51; clear ha hc
            refine CW.seq ?_
            refine CW.region ?_
            refine RL.opS trivial rfl (OpW.move (v := .int .i64 s12) e45 ?_)
            refine RL.opS trivial rfl (OpW.move (v := .int .i64 (IntKind.i64.wrap ((x8.len : Int) - 1))) e44 ?_)
            refine RL.opS trivial rfl (OpW.bin (k := .i64) (a := s12) (b := (IntKind.i64.wrap ((x8.len : Int) - 1))) (v := .bool (decide (s12 = (IntKind.i64.wrap ((x8.len : Int) - 1))))) rfl rfl rfl ?_)
            refine RL.opS trivial rfl (OpW.assign (v := .bool (decide (s12 = (IntKind.i64.wrap ((x8.len : Int) - 1))))) rfl ?_)
            refine RL.nil ?_
            obtain ⟨ha, hc⟩ := h
            refine CW.cond (b := (decide (s12 = (IntKind.i64.wrap ((x8.len : Int) - 1))))) rfl (fun hb54 => ?_) (fun hb54 => ?_)
            · have h := ha hb54; clear ha hc
              obtain ⟨w55, hw55_⟩ : ∃ w_, w_ = w40.drew := ⟨_, rfl⟩
              have h := h w55 hw55_
              have hx56 : Ext w40 w55 := by rw [hw55_]; exact Ext.drew _
              refine CW.draws (m := 10) (listed := #[false, false, false, false, false, false, false, false, false, false]) mixed [0, 1, 2, 3, 4, 5, 6, 7, 8] (Ext w40) rfl rfl ?_
              rw [← hw55_]
              refine DL.takeP (listed' := #[true, false, false, false, false, false, false, false, false, false]) (v := .pointer (some (Addr.add a34 512))) 0 rfl rfl (by kernel_rfl) rfl trivial rfl (fun w_ K_ h_ => OpW.move (v := .pointer (some (Addr.add a34 512))) e47 h_) ?_
              refine DL.takeP (listed' := #[true, true, false, false, false, false, false, false, false, false]) (v := .pointer (some (Addr.add a34 512))) 1 rfl rfl (by kernel_rfl) rfl trivial rfl (fun w_ K_ h_ => OpW.nilCheck rfl h_) ?_
              refine DL.takeP (listed' := #[true, true, true, false, false, false, false, false, false, false]) (v := .pointer (some (Addr.add ⟨b1, 0, none⟩ 2))) 2 rfl rfl (by kernel_rfl) rfl trivial rfl (fun w_ K_ h_ => OpW.fieldAddr field_27_2 e43 h_) ?_
              obtain ⟨x57, h1, h⟩ := h
              refine DL.takeK (listed' := #[true, true, true, true, false, false, false, false, false, false]) (v := .int .i64 x57) 3 rfl rfl (by kernel_rfl) (by kernel_rfl) rfl trivial rfl hx56 (fun w_ hS_ K_ h_ => OpW.load1 (v := .int .i64 x57) one_3 rfl (hS_.cell h1) h_) ?_
              refine DL.takeP (listed' := #[true, true, true, true, true, false, false, false, false, false]) (v := .int .i64 (mn x57 512)) 4 rfl rfl (by kernel_rfl) rfl trivial rfl (fun w_ K_ h_ => OpW.min2 (a := x57) (b := 512) rfl rfl h_) ?_
              refine DL.takeP (listed' := #[true, true, true, true, true, true, false, false, false, false]) (v := .int .i64 (mx 0 (mn x57 512))) 5 rfl rfl (by kernel_rfl) rfl trivial rfl (fun w_ K_ h_ => OpW.max2 (a := 0) (b := (mn x57 512)) rfl rfl h_) ?_
              obtain ⟨⟨h1, h2, h3⟩, h⟩ := h
              refine DL.takeP (listed' := #[true, true, true, true, true, true, true, false, false, false]) (v := Sl.v (Sl.cut ⟨some (Addr.add a34 512), 512, 512⟩ 1 0 (mx 0 (mn x57 512)) 512)) 6 rfl rfl (by kernel_rfl) rfl trivial rfl (fun w_ K_ h_ => OpW.sliceArr (l := 0) (h := (mx 0 (mn x57 512))) arr_110 rfl rfl ⟨_, rfl⟩ h1 h2 h3 h_) ?_
              refine DL.takeP (listed' := #[true, true, true, true, true, true, true, true, false, false]) (v := .pointer (some (Addr.add ⟨b26, 0, none⟩ 1))) 7 rfl rfl (by kernel_rfl) rfl trivial rfl (fun w_ K_ h_ => OpW.fieldAddr field_116_1 e46 h_) ?_
              refine DL.takeP (listed' := #[true, true, true, true, true, true, true, true, true, false]) (v := Sl.v (Sl.cut ⟨some (Addr.add ⟨b26, 0, none⟩ 1), 512, 512⟩ 1 0 512 512)) 8 rfl rfl (by kernel_rfl) rfl trivial rfl (fun w_ K_ h_ => OpW.sliceArr (l := 0) (h := 512) arr_110 rfl rfl rfl (by decide) (by decide) (by decide) h_) ?_
              obtain ⟨x58, w59, hr_, h⟩ := h
              refine DL.execS (listed' := #[true, true, true, true, true, true, true, true, true, true]) 9 rfl (by kernel_rfl) rfl trivial rfl (OpW.copyL (v := .int .i64 x58) rfl hr_ ?_)
              refine ⟨(fun h_ => absurd h_ (by decide)), ?_⟩
              refine DL.done (by kernel_rfl) ?_
              exact ⟨(), ⟨e42, e43, e44, e48, e49, e50⟩, h⟩
            · have h := hc hb54; clear ha hc
              refine CW.skip ?_
              exact ⟨(), ⟨e42, e43, e44, e48, e49, e50⟩, h⟩
        · clear hk61
          dsimp only [List.take]
          obtain ⟨ha, hc⟩ := h
          rcases Bool.eq_false_or_eq_true (decide (s12 < 64)) with hb36 | hb36
          · have h := ha hb36; clear ha hc
            refine RL.opS (wanted_of rfl rfl hb36) rfl (OpW.fieldAddr field_27_1 e17 ?_)
            obtain ⟨x38, h1, h⟩ := h
            refine RL.opS (wanted_of rfl rfl hb36) rfl (OpW.load1 (v := .int .u64 x38) one_25 rfl h1 ?_)
            refine RL.opS (wanted_of rfl rfl hb36) rfl (OpW.move (v := .int .i64 s12) rfl ?_)
            obtain ⟨hq_, h⟩ := h
            refine RL.opS (wanted_of rfl rfl hb36) rfl (OpW.shift (a := x38) (b := s12) (v := .int .u64 (shrI .u64 x38 s12)) rfl rfl hq_ rfl ?_)
            refine RL.opS (wanted_of rfl rfl hb36) rfl (OpW.bin (k := .u64) (a := (shrI .u64 x38 s12)) (b := 1) (v := .int .u64 (andI .u64 (shrI .u64 x38 s12) 1)) rfl rfl rfl ?_)
            refine RL.opS (wanted_of rfl rfl hb36) rfl (OpW.bin (k := .u64) (a := (andI .u64 (shrI .u64 x38 s12) 1)) (b := 1) (v := .bool (decide ((andI .u64 (shrI .u64 x38 s12) 1) = 1))) rfl rfl rfl ?_)
            refine RL.opS trivial rfl (OpW.pick (b := true) (v := .bool (decide ((andI .u64 (shrI .u64 x38 s12) 1) = 1))) (congrArg Value.bool hb36) rfl ?_)
            refine RL.nil ?_
            exact ⟨(decide ((andI .u64 (shrI .u64 x38 s12) 1) = 1)), ⟨rfl, e16, e17, e18, rfl, rfl, rfl, e19, e20, e15⟩, h⟩
          · have h := hc hb36; clear ha hc
            refine RL.skipS (notWanted_of rfl rfl hb36) rfl ?_
            refine RL.skipS (notWanted_of rfl rfl hb36) rfl ?_
            refine RL.skipS (notWanted_of rfl rfl hb36) rfl ?_
            refine RL.skipS (notWanted_of rfl rfl hb36) rfl ?_
            refine RL.skipS (notWanted_of rfl rfl hb36) rfl ?_
            refine RL.skipS (notWanted_of rfl rfl hb36) rfl ?_
            refine RL.opS trivial rfl (OpW.pick (b := false) (v := .bool false) (congrArg Value.bool hb36) rfl ?_)
            refine RL.nil ?_
            exact ⟨false, ⟨rfl, e16, e17, e18, rfl, rfl, rfl, e19, e20, e15⟩, h⟩
    · have h := hc hb21; clear ha hc
      refine CW.exit ?_
      refine CW.seq ?_
      refine CW.seq ?_
      refine CW.region ?_
      refine RL.opS trivial rfl (OpW.move (v := .pointer p0) e16 ?_)
      obtain ⟨a72, ha73, h⟩ := h
      refine RL.opS trivial rfl (OpW.nilCheck (a := a72) (congrArg Value.pointer ha73) ?_)
      refine RL.opS trivial rfl (OpW.fieldAddr (off := 0) field_93_0 rfl ?_)
      obtain ⟨x74, h1, h⟩ := h
      refine RL.opS trivial rfl (OpW.load1 (v := Sl.v x74) one_90 rfl h1 ?_)
      refine RL.opS trivial rfl (OpW.len (s := x74) slice_90 rfl ?_)
      refine RL.opS trivial rfl (OpW.move (v := .int .i64 0) rfl ?_)
      refine RL.nil ?_
      refine CW.block ?_
      obtain ⟨I102, mu103, hI, hs⟩ := h
      refine CW.loop (σ := Int) (fun s75 ρ => ρ 70 = .int .i64 s75 ∧ ρ 0 = .pointer p0 ∧ ρ 69 = .int .i64 (x74.len : Int)) I102 mu103 0 ⟨rfl, e16, rfl⟩ hI ?_
      rintro s75 ρ w76 ⟨e78, e79, e80⟩ hI
      have h := hs s75 w76 hI
      clear hs hI
      refine CW.seq ?_
      refine CW.region ?_
      refine RL.opS trivial rfl (OpW.bin (k := .i64) (a := s75) (b := (x74.len : Int)) (v := .bool (decide (s75 < (x74.len : Int)))) e78 e80 rfl ?_)
      refine RL.nil ?_
      refine CW.seq ?_
      obtain ⟨ha, hc⟩ := h
      refine CW.cond (b := (decide (s75 < (x74.len : Int)))) rfl (fun hb81 => ?_) (fun hb81 => ?_)
      · have h := ha hb81; clear ha hc
        refine CW.skip ?_
        refine CW.seq ?_
        refine CW.block ?_
        refine CW.seq ?_
        refine CW.region ?_
        refine RL.opS trivial rfl (OpW.move (v := .int .i64 s75) e78 ?_)
        refine RL.opS trivial rfl (OpW.assign (v := .int .i64 s75) rfl ?_)
        refine RL.nil ?_
        obtain ⟨w82, hw82_⟩ : ∃ w_, w_ = w76.drew := ⟨_, rfl⟩
        have h := h w82 hw82_
        have hx83 : Ext w76 w82 := by rw [hw82_]; exact Ext.drew _
        refine CW.draws (m := 16) (listed := #[false, false, false, false, false, false, false, false, false, false, false, false, false, false, false, false]) mixed [0, 1, 2, 3, 4, 5, 6, 7, 8, 9, 10, 11, 12, 13, 14] (Ext w76) rfl rfl ?_
        rw [← hw82_]
        refine DL.takeP (listed' := #[true, false, false, false, false, false, false, false, false, false, false, false, false, false, false, false]) (v := .pointer p0) 0 rfl rfl (by kernel_rfl) rfl trivial rfl (fun w_ K_ h_ => OpW.move (v := .pointer p0) e79 h_) ?_
        obtain ⟨a84, ha85, h⟩ := h
        refine DL.takeP (listed' := #[true, true, false, false, false, false, false, false, false, false, false, false, false, false, false, false]) (v := .pointer (some a84)) 1 rfl rfl (by kernel_rfl) rfl trivial rfl (fun w_ K_ h_ => OpW.nilCheck (a := a84) (congrArg Value.pointer ha85) h_) ?_
        refine DL.takeP (listed' := #[true, true, true, false, false, false, false, false, false, false, false, false, false, false, false, false]) (v := .pointer (some (Addr.add a84 0))) 2 rfl rfl (by kernel_rfl) rfl trivial rfl (fun w_ K_ h_ => OpW.fieldAddr (off := 0) field_93_0 rfl h_) ?_
        obtain ⟨x86, h1, h⟩ := h
        refine DL.takeK (listed' := #[true, true, true, true, false, false, false, false, false, false, false, false, false, false, false, false]) (v := Sl.v x86) 3 rfl rfl (by kernel_rfl) (by kernel_rfl) rfl trivial rfl hx83 (fun w_ hS_ K_ h_ => OpW.load1 (v := Sl.v x86) one_90 rfl (hS_.cell h1) h_) ?_
        refine DL.takeP (listed' := #[true, true, true, true, true, false, false, false, false, false, false, false, false, false, false, false]) (v := .int .i64 s75) 4 rfl rfl (by kernel_rfl) rfl trivial rfl (fun w_ K_ h_ => OpW.move (v := .int .i64 s75) rfl h_) ?_
        refine DL.takeP (listed' := #[true, true, true, true, true, true, false, false, false, false, false, false, false, false, false, false]) (v := .pointer p0) 5 rfl rfl (by kernel_rfl) rfl trivial rfl (fun w_ K_ h_ => OpW.move (v := .pointer p0) e79 h_) ?_
        obtain ⟨a87, ha88, h⟩ := h
        refine DL.takeP (listed' := #[true, true, true, true, true, true, true, false, false, false, false, false, false, false, false, false]) (v := .pointer (some a87)) 6 rfl rfl (by kernel_rfl) rfl trivial rfl (fun w_ K_ h_ => OpW.nilCheck (a := a87) (congrArg Value.pointer ha88) h_) ?_
        refine DL.takeP (listed' := #[true, true, true, true, true, true, true, true, false, false, false, false, false, false, false, false]) (v := .pointer (some (Addr.add a87 0))) 7 rfl rfl (by kernel_rfl) rfl trivial rfl (fun w_ K_ h_ => OpW.fieldAddr (off := 0) field_93_0 rfl h_) ?_
        obtain ⟨x89, h1, h⟩ := h
        refine DL.takeK (listed' := #[true, true, true, true, true, true, true, true, true, false, false, false, false, false, false, false]) (v := Sl.v x89) 8 rfl rfl (by kernel_rfl) (by kernel_rfl) rfl trivial rfl hx83 (fun w_ hS_ K_ h_ => OpW.load1 (v := Sl.v x89) one_90 rfl (hS_.cell h1) h_) ?_
        refine DL.takeP (listed' := #[true, true, true, true, true, true, true, true, true, true, false, false, false, false, false, false]) (v := .int .i64 s75) 9 rfl rfl (by kernel_rfl) rfl trivial rfl (fun w_ K_ h_ => OpW.move (v := .int .i64 s75) rfl h_) ?_
        obtain ⟨a90_, a90, h1, h2, h3, h4, h⟩ := h
        refine DL.takeP (listed' := #[true, true, true, true, true, true, true, true, true, true, true, false, false, false, false, false]) (v := .pointer (some a90)) 10 rfl rfl (by kernel_rfl) rfl trivial rfl (fun w_ K_ h_ => OpW.indexE (a' := a90) slice_90 rfl rfl h1 h2 h3 h4 h_) ?_
        refine DL.takeP (listed' := #[true, true, true, true, true, true, true, true, true, true, true, true, false, false, false, false]) (v := .pointer (some (Addr.add a90 512))) 11 rfl rfl (by kernel_rfl) rfl trivial rfl (fun w_ K_ h_ => OpW.fieldAddr field_112_1 rfl h_) ?_
        obtain ⟨x92, h1, h2, h⟩ := h
        refine DL.takeK (listed' := #[true, true, true, true, true, true, true, true, true, true, true, true, true, false, false, false]) (v := aggv x92) 12 rfl rfl (by kernel_rfl) (by kernel_rfl) rfl trivial rfl hx83 (fun w_ hS_ K_ h_ => OpW.loadA agg_110 rfl h1 (hS_.at h2) h_) ?_
        obtain ⟨a93_, a93, h1, h2, h3, h4, h⟩ := h
        refine DL.takeP (listed' := #[true, true, true, true, true, true, true, true, true, true, true, true, true, true, false, false]) (v := .pointer (some a93)) 13 rfl rfl (by kernel_rfl) rfl trivial rfl (fun w_ K_ h_ => OpW.indexE (a' := a93) slice_90 rfl rfl h1 h2 h3 h4 h_) ?_
        refine DL.takeP (listed' := #[true, true, true, true, true, true, true, true, true, true, true, true, true, true, true, false]) (v := .pointer (some (Addr.add a93 0))) 14 rfl rfl (by kernel_rfl) rfl trivial rfl (fun w_ K_ h_ => OpW.fieldAddr (off := 0) field_112_0 rfl h_) ?_
        obtain ⟨g_, o_, e_, cur_, ha_, h1, h2, h3, h4, h⟩ := h
        obtain ⟨w95, hw95_⟩ : ∃ w_, w_ = w82.setRow g_ (cur_.toList.take o_ ++ x92 ++ cur_.toList.drop (o_ + List.length x92)).toArray := ⟨_, rfl⟩
        have h := h w95 hw95_
        refine DL.execN (listed' := #[true, true, true, true, true, true, true, true, true, true, true, true, true, true, true, true]) 15 rfl (by kernel_rfl) rfl trivial (OpW.storeAE (cs := x92) size_110 rfl rfl ha_ h1 h2 h3 h4 hw95_ ?_)
        refine ⟨(fun h_ => absurd h_ (by decide)), ?_⟩
        refine DL.done (by kernel_rfl) ?_
        refine CW.region ?_
        refine RL.opS trivial rfl (OpW.bin (k := .i64) (a := s75) (b := 1) (v := .int .i64 (IntKind.i64.wrap (s75 + 1))) e78 rfl rfl ?_)
        refine RL.opS trivial rfl (OpW.move (v := .int .i64 (IntKind.i64.wrap (s75 + 1))) rfl ?_)
        refine RL.nil ?_
        exact ⟨(IntKind.i64.wrap (s75 + 1)), ⟨rfl, e79, e80⟩, h⟩
      · have h := hc hb81; clear ha hc
        refine CW.exit ?_
        refine CW.region ?_
        refine RL.opS trivial rfl (OpW.move (v := .pointer p0) e79 ?_)
        refine RL.opS trivial rfl (OpW.move (v := .pointer p0) e79 ?_)
        obtain ⟨a96, ha97, h⟩ := h
        refine RL.opS trivial rfl (OpW.nilCheck (a := a96) (congrArg Value.pointer ha97) ?_)
        refine RL.opS trivial rfl (OpW.fieldAddr field_93_1 rfl ?_)
        obtain ⟨u_, h1, h2, h⟩ := h
        obtain ⟨w98, hw98_⟩ : ∃ w_, w_ = w76.setCell (Addr.add a96 1) (Sl.v nilSl) := ⟨_, rfl⟩
        have h := h w98 hw98_
        refine RL.opN trivial (OpW.store1E (v := Sl.v nilSl) size_91 rfl rfl rfl h1 h2 hw98_ ?_)
        obtain ⟨a99, ha100, h⟩ := h
        refine RL.opS trivial rfl (OpW.nilCheck (a := a99) (congrArg Value.pointer ha100) ?_)
        refine RL.opS trivial rfl (OpW.fieldAddr field_93_4 rfl ?_)
        obtain ⟨u_, h1, h2, h⟩ := h
        obtain ⟨w101, hw101_⟩ : ∃ w_, w_ = w98.setCell (Addr.add a99 4) (.bool true) := ⟨_, rfl⟩
        have h := h w101 hw101_
        refine RL.opN trivial (OpW.store1E (v := .bool true) size_4 rfl rfl rfl h1 h2 hw101_ ?_)
        refine RL.nil ?_
        exact end_intro (res0 rfl) ⟨(), rfl, h⟩
end Go.Proofs.Ytagkcbbbdlmcjaa
