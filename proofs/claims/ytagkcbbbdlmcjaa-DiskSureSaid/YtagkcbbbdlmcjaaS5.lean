/- The typed readings of the functions, and that the program meets each: written by gen.py (a program of this session). -/
import Derived.Test.YtagkcbbbdlmcjaaLiftDraw
import Derived.Test.YtagkcbbbdlmcjaaRead
set_option linter.unusedVariables false
set_option linter.unusedSimpArgs false
namespace Go.Proofs.Ytagkcbbbdlmcjaa
open Go.Lift
set_option maxRecDepth 100000 in
set_option maxHeartbeats 4000000 in
theorem s5_calls (K : Bool → World → Prop) (p0 : Sl) (p1 : Sl) (p2 : List Value) (w : World) (h : s5 K p0 p1 p2 w) :
    Calls Try.prog 5 #[Sl.v p0, Sl.v p1, aggv p2] w (Ret r5 K) := by
  unfold s5 at h
  refine calls_of_CW (n := 133) Try.func5 rfl rfl rfl ?_
  refine CW.seq ?_
  refine CW.region ?_
  obtain ⟨b1, hb1_⟩ : ∃ b_, b_ = w.heap.size := ⟨_, rfl⟩
  obtain ⟨w2, hw2_⟩ : ∃ w_, w_ = w.alloc (.cells (List.toArray p2) 27) := ⟨_, rfl⟩
  have h := h b1 w2 hb1_ hw2_
  refine RL.opS trivial rfl (OpW.boxE (cs := p2) (rfl) hb1_ hw2_ ?_)
  refine RL.opS trivial rfl (OpW.assign (v := .bool false) rfl ?_)
  refine RL.nil ?_
  refine CW.seq ?_
  refine CW.seq ?_
  refine CW.region ?_
  refine RL.opS trivial rfl (OpW.callR (al := []) Try.func30 fb_30 fn_30 rfl h (fun x3 w4 h => ?_))
  refine RL.opS trivial rfl (OpW.not rfl ?_)
  refine RL.opS trivial rfl (OpW.move (v := .bool (!x3)) rfl ?_)
  refine jn_elim h ?_; clear h; intro k171 hk172 h
  refine RL.joinAt (A := Bool) 4 (fun s9 ρ => ρ 28 = .bool s9 ∧ ρ 0 = Sl.v p0 ∧ ρ 1 = Sl.v p1 ∧ ρ 5 = .pointer (some ⟨b1, 0, none⟩)) k171 ?_ ?_
  · rintro s9 ρ w10 ⟨e11, e12, e13, e14⟩ h
    subst hk172
    dsimp only [List.drop]
    refine RL.opS trivial rfl (OpW.move (v := .bool s9) e11 ?_)
    refine jn_elim h ?_; clear h; intro k169 hk170 h
    refine RL.joinAt (A := Bool) 4 (fun s19 ρ => ρ 33 = .bool s19 ∧ ρ 0 = Sl.v p0 ∧ ρ 1 = Sl.v p1 ∧ ρ 5 = .pointer (some ⟨b1, 0, none⟩)) k169 ?_ ?_
    · rintro s19 ρ w20 ⟨e21, e22, e23, e24⟩ h
      subst hk170
      dsimp only [List.drop]
      refine RL.nil ?_
      obtain ⟨ha, hc⟩ := h
      refine CW.cond (b := s19) e21 (fun hb25 => ?_) (fun hb25 => ?_)
      · have h := ha hb25; clear ha hc
        refine CW.seq ?_
        refine CW.region ?_
        refine RL.opS trivial rfl (OpW.callR (al := []) Try.func30 fb_30 fn_30 rfl h (fun x26 w27 h => ?_))
        refine RL.opS trivial rfl (OpW.assign (v := .bool x26) rfl ?_)
        refine RL.nil ?_
        refine CW.ret ?_
        exact ret_intro (res1 rfl rfl) ⟨x26, rfl, h⟩
      · have h := hc hb25; clear ha hc
        refine CW.skip ?_
        refine CW.seq ?_
        refine CW.region ?_
        refine RL.opS trivial rfl (OpW.callR (al := [.int .i64 8]) Try.func15 fb_15 fn_15 rfl h (fun x28 w29 h => ?_))
        refine RL.opS trivial rfl (OpW.move (v := .tuple #[.pointer x28.1, .int .i64 x28.2]) rfl ?_)
        refine RL.opS trivial rfl (OpW.extract (v := .pointer x28.1) rfl rfl ?_)
        refine RL.opS trivial rfl (OpW.extract (v := .int .i64 x28.2) rfl rfl ?_)
        refine RL.opS trivial rfl (OpW.assign (v := .pointer x28.1) rfl ?_)
        refine RL.opS trivial rfl (OpW.assign (v := .int .i64 x28.2) rfl ?_)
        refine RL.nil ?_
        refine CW.seq ?_
        refine CW.region ?_
        obtain ⟨b30, hb30_⟩ : ∃ b_, b_ = w29.heap.size := ⟨_, rfl⟩
        obtain ⟨w31, hw31_⟩ : ∃ w_, w_ = w29.alloc (.cells (List.toArray [str [], str [], str [], str [], str [], str [], str [], str []]) 63) := ⟨_, rfl⟩
        have h := h b30 w31 hb30_ hw31_
        refine RL.opS trivial rfl (OpW.allocE (b := b30) zero_63 hb30_ hw31_ ?_)
        refine RL.nil ?_
        refine CW.seq ?_
        refine CW.seq ?_
        refine CW.region ?_
        refine RL.opS trivial rfl (OpW.move (v := .int .i64 0) rfl ?_)
        refine RL.nil ?_
        refine CW.block ?_
        obtain ⟨I167, mu168, hI, hs⟩ := h
        refine CW.loop (σ := Int) (fun s32 ρ => ρ 39 = .int .i64 s32 ∧ ρ 0 = Sl.v p0 ∧ ρ 1 = Sl.v p1 ∧ ρ 5 = .pointer (some ⟨b1, 0, none⟩) ∧ ρ 7 = .pointer x28.1 ∧ ρ 9 = .pointer (some ⟨b30, 0, none⟩)) I167 mu168 0 ⟨rfl, e22, e23, e24, rfl, rfl⟩ hI ?_
        rintro s32 ρ w33 ⟨e35, e36, e37, e38, e39, e40⟩ hI
        have h := hs s32 w33 hI
        clear hs hI
        refine CW.seq ?_
        refine CW.region ?_
        refine RL.opS trivial rfl (OpW.bin (k := .i64) (a := s32) (b := 8) (v := .bool (decide (s32 < 8))) e35 rfl rfl ?_)
        refine RL.nil ?_
        refine CW.seq ?_
        obtain ⟨ha, hc⟩ := h
        refine CW.cond (b := (decide (s32 < 8))) rfl (fun hb41 => ?_) (fun hb41 => ?_)
        · have h := ha hb41; clear ha hc
          refine CW.skip ?_
          refine CW.seq ?_
          refine CW.block ?_
          refine CW.seq ?_
          refine CW.region ?_
          refine RL.opS trivial rfl (OpW.move (v := .int .i64 s32) e35 ?_)
          refine RL.opS trivial rfl (OpW.assign (v := .int .i64 s32) rfl ?_)
          refine RL.nil ?_
          refine CW.region ?_
          refine RL.opS trivial rfl (OpW.move (v := .int .i64 s32) rfl ?_)
          obtain ⟨h1, h2, h3, h4, h⟩ := h
          obtain ⟨b42, hb42_⟩ : ∃ b_, b_ = w33.heap.size := ⟨_, rfl⟩
          obtain ⟨w43, hw43_⟩ : ∃ w_, w_ = w33.alloc (.cells (List.replicate (Int.toNat 512 * 1) (Value.int .u8 0)).toArray 5) := ⟨_, rfl⟩
          have h := h b42 w43 hb42_ hw43_
          obtain ⟨x44, hx44_⟩ : ∃ s_ : Sl, s_ = ⟨some ⟨b42, 0, none⟩, Int.toNat 512, Int.toNat 512⟩ := ⟨_, rfl⟩
          rw [← hx44_] at h
          refine RL.opS trivial rfl (OpW.makeSliceE mk_39 (by decide) rfl rfl h1 h2 h3 h4 hb42_ hw43_ hx44_ ?_)
          obtain ⟨x45, h1, h2, h⟩ := h
          refine RL.opS trivial rfl (OpW.b2s bsl_39 str_9 rfl h1 h2 ?_)
          obtain ⟨h2, h3, h⟩ := h
          obtain ⟨a46, h4⟩ : ∃ a, a = Addr.add ⟨b30, 0, none⟩ (Int.toNat s32 * 1) := ⟨_, rfl⟩
          have h := h a46 h4
          refine RL.opS trivial rfl (OpW.indexArrE (a' := a46) arr_63 e40 rfl h2 h3 h4 ?_)
          obtain ⟨u_, h1, h2, h⟩ := h
          obtain ⟨w48, hw48_⟩ : ∃ w_, w_ = w43.setCell a46 (str x45) := ⟨_, rfl⟩
          have h := h w48 hw48_
          refine RL.opN trivial (OpW.store1E (v := str x45) size_9 rfl rfl rfl h1 h2 hw48_ ?_)
          refine RL.nil ?_
          refine CW.region ?_
          refine RL.opS trivial rfl (OpW.bin (k := .i64) (a := s32) (b := 1) (v := .int .i64 (IntKind.i64.wrap (s32 + 1))) e35 rfl rfl ?_)
          refine RL.opS trivial rfl (OpW.move (v := .int .i64 (IntKind.i64.wrap (s32 + 1))) rfl ?_)
          refine RL.nil ?_
          exact ⟨(IntKind.i64.wrap (s32 + 1)), ⟨rfl, e36, e37, e38, e39, e40⟩, h⟩
        · have h := hc hb41; clear ha hc
          refine CW.exit ?_
          refine CW.seq ?_
          refine CW.seq ?_
          refine CW.region ?_
          refine RL.opS trivial rfl (OpW.move (v := Sl.v p0) e36 ?_)
          refine RL.opS trivial rfl (OpW.len (s := p0) slice_61 rfl ?_)
          refine RL.opS trivial rfl (OpW.move (v := .int .i64 0) rfl ?_)
          refine RL.nil ?_
          refine CW.block ?_
          obtain ⟨I165, mu166, hI, hs⟩ := h
          refine CW.loop (σ := Int) (fun s49 ρ => ρ 49 = .int .i64 s49 ∧ ρ 1 = Sl.v p1 ∧ ρ 5 = .pointer (some ⟨b1, 0, none⟩) ∧ ρ 7 = .pointer x28.1 ∧ ρ 9 = .pointer (some ⟨b30, 0, none⟩) ∧ ρ 47 = Sl.v p0 ∧ ρ 48 = .int .i64 (p0.len : Int)) I165 mu166 0 ⟨rfl, e37, e38, e39, e40, rfl, rfl⟩ hI ?_
          rintro s49 ρ w50 ⟨e52, e53, e54, e55, e56, e57, e58⟩ hI
          have h := hs s49 w50 hI
          clear hs hI
          refine CW.seq ?_
          refine CW.region ?_
          refine RL.opS trivial rfl (OpW.bin (k := .i64) (a := s49) (b := (p0.len : Int)) (v := .bool (decide (s49 < (p0.len : Int)))) e52 e58 rfl ?_)
          refine RL.nil ?_
          refine CW.seq ?_
          obtain ⟨ha, hc⟩ := h
          refine CW.cond (b := (decide (s49 < (p0.len : Int)))) rfl (fun hb59 => ?_) (fun hb59 => ?_)
          · have h := ha hb59; clear ha hc
            refine CW.skip ?_
            refine CW.seq ?_
            refine CW.block ?_
            refine CW.seq ?_
            refine CW.region ?_
            obtain ⟨a60_, a60, h1, h2, h3, h4, h⟩ := h
            refine RL.opS trivial rfl (OpW.indexE (a' := a60) slice_61 e57 e52 h1 h2 h3 h4 ?_)
            obtain ⟨x62, h1, h2, h⟩ := h
            refine RL.opS trivial rfl (OpW.loadA agg_65 rfl h1 h2 ?_)
            obtain ⟨hl_b63, ho_b63, h⟩ := h
            obtain ⟨b63, hb63_⟩ : ∃ b_, b_ = w50.heap.size := ⟨_, rfl⟩
            obtain ⟨w64, hw64_⟩ : ∃ w_, w_ = w50.alloc (.cells (List.toArray x62) 65) := ⟨_, rfl⟩
            have h := h b63 w64 hb63_ hw64_
            refine RL.opS trivial rfl (OpW.allocZ (b := b63) zero_65 hb63_ ?_)
            refine RL.opN trivial (OpW.storeF (zs := [Value.int .i64 0, Value.int .i64 0, Value.int .u8 0, str [], Value.bool false, Value.int .i64 0, Value.int .u64 0, Value.int .i64 0, Value.slice none 0 0]) (cs := x62) size_65 rfl rfl hl_b63 (by decide) ho_b63 hb63_ hw64_ ?_)
            refine RL.nil ?_
            refine CW.seq ?_
            refine CW.region ?_
            refine RL.opS trivial rfl (OpW.fieldAddr field_65_1 rfl ?_)
            obtain ⟨x65, h1, h⟩ := h
            refine RL.opS trivial rfl (OpW.load1 (v := .int .i64 x65) one_3 rfl h1 ?_)
            refine RL.opS trivial rfl (OpW.convInt (a := x65) int_3 int_66 rfl ?_)
            refine RL.opS trivial rfl (OpW.quo (a := (IntKind.u64.wrap x65)) (b := 8) (v := .int .u64 (Int.tmod (IntKind.u64.wrap x65) 8)) rfl rfl (by decide) rfl ?_)
            refine RL.opS trivial rfl (OpW.convInt (a := (Int.tmod (IntKind.u64.wrap x65) 8)) int_66 int_3 rfl ?_)
            refine RL.opS trivial rfl (OpW.assign (v := .int .i64 (IntKind.i64.wrap (Int.tmod (IntKind.u64.wrap x65) 8))) rfl ?_)
            refine RL.nil ?_
            refine CW.seq ?_
            refine CW.region ?_
            refine RL.opS trivial rfl (OpW.fieldAddr field_65_2 rfl ?_)
            obtain ⟨x66, h1, h⟩ := h
            refine RL.opS trivial rfl (OpW.load1 (v := .int .u8 x66) one_5 rfl h1 ?_)
            refine RL.opS trivial rfl (OpW.fieldAddr field_65_3 rfl ?_)
            obtain ⟨x67, h1, h⟩ := h
            refine RL.opS trivial rfl (OpW.load1 (v := str x67) one_9 rfl h1 ?_)
            refine RL.opS trivial rfl (OpW.callR (al := [.int .u8 x66, str x67]) Try.func32 fb_32 fn_32 rfl h (fun x68 w69 h => ?_))
            refine RL.opS trivial rfl (OpW.assign (v := Sl.v x68) rfl ?_)
            refine RL.nil ?_
            refine CW.seq ?_
            refine CW.seq ?_
            refine CW.region ?_
            refine RL.opS trivial rfl (OpW.move (v := .pointer x28.1) e55 ?_)
            refine RL.opS trivial rfl (OpW.move (v := .int .i64 (IntKind.i64.wrap (Int.tmod (IntKind.u64.wrap x65) 8))) rfl ?_)
            refine RL.opS trivial rfl (OpW.move (v := Sl.v x68) rfl ?_)
            refine RL.opS trivial rfl (OpW.callR (al := [.pointer x28.1, .int .i64 (IntKind.i64.wrap (Int.tmod (IntKind.u64.wrap x65) 8)), Sl.v x68]) Try.func33 fb_33 fn_33 rfl h (fun x70 w71 h => ?_))
            refine RL.opS trivial rfl (OpW.bin (k := .i64) (a := x70) (b := 0) (v := .bool (!decide (x70 = 0))) rfl rfl rfl ?_)
            refine RL.nil ?_
            obtain ⟨ha, hc⟩ := h
            refine CW.cond (b := (!decide (x70 = 0))) rfl (fun hb72 => ?_) (fun hb72 => ?_)
            · have h := ha hb72; clear ha hc
              refine CW.seq ?_
              refine CW.region ?_
              refine RL.opS trivial rfl (OpW.assign (v := .bool false) rfl ?_)
              refine RL.nil ?_
              refine CW.ret ?_
              exact ret_intro (res1 rfl rfl) ⟨false, rfl, h⟩
            · have h := hc hb72; clear ha hc
              refine CW.skip ?_
              refine CW.region ?_
              refine RL.opS trivial rfl (OpW.move (v := .int .i64 (IntKind.i64.wrap (Int.tmod (IntKind.u64.wrap x65) 8))) rfl ?_)
              refine RL.opS trivial rfl (OpW.move (v := Sl.v x68) rfl ?_)
              obtain ⟨x73, h1, h2, h⟩ := h
              refine RL.opS trivial rfl (OpW.b2s bsl_39 str_9 rfl h1 h2 ?_)
              obtain ⟨h2, h3, h⟩ := h
              obtain ⟨a74, h4⟩ : ∃ a, a = Addr.add ⟨b30, 0, none⟩ (Int.toNat (IntKind.i64.wrap (Int.tmod (IntKind.u64.wrap x65) 8)) * 1) := ⟨_, rfl⟩
              have h := h a74 h4
              refine RL.opS trivial rfl (OpW.indexArrE (a' := a74) arr_63 e56 rfl h2 h3 h4 ?_)
              obtain ⟨u_, h1, h2, h⟩ := h
              obtain ⟨w76, hw76_⟩ : ∃ w_, w_ = w71.setCell a74 (str x73) := ⟨_, rfl⟩
              have h := h w76 hw76_
              refine RL.opN trivial (OpW.store1E (v := str x73) size_9 rfl rfl rfl h1 h2 hw76_ ?_)
              refine RL.nil ?_
              refine CW.region ?_
              refine RL.opS trivial rfl (OpW.bin (k := .i64) (a := s49) (b := 1) (v := .int .i64 (IntKind.i64.wrap (s49 + 1))) e52 rfl rfl ?_)
              refine RL.opS trivial rfl (OpW.move (v := .int .i64 (IntKind.i64.wrap (s49 + 1))) rfl ?_)
              refine RL.nil ?_
              exact ⟨(IntKind.i64.wrap (s49 + 1)), ⟨rfl, e53, e54, e55, e56, e57, e58⟩, h⟩
          · have h := hc hb59; clear ha hc
            refine CW.exit ?_
            refine CW.seq ?_
            refine CW.seq ?_
            refine CW.region ?_
            refine RL.opS trivial rfl (OpW.move (v := .pointer x28.1) e55 ?_)
            refine RL.opS trivial rfl (OpW.callR (al := [.pointer x28.1]) Try.func34 fb_34 fn_34 rfl h (fun x77 w78 h => ?_))
            refine RL.opS trivial rfl (OpW.bin (k := .i64) (a := x77) (b := 0) (v := .bool (!decide (x77 = 0))) rfl rfl rfl ?_)
            refine RL.nil ?_
            obtain ⟨ha, hc⟩ := h
            refine CW.cond (b := (!decide (x77 = 0))) rfl (fun hb79 => ?_) (fun hb79 => ?_)
            · have h := ha hb79; clear ha hc
              refine CW.seq ?_
              refine CW.region ?_
              refine RL.opS trivial rfl (OpW.assign (v := .bool false) rfl ?_)
              refine RL.nil ?_
              refine CW.ret ?_
              exact ret_intro (res1 rfl rfl) ⟨false, rfl, h⟩
            · have h := hc hb79; clear ha hc
              refine CW.skip ?_
              refine CW.seq ?_
              refine CW.region ?_
              obtain ⟨b80, hb80_⟩ : ∃ b_, b_ = w78.heap.size := ⟨_, rfl⟩
              obtain ⟨w81, hw81_⟩ : ∃ w_, w_ = w78.alloc (.cells (List.toArray [Value.int .i64 0, Value.int .i64 0, Value.int .i64 0, Value.int .i64 0, Value.int .i64 0, Value.int .i64 0, Value.int .i64 0, Value.int .i64 0]) 69) := ⟨_, rfl⟩
              have h := h b80 w81 hb80_ hw81_
              refine RL.opS trivial rfl (OpW.allocE (b := b80) zero_69 hb80_ hw81_ ?_)
              refine RL.nil ?_
              refine CW.seq ?_
              refine CW.seq ?_
              refine CW.region ?_
              refine RL.opS trivial rfl (OpW.move (v := Sl.v p1) e53 ?_)
              refine RL.opS trivial rfl (OpW.len (s := p1) slice_61 rfl ?_)
              refine RL.opS trivial rfl (OpW.move (v := .int .i64 0) rfl ?_)
              refine RL.nil ?_
              refine CW.block ?_
              obtain ⟨I163, mu164, hI, hs⟩ := h
              refine CW.loop (σ := Int) (fun s82 ρ => ρ 78 = .int .i64 s82 ∧ ρ 5 = .pointer (some ⟨b1, 0, none⟩) ∧ ρ 7 = .pointer x28.1 ∧ ρ 9 = .pointer (some ⟨b30, 0, none⟩) ∧ ρ 15 = .pointer (some ⟨b80, 0, none⟩) ∧ ρ 76 = Sl.v p1 ∧ ρ 77 = .int .i64 (p1.len : Int)) I163 mu164 0 ⟨rfl, e54, e55, e56, rfl, rfl, rfl⟩ hI ?_
              rintro s82 ρ w83 ⟨e85, e86, e87, e88, e89, e90, e91⟩ hI
              have h := hs s82 w83 hI
              clear hs hI
              refine CW.seq ?_
              refine CW.region ?_
              refine RL.opS trivial rfl (OpW.bin (k := .i64) (a := s82) (b := (p1.len : Int)) (v := .bool (decide (s82 < (p1.len : Int)))) e85 e91 rfl ?_)
              refine RL.nil ?_
              refine CW.seq ?_
              obtain ⟨ha, hc⟩ := h
              refine CW.cond (b := (decide (s82 < (p1.len : Int)))) rfl (fun hb92 => ?_) (fun hb92 => ?_)
              · have h := ha hb92; clear ha hc
                refine CW.skip ?_
                refine CW.seq ?_
                refine CW.block ?_
                refine CW.seq ?_
                refine CW.region ?_
                obtain ⟨a93_, a93, h1, h2, h3, h4, h⟩ := h
                refine RL.opS trivial rfl (OpW.indexE (a' := a93) slice_61 e90 e85 h1 h2 h3 h4 ?_)
                obtain ⟨x95, h1, h2, h⟩ := h
                refine RL.opS trivial rfl (OpW.loadA agg_65 rfl h1 h2 ?_)
                obtain ⟨hl_b96, ho_b96, h⟩ := h
                obtain ⟨b96, hb96_⟩ : ∃ b_, b_ = w83.heap.size := ⟨_, rfl⟩
                obtain ⟨w97, hw97_⟩ : ∃ w_, w_ = w83.alloc (.cells (List.toArray x95) 65) := ⟨_, rfl⟩
                have h := h b96 w97 hb96_ hw97_
                refine RL.opS trivial rfl (OpW.allocZ (b := b96) zero_65 hb96_ ?_)
                refine RL.opN trivial (OpW.storeF (zs := [Value.int .i64 0, Value.int .i64 0, Value.int .u8 0, str [], Value.bool false, Value.int .i64 0, Value.int .u64 0, Value.int .i64 0, Value.slice none 0 0]) (cs := x95) size_65 rfl rfl hl_b96 (by decide) ho_b96 hb96_ hw97_ ?_)
                refine RL.nil ?_
                refine CW.seq ?_
                refine CW.region ?_
                refine RL.opS trivial rfl (OpW.fieldAddr field_65_1 rfl ?_)
                obtain ⟨x98, h1, h⟩ := h
                refine RL.opS trivial rfl (OpW.load1 (v := .int .i64 x98) one_3 rfl h1 ?_)
                refine RL.opS trivial rfl (OpW.convInt (a := x98) int_3 int_66 rfl ?_)
                refine RL.opS trivial rfl (OpW.quo (a := (IntKind.u64.wrap x98)) (b := 8) (v := .int .u64 (Int.tmod (IntKind.u64.wrap x98) 8)) rfl rfl (by decide) rfl ?_)
                refine RL.opS trivial rfl (OpW.convInt (a := (Int.tmod (IntKind.u64.wrap x98) 8)) int_66 int_3 rfl ?_)
                refine RL.opS trivial rfl (OpW.assign (v := .int .i64 (IntKind.i64.wrap (Int.tmod (IntKind.u64.wrap x98) 8))) rfl ?_)
                refine RL.nil ?_
                refine CW.seq ?_
                refine CW.seq ?_
                refine CW.region ?_
                refine RL.opS trivial rfl (OpW.move (v := .pointer x28.1) e87 ?_)
                refine RL.opS trivial rfl (OpW.move (v := .int .i64 (IntKind.i64.wrap (Int.tmod (IntKind.u64.wrap x98) 8))) rfl ?_)
                refine RL.opS trivial rfl (OpW.fieldAddr field_65_2 rfl ?_)
                obtain ⟨x99, h1, h⟩ := h
                refine RL.opS trivial rfl (OpW.load1 (v := .int .u8 x99) one_5 rfl h1 ?_)
                refine RL.opS trivial rfl (OpW.fieldAddr field_65_3 rfl ?_)
                obtain ⟨x100, h1, h⟩ := h
                refine RL.opS trivial rfl (OpW.load1 (v := str x100) one_9 rfl h1 ?_)
                refine RL.opS trivial rfl (OpW.callR (al := [.int .u8 x99, str x100]) Try.func32 fb_32 fn_32 rfl h (fun x101 w102 h => ?_))
                refine RL.opS trivial rfl (OpW.callR (al := [.pointer x28.1, .int .i64 (IntKind.i64.wrap (Int.tmod (IntKind.u64.wrap x98) 8)), Sl.v x101]) Try.func33 fb_33 fn_33 rfl h (fun x103 w104 h => ?_))
                refine RL.opS trivial rfl (OpW.bin (k := .i64) (a := x103) (b := 0) (v := .bool (!decide (x103 = 0))) rfl rfl rfl ?_)
                refine RL.nil ?_
                obtain ⟨ha, hc⟩ := h
                refine CW.cond (b := (!decide (x103 = 0))) rfl (fun hb105 => ?_) (fun hb105 => ?_)
                · have h := ha hb105; clear ha hc
                  refine CW.seq ?_
                  refine CW.region ?_
                  refine RL.opS trivial rfl (OpW.assign (v := .bool false) rfl ?_)
                  refine RL.nil ?_
                  refine CW.ret ?_
                  exact ret_intro (res1 rfl rfl) ⟨false, rfl, h⟩
                · have h := hc hb105; clear ha hc
                  refine CW.skip ?_
                  refine CW.region ?_
                  refine RL.opS trivial rfl (OpW.move (v := .int .i64 (IntKind.i64.wrap (Int.tmod (IntKind.u64.wrap x98) 8))) rfl ?_)
                  obtain ⟨h2, h3, h⟩ := h
                  obtain ⟨a106, h4⟩ : ∃ a, a = Addr.add ⟨b80, 0, none⟩ (Int.toNat (IntKind.i64.wrap (Int.tmod (IntKind.u64.wrap x98) 8)) * 1) := ⟨_, rfl⟩
                  have h := h a106 h4
                  refine RL.opS trivial rfl (OpW.indexArrE (a' := a106) arr_69 e89 rfl h2 h3 h4 ?_)
                  obtain ⟨u_, h1, h2, h⟩ := h
                  obtain ⟨w108, hw108_⟩ : ∃ w_, w_ = w104.setCell a106 (.int .i64 1) := ⟨_, rfl⟩
                  have h := h w108 hw108_
                  refine RL.opN trivial (OpW.store1E (v := .int .i64 1) size_3 rfl rfl rfl h1 h2 hw108_ ?_)
                  refine RL.nil ?_
                  refine CW.region ?_
                  refine RL.opS trivial rfl (OpW.bin (k := .i64) (a := s82) (b := 1) (v := .int .i64 (IntKind.i64.wrap (s82 + 1))) e85 rfl rfl ?_)
                  refine RL.opS trivial rfl (OpW.move (v := .int .i64 (IntKind.i64.wrap (s82 + 1))) rfl ?_)
                  refine RL.nil ?_
                  exact ⟨(IntKind.i64.wrap (s82 + 1)), ⟨rfl, e86, e87, e88, e89, e90, e91⟩, h⟩
              · have h := hc hb92; clear ha hc
                refine CW.exit ?_
                refine CW.seq ?_
                refine CW.region ?_
                refine RL.opS trivial rfl (OpW.move (v := .pointer x28.1) e87 ?_)
                obtain ⟨x109, h1, h2, h⟩ := h
                refine RL.opS trivial rfl (OpW.loadA agg_27 e86 h1 h2 ?_)
                refine RL.opS trivial rfl (OpW.callR (al := [.pointer x28.1, aggv x109]) Try.func35 fb_35 fn_35 rfl h (fun x110 w111 h => ?_))
                refine RL.nil ?_
                refine CW.seq ?_
                refine CW.region ?_
                refine RL.opS trivial rfl (OpW.move (v := .pointer x28.1) e87 ?_)
                refine RL.opS trivial rfl (OpW.callR (al := [.pointer x28.1]) Try.func27 fb_27 fn_27 rfl h (fun x112 w113 h => ?_))
                refine RL.nil ?_
                refine CW.seq ?_
                refine CW.seq ?_
                refine CW.region ?_
                refine RL.opS trivial rfl (OpW.move (v := .int .i64 0) rfl ?_)
                refine RL.nil ?_
                refine CW.block ?_
                obtain ⟨I161, mu162, hI, hs⟩ := h
                refine CW.loop (σ := Int) (fun s114 ρ => ρ 104 = .int .i64 s114 ∧ ρ 7 = .pointer x28.1 ∧ ρ 9 = .pointer (some ⟨b30, 0, none⟩) ∧ ρ 15 = .pointer (some ⟨b80, 0, none⟩)) I161 mu162 0 ⟨rfl, e87, e88, e89⟩ hI ?_
                rintro s114 ρ w115 ⟨e117, e118, e119, e120⟩ hI
                have h := hs s114 w115 hI
                clear hs hI
                refine CW.seq ?_
                refine CW.region ?_
                refine RL.opS trivial rfl (OpW.bin (k := .i64) (a := s114) (b := 8) (v := .bool (decide (s114 < 8))) e117 rfl rfl ?_)
                refine RL.nil ?_
                refine CW.seq ?_
                obtain ⟨ha, hc⟩ := h
                refine CW.cond (b := (decide (s114 < 8))) rfl (fun hb121 => ?_) (fun hb121 => ?_)
                · have h := ha hb121; clear ha hc
                  refine CW.skip ?_
                  refine CW.seq ?_
                  refine CW.block ?_
                  refine CW.seq ?_
                  refine CW.region ?_
                  refine RL.opS trivial rfl (OpW.move (v := .int .i64 s114) e117 ?_)
                  refine RL.opS trivial rfl (OpW.assign (v := .int .i64 s114) rfl ?_)
                  refine RL.nil ?_
                  refine CW.seq ?_
                  refine CW.region ?_
                  refine RL.opS trivial rfl (OpW.move (v := .pointer x28.1) e118 ?_)
                  refine RL.opS trivial rfl (OpW.move (v := .int .i64 s114) rfl ?_)
                  refine RL.opS trivial rfl (OpW.callR (al := [.pointer x28.1, .int .i64 s114]) Try.func28 fb_28 fn_28 rfl h (fun x122 w123 h => ?_))
                  refine RL.opS trivial rfl (OpW.move (v := .tuple #[Sl.v x122.1, .int .i64 x122.2]) rfl ?_)
                  refine RL.opS trivial rfl (OpW.extract (v := Sl.v x122.1) rfl rfl ?_)
                  refine RL.opS trivial rfl (OpW.extract (v := .int .i64 x122.2) rfl rfl ?_)
                  refine RL.opS trivial rfl (OpW.assign (v := Sl.v x122.1) rfl ?_)
                  refine RL.opS trivial rfl (OpW.assign (v := .int .i64 x122.2) rfl ?_)
                  refine RL.nil ?_
                  refine CW.seq ?_
                  obtain ⟨w124, hw124_⟩ : ∃ w_, w_ = w123.drew := ⟨_, rfl⟩
                  have h := h w124 hw124_
                  have hx125 : Ext w123 w124 := by rw [hw124_]; exact Ext.drew _
                  refine CW.draws (m := 16) (listed := #[false, false, false, false, false, false, false, false, false, false, false, false, false, false, false, false]) mixed [0, 1, 2, 3, 4, 5, 6, 7, 8, 9, 10, 11, 12, 13, 14, 15] (Ext w123) rfl rfl ?_
                  rw [← hw124_]
                  refine DL.takeP (listed' := #[true, false, false, false, false, false, false, false, false, false, false, false, false, false, false, false]) (v := .int .i64 x122.2) 0 rfl rfl (by kernel_rfl) rfl trivial rfl (fun w_ K_ h_ => OpW.move (v := .int .i64 x122.2) rfl h_) ?_
                  refine DL.takeP (listed' := #[true, true, false, false, false, false, false, false, false, false, false, false, false, false, false, false]) (v := .bool (!decide (x122.2 = 0))) 1 rfl rfl (by kernel_rfl) rfl trivial rfl (fun w_ K_ h_ => OpW.bin (k := .i64) (a := x122.2) (b := 0) (v := .bool (!decide (x122.2 = 0))) rfl rfl rfl h_) ?_
                  refine DL.takeP (listed' := #[true, true, true, false, false, false, false, false, false, false, false, false, false, false, false, false]) (v := .bool (!decide (x122.2 = 0))) 2 rfl rfl (by kernel_rfl) rfl trivial rfl (fun w_ K_ h_ => OpW.move (v := .bool (!decide (x122.2 = 0))) rfl h_) ?_
                  refine jn_elim h ?_; clear h; intro k157 hk158 h
                  refine DL.cut (A := Bool) (fun s148 ρ => ρ 128 = .bool s148 ∧ ρ 7 = .pointer x28.1 ∧ ρ 9 = .pointer (some ⟨b30, 0, none⟩) ∧ ρ 15 = .pointer (some ⟨b80, 0, none⟩) ∧ ρ 104 = .int .i64 s114) k157 0 #[true, true, true, true, true, true, true, true, true, true, true, true, true, true, true, true] ?_ ?_
                  · rintro s148 ρ w149 ⟨e151, e152, e153, e154, e155⟩ h
                    subst hk158
                    refine DL.done (by kernel_rfl) ?_
                    obtain ⟨ha, hc⟩ := h
                    refine CW.cond (b := s148) e151 (fun hb156 => ?_) (fun hb156 => ?_)
                    · have h := ha hb156; clear ha hc
                      refine CW.seq ?_
                      refine CW.region ?_
                      refine RL.opS trivial rfl (OpW.assign (v := .bool false) rfl ?_)
                      refine RL.nil ?_
                      refine CW.ret ?_
                      exact ret_intro (res1 rfl rfl) ⟨false, rfl, h⟩
                    · have h := hc hb156; clear ha hc
                      refine CW.skip ?_
                      refine CW.region ?_
                      refine RL.opS trivial rfl (OpW.bin (k := .i64) (a := s114) (b := 1) (v := .int .i64 (IntKind.i64.wrap (s114 + 1))) e155 rfl rfl ?_)
                      refine RL.opS trivial rfl (OpW.move (v := .int .i64 (IntKind.i64.wrap (s114 + 1))) rfl ?_)
                      refine RL.nil ?_
                      exact ⟨(IntKind.i64.wrap (s114 + 1)), ⟨rfl, e152, e153, e154⟩, h⟩
                  · intro hJJ126; clear hk158
                    obtain ⟨ha, hc⟩ := h
                    rcases Bool.eq_false_or_eq_true (!decide (x122.2 = 0)) with hb127 | hb127
                    · have h := ha hb127; clear ha hc
                      refine DL.skipP (listed' := #[true, true, true, true, false, false, false, false, false, false, false, false, false, false, false, false]) 3 rfl (by kernel_rfl) rfl (notWanted_of rfl rfl hb127) rfl ?_
                      refine DL.skipP (listed' := #[true, true, true, true, true, false, false, false, false, false, false, false, false, false, false, false]) 4 rfl (by kernel_rfl) rfl (notWanted_of rfl rfl hb127) rfl ?_
                      refine DL.skipP (listed' := #[true, true, true, true, true, true, false, false, false, false, false, false, false, false, false, false]) 5 rfl (by kernel_rfl) rfl (notWanted_of rfl rfl hb127) rfl ?_
                      refine DL.skipP (listed' := #[true, true, true, true, true, true, true, false, false, false, false, false, false, false, false, false]) 6 rfl (by kernel_rfl) rfl (notWanted_of rfl rfl hb127) rfl ?_
                      refine DL.skipP (listed' := #[true, true, true, true, true, true, true, true, false, false, false, false, false, false, false, false]) 7 rfl (by kernel_rfl) rfl (notWanted_of rfl rfl hb127) rfl ?_
                      refine DL.skipP (listed' := #[true, true, true, true, true, true, true, true, true, false, false, false, false, false, false, false]) 8 rfl (by kernel_rfl) rfl (notWanted_undef rfl rfl) rfl ?_
                      refine DL.skipP (listed' := #[true, true, true, true, true, true, true, true, true, true, false, false, false, false, false, false]) 9 rfl (by kernel_rfl) rfl (notWanted_undef rfl rfl) rfl ?_
                      refine DL.skipP (listed' := #[true, true, true, true, true, true, true, true, true, true, true, false, false, false, false, false]) 10 rfl (by kernel_rfl) rfl (notWanted_undef rfl rfl) rfl ?_
                      refine DL.skipP (listed' := #[true, true, true, true, true, true, true, true, true, true, true, true, false, false, false, false]) 11 rfl (by kernel_rfl) rfl (notWanted_undef rfl rfl) rfl ?_
                      refine DL.skipP (listed' := #[true, true, true, true, true, true, true, true, true, true, true, true, true, false, false, false]) 12 rfl (by kernel_rfl) rfl (notWanted_undef rfl rfl) rfl ?_
                      refine DL.skipP (listed' := #[true, true, true, true, true, true, true, true, true, true, true, true, true, true, false, false]) 13 rfl (by kernel_rfl) rfl (notWanted_undef rfl rfl) rfl ?_
                      refine DL.skipP (listed' := #[true, true, true, true, true, true, true, true, true, true, true, true, true, true, true, false]) 14 rfl (by kernel_rfl) rfl (notWanted_of rfl rfl hb127) rfl ?_
                      refine DL.takeP (listed' := #[true, true, true, true, true, true, true, true, true, true, true, true, true, true, true, true]) (v := .bool true) 15 rfl rfl (by kernel_rfl) rfl trivial rfl (fun w_ K_ h_ => OpW.pick (b := true) (v := .bool true) (congrArg Value.bool hb127) rfl h_) ?_
                      exact hJJ126 _ _ ⟨true, ⟨rfl, e118, e119, e120, e117⟩, h⟩
                    · have h := hc hb127; clear ha hc
                      refine DL.takeP (listed' := #[true, true, true, true, false, false, false, false, false, false, false, false, false, false, false, false]) (v := .int .i64 s114) 3 rfl rfl (by kernel_rfl) rfl (wanted_of rfl rfl hb127) rfl (fun w_ K_ h_ => OpW.move (v := .int .i64 s114) rfl h_) ?_
                      obtain ⟨h2, h3, h⟩ := h
                      obtain ⟨a128, h4⟩ : ∃ a, a = Addr.add ⟨b80, 0, none⟩ (Int.toNat s114 * 1) := ⟨_, rfl⟩
                      have h := h a128 h4
                      refine DL.takeP (listed' := #[true, true, true, true, true, false, false, false, false, false, false, false, false, false, false, false]) (v := .pointer (some a128)) 4 rfl rfl (by kernel_rfl) rfl (wanted_of rfl rfl hb127) rfl (fun w_ K_ h_ => OpW.indexArrE (a' := a128) arr_69 e120 rfl h2 h3 h4 h_) ?_
                      obtain ⟨x130, h1, h⟩ := h
                      refine DL.takeK (listed' := #[true, true, true, true, true, true, false, false, false, false, false, false, false, false, false, false]) (v := .int .i64 x130) 5 rfl rfl (by kernel_rfl) (by kernel_rfl) rfl (wanted_of rfl rfl hb127) rfl hx125 (fun w_ hS_ K_ h_ => OpW.load1 (v := .int .i64 x130) one_3 rfl (hS_.cell h1) h_) ?_
                      refine DL.takeP (listed' := #[true, true, true, true, true, true, true, false, false, false, false, false, false, false, false, false]) (v := .bool (decide (x130 = 0))) 6 rfl rfl (by kernel_rfl) rfl (wanted_of rfl rfl hb127) rfl (fun w_ K_ h_ => OpW.bin (k := .i64) (a := x130) (b := 0) (v := .bool (decide (x130 = 0))) rfl rfl rfl h_) ?_
                      refine DL.takeP (listed' := #[true, true, true, true, true, true, true, true, false, false, false, false, false, false, false, false]) (v := .bool (decide (x130 = 0))) 7 rfl rfl (by kernel_rfl) rfl (wanted_of rfl rfl hb127) rfl (fun w_ K_ h_ => OpW.move (v := .bool (decide (x130 = 0))) rfl h_) ?_
                      refine jn_elim h ?_; clear h; intro k146 hk147 h
                      refine DL.cut (A := Bool) (fun s137 ρ => ρ 127 = .bool s137 ∧ ρ 7 = .pointer x28.1 ∧ ρ 9 = .pointer (some ⟨b30, 0, none⟩) ∧ ρ 15 = .pointer (some ⟨b80, 0, none⟩) ∧ ρ 104 = .int .i64 s114 ∧ ρ 115 = .bool (!decide (x122.2 = 0))) k146 1 #[true, true, true, true, true, true, true, true, true, true, true, true, true, true, true, false] ?_ ?_
                      · rintro s137 ρ w138 ⟨e140, e141, e142, e143, e144, e145⟩ h
                        subst hk147
                        refine DL.takeP (listed' := #[true, true, true, true, true, true, true, true, true, true, true, true, true, true, true, true]) (v := .bool s137) 15 rfl rfl (by kernel_rfl) rfl trivial rfl (fun w_ K_ h_ => OpW.pick (b := false) (v := .bool s137) (e145.trans (congrArg Value.bool hb127)) e140 h_) ?_
                        exact hJJ126 _ _ ⟨s137, ⟨rfl, e141, e142, e143, e144⟩, h⟩
                      · intro hJJ131; clear hk147
                        obtain ⟨ha, hc⟩ := h
                        rcases Bool.eq_false_or_eq_true (decide (x130 = 0)) with hb132 | hb132
                        · have h := ha hb132; clear ha hc
                          refine DL.takeP (listed' := #[true, true, true, true, true, true, true, true, true, false, false, false, false, false, false, false]) (v := Sl.v x122.1) 8 rfl rfl (by kernel_rfl) rfl (wanted_of rfl rfl hb132) rfl (fun w_ K_ h_ => OpW.move (v := Sl.v x122.1) rfl h_) ?_
                          obtain ⟨x133, h1, h2, h⟩ := h
                          refine DL.takeK (listed' := #[true, true, true, true, true, true, true, true, true, true, false, false, false, false, false, false]) (v := str x133) 9 rfl rfl (by kernel_rfl) (by kernel_rfl) rfl (wanted_of rfl rfl hb132) rfl hx125 (fun w_ hS_ K_ h_ => OpW.b2s bsl_39 str_9 rfl h1 (hS_.atO h2) h_) ?_
                          refine DL.takeP (listed' := #[true, true, true, true, true, true, true, true, true, true, true, false, false, false, false, false]) (v := .int .i64 s114) 10 rfl rfl (by kernel_rfl) rfl (wanted_of rfl rfl hb132) rfl (fun w_ K_ h_ => OpW.move (v := .int .i64 s114) rfl h_) ?_
                          obtain ⟨h2, h3, h⟩ := h
                          obtain ⟨a134, h4⟩ : ∃ a, a = Addr.add ⟨b30, 0, none⟩ (Int.toNat s114 * 1) := ⟨_, rfl⟩
                          have h := h a134 h4
                          refine DL.takeP (listed' := #[true, true, true, true, true, true, true, true, true, true, true, true, false, false, false, false]) (v := .pointer (some a134)) 11 rfl rfl (by kernel_rfl) rfl (wanted_of rfl rfl hb132) rfl (fun w_ K_ h_ => OpW.indexArrE (a' := a134) arr_63 e119 rfl h2 h3 h4 h_) ?_
                          obtain ⟨x136, h1, h⟩ := h
                          refine DL.takeK (listed' := #[true, true, true, true, true, true, true, true, true, true, true, true, true, false, false, false]) (v := str x136) 12 rfl rfl (by kernel_rfl) (by kernel_rfl) rfl (wanted_of rfl rfl hb132) rfl hx125 (fun w_ hS_ K_ h_ => OpW.load1 (v := str x136) one_9 rfl (hS_.cell h1) h_) ?_
                          refine DL.takeP (listed' := #[true, true, true, true, true, true, true, true, true, true, true, true, true, true, false, false]) (v := .bool (!decide (x133 = x136))) 13 rfl rfl (by kernel_rfl) rfl (wanted_of rfl rfl hb132) rfl (fun w_ K_ h_ => OpW.strCmp (b := !decide (x133 = x136)) rfl rfl rfl h_) ?_
                          refine DL.takeP (listed' := #[true, true, true, true, true, true, true, true, true, true, true, true, true, true, true, false]) (v := .bool (!decide (x133 = x136))) 14 rfl rfl (by kernel_rfl) rfl (wanted_of rfl rfl hb127) rfl (fun w_ K_ h_ => OpW.pick (b := true) (v := .bool (!decide (x133 = x136))) (congrArg Value.bool hb132) rfl h_) ?_
                          exact hJJ131 _ _ ⟨(!decide (x133 = x136)), ⟨rfl, e118, e119, e120, e117, rfl⟩, h⟩
                        · have h := hc hb132; clear ha hc
                          refine DL.skipP (listed' := #[true, true, true, true, true, true, true, true, true, false, false, false, false, false, false, false]) 8 rfl (by kernel_rfl) rfl (notWanted_of rfl rfl hb132) rfl ?_
                          refine DL.skipP (listed' := #[true, true, true, true, true, true, true, true, true, true, false, false, false, false, false, false]) 9 rfl (by kernel_rfl) rfl (notWanted_of rfl rfl hb132) rfl ?_
                          refine DL.skipP (listed' := #[true, true, true, true, true, true, true, true, true, true, true, false, false, false, false, false]) 10 rfl (by kernel_rfl) rfl (notWanted_of rfl rfl hb132) rfl ?_
                          refine DL.skipP (listed' := #[true, true, true, true, true, true, true, true, true, true, true, true, false, false, false, false]) 11 rfl (by kernel_rfl) rfl (notWanted_of rfl rfl hb132) rfl ?_
                          refine DL.skipP (listed' := #[true, true, true, true, true, true, true, true, true, true, true, true, true, false, false, false]) 12 rfl (by kernel_rfl) rfl (notWanted_of rfl rfl hb132) rfl ?_
                          refine DL.skipP (listed' := #[true, true, true, true, true, true, true, true, true, true, true, true, true, true, false, false]) 13 rfl (by kernel_rfl) rfl (notWanted_of rfl rfl hb132) rfl ?_
                          refine DL.takeP (listed' := #[true, true, true, true, true, true, true, true, true, true, true, true, true, true, true, false]) (v := .bool false) 14 rfl rfl (by kernel_rfl) rfl (wanted_of rfl rfl hb127) rfl (fun w_ K_ h_ => OpW.pick (b := false) (v := .bool false) (congrArg Value.bool hb132) rfl h_) ?_
                          exact hJJ131 _ _ ⟨false, ⟨rfl, e118, e119, e120, e117, rfl⟩, h⟩
                · have h := hc hb121; clear ha hc
                  refine CW.exit ?_
                  refine CW.seq ?_
                  refine CW.region ?_
                  refine RL.opS trivial rfl (OpW.move (v := .pointer x28.1) e118 ?_)
                  refine RL.opS trivial rfl (OpW.callR (al := [.pointer x28.1]) Try.func23 fb_23 fn_23 rfl h (fun x159 w160 h => ?_))
                  refine RL.opS trivial rfl (OpW.bin (k := .i64) (a := x159) (b := 0) (v := .bool (decide (x159 = 0))) rfl rfl rfl ?_)
                  refine RL.opS trivial rfl (OpW.assign (v := .bool (decide (x159 = 0))) rfl ?_)
                  refine RL.nil ?_
                  refine CW.ret ?_
                  exact ret_intro (res1 rfl rfl) ⟨(decide (x159 = 0)), rfl, h⟩
    · clear hk170
      dsimp only [List.take]
      obtain ⟨ha, hc⟩ := h
      rcases Bool.eq_false_or_eq_true s9 with hb15 | hb15
      · have h := ha hb15; clear ha hc
        refine RL.skipS (notWanted_of rfl rfl hb15) rfl ?_
        refine RL.skipS (notWanted_of rfl rfl hb15) rfl ?_
        refine RL.skipS (notWanted_of rfl rfl hb15) rfl ?_
        refine RL.opS trivial rfl (OpW.pick (b := true) (v := .bool true) (congrArg Value.bool hb15) rfl ?_)
        refine RL.nil ?_
        exact ⟨true, ⟨rfl, e12, e13, e14⟩, h⟩
      · have h := hc hb15; clear ha hc
        refine RL.opS (wanted_of rfl rfl hb15) rfl (OpW.move (v := Sl.v p1) e13 ?_)
        refine RL.opS (wanted_of rfl rfl hb15) rfl (OpW.callR (al := [.int .i64 1, Sl.v p1]) Try.func31 fb_31 fn_31 rfl h (fun x17 w18 h => ?_))
        refine RL.opS (wanted_of rfl rfl hb15) rfl (OpW.not rfl ?_)
        refine RL.opS trivial rfl (OpW.pick (b := false) (v := .bool (!x17)) (congrArg Value.bool hb15) rfl ?_)
        refine RL.nil ?_
        exact ⟨(!x17), ⟨rfl, e12, e13, e14⟩, h⟩
  · clear hk172
    dsimp only [List.take]
    obtain ⟨ha, hc⟩ := h
    rcases Bool.eq_false_or_eq_true (!x3) with hb5 | hb5
    · have h := ha hb5; clear ha hc
      refine RL.skipS (notWanted_of rfl rfl hb5) rfl ?_
      refine RL.skipS (notWanted_of rfl rfl hb5) rfl ?_
      refine RL.skipS (notWanted_of rfl rfl hb5) rfl ?_
      refine RL.opS trivial rfl (OpW.pick (b := true) (v := .bool true) (congrArg Value.bool hb5) rfl ?_)
      refine RL.nil ?_
      exact ⟨true, ⟨rfl, rfl, rfl, rfl⟩, h⟩
    · have h := hc hb5; clear ha hc
      refine RL.opS (wanted_of rfl rfl hb5) rfl (OpW.move (v := Sl.v p0) rfl ?_)
      refine RL.opS (wanted_of rfl rfl hb5) rfl (OpW.callR (al := [.int .i64 1, Sl.v p0]) Try.func31 fb_31 fn_31 rfl h (fun x7 w8 h => ?_))
      refine RL.opS (wanted_of rfl rfl hb5) rfl (OpW.not rfl ?_)
      refine RL.opS trivial rfl (OpW.pick (b := false) (v := .bool (!x7)) (congrArg Value.bool hb5) rfl ?_)
      refine RL.nil ?_
      exact ⟨(!x7), ⟨rfl, rfl, rfl, rfl⟩, h⟩
end Go.Proofs.Ytagkcbbbdlmcjaa
