/- The typed readings of the functions, and that the program meets each: written by gen.py (a program of this session). -/
import Derived.Test.YtagkcbbbdlmcjaaLiftDraw
import Derived.Test.YtagkcbbbdlmcjaaRead
set_option linter.unusedVariables false
set_option linter.unusedSimpArgs false
namespace Go.Proofs.Ytagkcbbbdlmcjaa
open Go.Lift
set_option maxRecDepth 100000 in
set_option maxHeartbeats 4000000 in
theorem s6_calls (K : Bool → World → Prop) (p0 : Sl) (p1 : Bool) (w : World) (h : s6 K p0 p1 w) :
    Calls Try.prog 6 #[Sl.v p0, .bool p1] w (Ret r6 K) := by
  unfold s6 at h
  refine calls_of_CW (n := 105) Try.func6 rfl rfl rfl ?_
  refine CW.seq ?_
  refine CW.region ?_
  refine RL.opS trivial rfl (OpW.assign (v := .bool false) rfl ?_)
  refine RL.nil ?_
  refine CW.seq ?_
  refine CW.seq ?_
  refine CW.region ?_
  refine RL.opS trivial rfl (OpW.callR (al := []) Try.func30 fb_30 fn_30 rfl h (fun x1 w2 h => ?_))
  refine RL.opS trivial rfl (OpW.not rfl ?_)
  refine RL.opS trivial rfl (OpW.move (v := .bool (!x1)) rfl ?_)
  refine jn_elim h ?_; clear h; intro k112 hk113 h
  refine RL.joinAt (A := Bool) 4 (fun s7 ρ => ρ 25 = .bool s7 ∧ ρ 0 = Sl.v p0 ∧ ρ 1 = .bool p1) k112 ?_ ?_
  · rintro s7 ρ w8 ⟨e9, e10, e11⟩ h
    subst hk113
    dsimp only [List.drop]
    refine RL.nil ?_
    obtain ⟨ha, hc⟩ := h
    refine CW.cond (b := s7) e9 (fun hb12 => ?_) (fun hb12 => ?_)
    · have h := ha hb12; clear ha hc
      refine CW.seq ?_
      refine CW.region ?_
      refine RL.opS trivial rfl (OpW.callR (al := []) Try.func30 fb_30 fn_30 rfl h (fun x13 w14 h => ?_))
      refine RL.opS trivial rfl (OpW.assign (v := .bool x13) rfl ?_)
      refine RL.nil ?_
      refine CW.ret ?_
      exact ret_intro (res1 rfl rfl) ⟨x13, rfl, h⟩
    · have h := hc hb12; clear ha hc
      refine CW.skip ?_
      refine CW.seq ?_
      refine CW.region ?_
      refine RL.opS trivial rfl (OpW.callR (al := [.int .i64 8]) Try.func15 fb_15 fn_15 rfl h (fun x15 w16 h => ?_))
      refine RL.opS trivial rfl (OpW.move (v := .tuple #[.pointer x15.1, .int .i64 x15.2]) rfl ?_)
      refine RL.opS trivial rfl (OpW.extract (v := .pointer x15.1) rfl rfl ?_)
      refine RL.opS trivial rfl (OpW.extract (v := .int .i64 x15.2) rfl rfl ?_)
      refine RL.opS trivial rfl (OpW.assign (v := .pointer x15.1) rfl ?_)
      refine RL.opS trivial rfl (OpW.assign (v := .int .i64 x15.2) rfl ?_)
      refine RL.nil ?_
      refine CW.seq ?_
      refine CW.region ?_
      refine RL.opS trivial rfl (OpW.move (v := .pointer x15.1) rfl ?_)
      refine RL.opS trivial rfl (OpW.callR (al := [.pointer x15.1]) Try.func36 fb_36 fn_36 rfl h (fun x17 w18 h => ?_))
      refine RL.opS trivial rfl (OpW.assign (v := .pointer x17) rfl ?_)
      refine RL.nil ?_
      refine CW.seq ?_
      refine CW.seq ?_
      refine CW.region ?_
      refine RL.opS trivial rfl (OpW.move (v := Sl.v p0) e10 ?_)
      refine RL.opS trivial rfl (OpW.len (s := p0) slice_61 rfl ?_)
      refine RL.opS trivial rfl (OpW.move (v := .int .i64 0) rfl ?_)
      refine RL.nil ?_
      refine CW.block ?_
      obtain ⟨I110, mu111, hI, hs⟩ := h
      refine CW.loop (σ := Option Addr × Int) (fun s19 ρ => ρ 7 = .pointer s19.1 ∧ ρ 35 = .int .i64 s19.2 ∧ ρ 1 = .bool p1 ∧ ρ 5 = .pointer x15.1 ∧ ρ 33 = Sl.v p0 ∧ ρ 34 = .int .i64 (p0.len : Int)) I110 mu111 (x17, 0) ⟨rfl, rfl, e11, rfl, rfl, rfl⟩ hI ?_
      rintro s19 ρ w20 ⟨e22, e23, e24, e25, e26, e27⟩ hI
      have h := hs s19 w20 hI
      clear hs hI
      refine CW.seq ?_
      refine CW.region ?_
      refine RL.opS trivial rfl (OpW.bin (k := .i64) (a := s19.2) (b := (p0.len : Int)) (v := .bool (decide (s19.2 < (p0.len : Int)))) e23 e27 rfl ?_)
      refine RL.nil ?_
      refine CW.seq ?_
      obtain ⟨ha, hc⟩ := h
      refine CW.cond (b := (decide (s19.2 < (p0.len : Int)))) rfl (fun hb28 => ?_) (fun hb28 => ?_)
      · have h := ha hb28; clear ha hc
        refine CW.skip ?_
        refine jn_elim h ?_; clear h; intro k60 hk61 h
        refine CW.seqJ (A := Option Addr) (fun s52 ρ => ρ 7 = .pointer s52 ∧ ρ 1 = .bool p1 ∧ ρ 5 = .pointer x15.1 ∧ ρ 33 = Sl.v p0 ∧ ρ 34 = .int .i64 (p0.len : Int) ∧ ρ 35 = .int .i64 s19.2) k60 ?_ ?_
        · rintro s52 ρ w53 ⟨e54, e55, e56, e57, e58, e59⟩ h
          subst hk61
          refine CW.region ?_
          refine RL.opS trivial rfl (OpW.bin (k := .i64) (a := s19.2) (b := 1) (v := .int .i64 (IntKind.i64.wrap (s19.2 + 1))) e59 rfl rfl ?_)
          refine RL.opS trivial rfl (OpW.move (v := .int .i64 (IntKind.i64.wrap (s19.2 + 1))) rfl ?_)
          refine RL.nil ?_
          exact ⟨(s52, (IntKind.i64.wrap (s19.2 + 1))), ⟨e54, rfl, e55, e56, e57, e58⟩, h⟩
        · clear hk61
          refine CW.block ?_
          refine CW.seq ?_
          refine CW.region ?_
          refine RL.opS trivial rfl (OpW.move (v := .int .i64 s19.2) e23 ?_)
          obtain ⟨a30_, a30, h1, h2, h3, h4, h⟩ := h
          refine RL.opS trivial rfl (OpW.indexE (a' := a30) slice_61 e26 e23 h1 h2 h3 h4 ?_)
          obtain ⟨x32, h1, h2, h⟩ := h
          refine RL.opS trivial rfl (OpW.loadA agg_65 rfl h1 h2 ?_)
          obtain ⟨hl_b33, ho_b33, h⟩ := h
          obtain ⟨b33, hb33_⟩ : ∃ b_, b_ = w20.heap.size := ⟨_, rfl⟩
          obtain ⟨w34, hw34_⟩ : ∃ w_, w_ = w20.alloc (.cells (List.toArray x32) 65) := ⟨_, rfl⟩
          have h := h b33 w34 hb33_ hw34_
          refine RL.opS trivial rfl (OpW.allocZ (b := b33) zero_65 hb33_ ?_)
          refine RL.opS trivial rfl (OpW.assign (v := .int .i64 s19.2) rfl ?_)
          refine RL.opN trivial (OpW.storeF (zs := [Value.int .i64 0, Value.int .i64 0, Value.int .u8 0, str [], Value.bool false, Value.int .i64 0, Value.int .u64 0, Value.int .i64 0, Value.slice none 0 0]) (cs := x32) size_65 rfl rfl hl_b33 (by decide) ho_b33 hb33_ hw34_ ?_)
          refine RL.nil ?_
          refine CW.seq ?_
          refine CW.seq ?_
          obtain ⟨w35, hw35_⟩ : ∃ w_, w_ = w34.drew := ⟨_, rfl⟩
          have h := h w35 hw35_
          have hx36 : Ext w34 w35 := by rw [hw35_]; exact Ext.drew _
          refine CW.draws (m := 13) (listed := #[false, false, false, false, false, false, false, false, false, false, false, false, false]) mixed [0, 1, 2, 3, 4, 5, 6, 7, 8, 9, 10, 12] (Ext w34) rfl rfl ?_
          rw [← hw35_]
          refine DL.takeP (listed' := #[true, false, false, false, false, false, false, false, false, false, false, false, false]) (v := .pointer x15.1) 0 rfl rfl (by kernel_rfl) rfl trivial rfl (fun w_ K_ h_ => OpW.move (v := .pointer x15.1) e25 h_) ?_
          refine DL.takeP (listed' := #[true, true, false, false, false, false, false, false, false, false, false, false, false]) (v := .pointer (some (Addr.add ⟨b33, 0, none⟩ 1))) 1 rfl rfl (by kernel_rfl) rfl trivial rfl (fun w_ K_ h_ => OpW.fieldAddr field_65_1 rfl h_) ?_
          obtain ⟨x37, h1, h⟩ := h
          refine DL.takeK (listed' := #[true, true, true, false, false, false, false, false, false, false, false, false, false]) (v := .int .i64 x37) 2 rfl rfl (by kernel_rfl) (by kernel_rfl) rfl trivial rfl hx36 (fun w_ hS_ K_ h_ => OpW.load1 (v := .int .i64 x37) one_3 rfl (hS_.cell h1) h_) ?_
          refine DL.takeP (listed' := #[true, true, true, true, false, false, false, false, false, false, false, false, false]) (v := .int .u64 (IntKind.u64.wrap x37)) 3 rfl rfl (by kernel_rfl) rfl trivial rfl (fun w_ K_ h_ => OpW.convInt (a := x37) int_3 int_66 rfl h_) ?_
          refine DL.takeP (listed' := #[true, true, true, true, true, false, false, false, false, false, false, false, false]) (v := .int .u64 (Int.tmod (IntKind.u64.wrap x37) 8)) 4 rfl rfl (by kernel_rfl) rfl trivial rfl (fun w_ K_ h_ => OpW.quo (a := (IntKind.u64.wrap x37)) (b := 8) (v := .int .u64 (Int.tmod (IntKind.u64.wrap x37) 8)) rfl rfl (by decide) rfl h_) ?_
          refine DL.takeP (listed' := #[true, true, true, true, true, true, false, false, false, false, false, false, false]) (v := .int .i64 (IntKind.i64.wrap (Int.tmod (IntKind.u64.wrap x37) 8))) 5 rfl rfl (by kernel_rfl) rfl trivial rfl (fun w_ K_ h_ => OpW.convInt (a := (Int.tmod (IntKind.u64.wrap x37) 8)) int_66 int_3 rfl h_) ?_
          refine DL.takeP (listed' := #[true, true, true, true, true, true, true, false, false, false, false, false, false]) (v := .pointer (some (Addr.add ⟨b33, 0, none⟩ 2))) 6 rfl rfl (by kernel_rfl) rfl trivial rfl (fun w_ K_ h_ => OpW.fieldAddr field_65_2 rfl h_) ?_
          obtain ⟨x38, h1, h⟩ := h
          refine DL.takeK (listed' := #[true, true, true, true, true, true, true, true, false, false, false, false, false]) (v := .int .u8 x38) 7 rfl rfl (by kernel_rfl) (by kernel_rfl) rfl trivial rfl hx36 (fun w_ hS_ K_ h_ => OpW.load1 (v := .int .u8 x38) one_5 rfl (hS_.cell h1) h_) ?_
          refine DL.takeP (listed' := #[true, true, true, true, true, true, true, true, true, false, false, false, false]) (v := .pointer (some (Addr.add ⟨b33, 0, none⟩ 3))) 8 rfl rfl (by kernel_rfl) rfl trivial rfl (fun w_ K_ h_ => OpW.fieldAddr field_65_3 rfl h_) ?_
          obtain ⟨x39, h1, h⟩ := h
          refine DL.takeK (listed' := #[true, true, true, true, true, true, true, true, true, true, false, false, false]) (v := str x39) 9 rfl rfl (by kernel_rfl) (by kernel_rfl) rfl trivial rfl hx36 (fun w_ hS_ K_ h_ => OpW.load1 (v := str x39) one_9 rfl (hS_.cell h1) h_) ?_
          refine DL.execS (listed' := #[true, true, true, true, true, true, true, true, true, true, true, false, false]) 10 rfl (by kernel_rfl) rfl trivial rfl (OpW.callR (al := [.int .u8 x38, str x39]) Try.func32 fb_32 fn_32 rfl h (fun x40 w41 h => ?_))
          obtain ⟨hx42, h⟩ := h
          refine ⟨(fun _ _ => hx42), ?_⟩
          refine DL.execS (listed' := #[true, true, true, true, true, true, true, true, true, true, true, true, false]) 11 rfl (by kernel_rfl) rfl trivial rfl (OpW.callR (al := [.pointer x15.1, .int .i64 (IntKind.i64.wrap (Int.tmod (IntKind.u64.wrap x37) 8)), Sl.v x40]) Try.func33 fb_33 fn_33 rfl h (fun x43 w44 h => ?_))
          refine ⟨(fun h_ => absurd h_ (by decide)), ?_⟩
          refine DL.takeP (listed' := #[true, true, true, true, true, true, true, true, true, true, true, true, true]) (v := .bool (!decide (x43 = 0))) 12 rfl rfl (by kernel_rfl) rfl trivial rfl (fun w_ K_ h_ => OpW.bin (k := .i64) (a := x43) (b := 0) (v := .bool (!decide (x43 = 0))) rfl rfl rfl h_) ?_
          refine DL.done (by kernel_rfl) ?_
          obtain ⟨ha, hc⟩ := h
          refine CW.cond (b := (!decide (x43 = 0))) rfl (fun hb45 => ?_) (fun hb45 => ?_)
          · have h := ha hb45; clear ha hc
            refine CW.seq ?_
            refine CW.region ?_
            refine RL.opS trivial rfl (OpW.assign (v := .bool false) rfl ?_)
            refine RL.nil ?_
            refine CW.ret ?_
            exact ret_intro (res1 rfl rfl) ⟨false, rfl, h⟩
          · have h := hc hb45; clear ha hc
            refine CW.skip ?_
            refine CW.seq ?_
            refine CW.region ?_
            refine RL.opS trivial rfl (OpW.move (v := .int .i64 s19.2) rfl ?_)
            refine RL.opS trivial rfl (OpW.quo (a := s19.2) (b := 5) (v := .int .i64 (Int.tmod s19.2 5)) rfl rfl (by decide) rfl ?_)
            refine RL.opS trivial rfl (OpW.bin (k := .i64) (a := (Int.tmod s19.2 5)) (b := 4) (v := .bool (decide ((Int.tmod s19.2 5) = 4))) rfl rfl rfl ?_)
            refine RL.nil ?_
            obtain ⟨ha, hc⟩ := h
            refine CW.cond (b := (decide ((Int.tmod s19.2 5) = 4))) rfl (fun hb46 => ?_) (fun hb46 => ?_)
            · have h := ha hb46; clear ha hc
              refine CW.seq ?_
              refine CW.seq ?_
              refine CW.region ?_
              refine RL.opS trivial rfl (OpW.move (v := .pointer x15.1) e25 ?_)
              refine RL.opS trivial rfl (OpW.callR (al := [.pointer x15.1]) Try.func34 fb_34 fn_34 rfl h (fun x47 w48 h => ?_))
              refine RL.opS trivial rfl (OpW.bin (k := .i64) (a := x47) (b := 0) (v := .bool (!decide (x47 = 0))) rfl rfl rfl ?_)
              refine RL.nil ?_
              obtain ⟨ha, hc⟩ := h
              refine CW.cond (b := (!decide (x47 = 0))) rfl (fun hb49 => ?_) (fun hb49 => ?_)
              · have h := ha hb49; clear ha hc
                refine CW.seq ?_
                refine CW.region ?_
                refine RL.opS trivial rfl (OpW.assign (v := .bool false) rfl ?_)
                refine RL.nil ?_
                refine CW.ret ?_
                exact ret_intro (res1 rfl rfl) ⟨false, rfl, h⟩
              · have h := hc hb49; clear ha hc
                refine CW.skip ?_
                refine CW.region ?_
                refine RL.opS trivial rfl (OpW.move (v := .pointer x15.1) e25 ?_)
                refine RL.opS trivial rfl (OpW.callR (al := [.pointer x15.1]) Try.func36 fb_36 fn_36 rfl h (fun x50 w51 h => ?_))
                refine RL.opS trivial rfl (OpW.assign (v := .pointer x50) rfl ?_)
                refine RL.nil ?_
                exact ⟨x50, ⟨rfl, e24, e25, e26, e27, e23⟩, h⟩
            · have h := hc hb46; clear ha hc
              refine CW.skip ?_
              exact ⟨s19.1, ⟨e22, e24, e25, e26, e27, e23⟩, h⟩
      · have h := hc hb28; clear ha hc
        refine CW.exit ?_
        refine CW.seq ?_
        refine CW.region ?_
        refine RL.opS trivial rfl (OpW.move (v := .pointer x15.1) e25 ?_)
        refine RL.opS trivial rfl (OpW.callR (al := [.pointer x15.1]) Try.func36 fb_36 fn_36 rfl h (fun x62 w63 h => ?_))
        refine RL.opS trivial rfl (OpW.assign (v := .pointer x62) rfl ?_)
        refine RL.nil ?_
        refine CW.seq ?_
        refine CW.region ?_
        refine RL.opS trivial rfl (OpW.buildL (vs := []) (cs := [Value.int .i64 0, Value.int .u64 0, Value.int .i64 0]) (by rfl) (fun _ => by kernel_rfl) ?_)
        obtain ⟨hl_b64, ho_b64, h⟩ := h
        obtain ⟨b64, hb64_⟩ : ∃ b_, b_ = w63.heap.size := ⟨_, rfl⟩
        obtain ⟨w65, hw65_⟩ : ∃ w_, w_ = w63.alloc (.cells (List.toArray [Value.int .i64 0, Value.int .u64 0, Value.int .i64 0]) 27) := ⟨_, rfl⟩
        have h := h b64 w65 hb64_ hw65_
        refine RL.opS trivial rfl (OpW.allocZ (b := b64) zero_27 hb64_ ?_)
        refine RL.opN trivial (OpW.storeF (zs := [Value.int .i64 0, Value.int .u64 0, Value.int .i64 0]) (cs := [Value.int .i64 0, Value.int .u64 0, Value.int .i64 0]) size_27 rfl rfl hl_b64 (by decide) ho_b64 hb64_ hw65_ ?_)
        refine RL.nil ?_
        refine jn_elim h ?_; clear h; intro k108 hk109 h
        refine CW.seqJ (A := Option Addr) (fun s69 ρ => ρ 7 = .pointer s69 ∧ ρ 5 = .pointer x15.1 ∧ ρ 11 = .pointer (some ⟨b64, 0, none⟩)) k108 ?_ ?_
        · rintro s69 ρ w70 ⟨e71, e72, e73⟩ h
          subst hk109
          refine CW.seq ?_
          refine CW.region ?_
          refine RL.opS trivial rfl (OpW.move (v := .pointer x15.1) e72 ?_)
          obtain ⟨x74, h1, h2, h⟩ := h
          refine RL.opS trivial rfl (OpW.loadA agg_27 e73 h1 h2 ?_)
          refine RL.opS trivial rfl (OpW.callR (al := [.pointer x15.1, aggv x74]) Try.func35 fb_35 fn_35 rfl h (fun x75 w76 h => ?_))
          refine RL.nil ?_
          refine CW.seq ?_
          refine CW.seq ?_
          refine CW.region ?_
          refine RL.opS trivial rfl (OpW.move (v := .pointer x15.1) e72 ?_)
          refine RL.opS trivial rfl (OpW.callR (al := [.pointer x15.1, .int .i64 0]) Try.func28 fb_28 fn_28 rfl h (fun x77 w78 h => ?_))
          refine RL.opS trivial rfl (OpW.move (v := .tuple #[Sl.v x77.1, .int .i64 x77.2]) rfl ?_)
          refine RL.opS trivial rfl (OpW.extract (v := Sl.v x77.1) rfl rfl ?_)
          refine RL.opS trivial rfl (OpW.extract (v := .int .i64 x77.2) rfl rfl ?_)
          refine RL.opS trivial rfl (OpW.assign (v := Sl.v x77.1) rfl ?_)
          refine RL.opS trivial rfl (OpW.assign (v := .int .i64 x77.2) rfl ?_)
          refine RL.nil ?_
          refine CW.seq ?_
          refine CW.region ?_
          refine RL.opS trivial rfl (OpW.move (v := .int .i64 x77.2) rfl ?_)
          refine RL.opS trivial rfl (OpW.bin (k := .i64) (a := x77.2) (b := 6) (v := .bool (!decide (x77.2 = 6))) rfl rfl rfl ?_)
          refine RL.nil ?_
          obtain ⟨ha, hc⟩ := h
          refine CW.cond (b := (!decide (x77.2 = 6))) rfl (fun hb79 => ?_) (fun hb79 => ?_)
          · have h := ha hb79; clear ha hc
            refine CW.seq ?_
            refine CW.region ?_
            refine RL.opS trivial rfl (OpW.assign (v := .bool false) rfl ?_)
            refine RL.nil ?_
            refine CW.ret ?_
            exact ret_intro (res1 rfl rfl) ⟨false, rfl, h⟩
          · have h := hc hb79; clear ha hc
            refine CW.skip ?_
            refine CW.seq ?_
            refine CW.region ?_
            refine RL.opS trivial rfl (OpW.move (v := .pointer x15.1) e72 ?_)
            refine RL.opS trivial rfl (OpW.callR (al := [.pointer x15.1]) Try.func27 fb_27 fn_27 rfl h (fun x80 w81 h => ?_))
            refine RL.nil ?_
            refine CW.seq ?_
            refine CW.seq ?_
            refine CW.region ?_
            refine RL.opS trivial rfl (OpW.move (v := .int .i64 0) rfl ?_)
            refine RL.nil ?_
            refine CW.block ?_
            obtain ⟨I106, mu107, hI, hs⟩ := h
            refine CW.loop (σ := Int) (fun s82 ρ => ρ 80 = .int .i64 s82 ∧ ρ 5 = .pointer x15.1 ∧ ρ 7 = .pointer s69) I106 mu107 0 ⟨rfl, e72, e71⟩ hI ?_
            rintro s82 ρ w83 ⟨e85, e86, e87⟩ hI
            have h := hs s82 w83 hI
            clear hs hI
            refine CW.seq ?_
            refine CW.region ?_
            refine RL.opS trivial rfl (OpW.bin (k := .i64) (a := s82) (b := 8) (v := .bool (decide (s82 < 8))) e85 rfl rfl ?_)
            refine RL.nil ?_
            refine CW.seq ?_
            obtain ⟨ha, hc⟩ := h
            refine CW.cond (b := (decide (s82 < 8))) rfl (fun hb88 => ?_) (fun hb88 => ?_)
            · have h := ha hb88; clear ha hc
              refine CW.skip ?_
              refine CW.seq ?_
              refine CW.block ?_
              refine CW.seq ?_
              refine CW.region ?_
              refine RL.opS trivial rfl (OpW.move (v := .int .i64 s82) e85 ?_)
              refine RL.opS trivial rfl (OpW.assign (v := .int .i64 s82) rfl ?_)
              refine RL.nil ?_
              refine CW.seq ?_
              refine CW.region ?_
              refine RL.opS trivial rfl (OpW.move (v := .pointer x15.1) e86 ?_)
              refine RL.opS trivial rfl (OpW.move (v := .int .i64 s82) rfl ?_)
              refine RL.opS trivial rfl (OpW.callR (al := [.pointer x15.1, .int .i64 s82]) Try.func28 fb_28 fn_28 rfl h (fun x89 w90 h => ?_))
              refine RL.opS trivial rfl (OpW.move (v := .tuple #[Sl.v x89.1, .int .i64 x89.2]) rfl ?_)
              refine RL.opS trivial rfl (OpW.extract (v := Sl.v x89.1) rfl rfl ?_)
              refine RL.opS trivial rfl (OpW.extract (v := .int .i64 x89.2) rfl rfl ?_)
              refine RL.opS trivial rfl (OpW.assign (v := Sl.v x89.1) rfl ?_)
              refine RL.opS trivial rfl (OpW.assign (v := .int .i64 x89.2) rfl ?_)
              refine RL.nil ?_
              refine CW.seq ?_
              refine CW.region ?_
              refine RL.opS trivial rfl (OpW.move (v := .pointer s69) e87 ?_)
              refine RL.opS trivial rfl (OpW.move (v := .int .i64 s82) rfl ?_)
              refine RL.opS trivial rfl (OpW.callR (al := [.pointer s69, .int .i64 s82]) Try.func28 fb_28 fn_28 rfl h (fun x91 w92 h => ?_))
              refine RL.opS trivial rfl (OpW.move (v := .tuple #[Sl.v x91.1, .int .i64 x91.2]) rfl ?_)
              refine RL.opS trivial rfl (OpW.extract (v := Sl.v x91.1) rfl rfl ?_)
              refine RL.opS trivial rfl (OpW.extract (v := .int .i64 x91.2) rfl rfl ?_)
              refine RL.opS trivial rfl (OpW.assign (v := Sl.v x91.1) rfl ?_)
              refine RL.opS trivial rfl (OpW.assign (v := .int .i64 x91.2) rfl ?_)
              refine RL.nil ?_
              refine CW.seq ?_
              refine CW.region ?_
              refine RL.opS trivial rfl (OpW.move (v := .int .i64 x91.2) rfl ?_)
              refine RL.opS trivial rfl (OpW.bin (k := .i64) (a := x91.2) (b := 0) (v := .bool (!decide (x91.2 = 0))) rfl rfl rfl ?_)
              refine RL.opS trivial rfl (OpW.move (v := .bool (!decide (x91.2 = 0))) rfl ?_)
              refine jn_elim h ?_; clear h; intro k104 hk105 h
              refine RL.joinAt (A := Bool) 6 (fun s97 ρ => ρ 103 = .bool s97 ∧ ρ 5 = .pointer x15.1 ∧ ρ 7 = .pointer s69 ∧ ρ 80 = .int .i64 s82) k104 ?_ ?_
              · rintro s97 ρ w98 ⟨e99, e100, e101, e102⟩ h
                subst hk105
                dsimp only [List.drop]
                refine RL.nil ?_
                obtain ⟨ha, hc⟩ := h
                refine CW.cond (b := s97) e99 (fun hb103 => ?_) (fun hb103 => ?_)
                · have h := ha hb103; clear ha hc
                  refine CW.seq ?_
                  refine CW.region ?_
                  refine RL.opS trivial rfl (OpW.assign (v := .bool false) rfl ?_)
                  refine RL.nil ?_
                  refine CW.ret ?_
                  exact ret_intro (res1 rfl rfl) ⟨false, rfl, h⟩
                · have h := hc hb103; clear ha hc
                  refine CW.skip ?_
                  refine CW.region ?_
                  refine RL.opS trivial rfl (OpW.bin (k := .i64) (a := s82) (b := 1) (v := .int .i64 (IntKind.i64.wrap (s82 + 1))) e102 rfl rfl ?_)
                  refine RL.opS trivial rfl (OpW.move (v := .int .i64 (IntKind.i64.wrap (s82 + 1))) rfl ?_)
                  refine RL.nil ?_
                  exact ⟨(IntKind.i64.wrap (s82 + 1)), ⟨rfl, e100, e101⟩, h⟩
              · clear hk105
                dsimp only [List.take]
                obtain ⟨ha, hc⟩ := h
                rcases Bool.eq_false_or_eq_true (!decide (x91.2 = 0)) with hb93 | hb93
                · have h := ha hb93; clear ha hc
                  refine RL.skipS (notWanted_of rfl rfl hb93) rfl ?_
                  refine RL.skipS (notWanted_of rfl rfl hb93) rfl ?_
                  refine RL.skipS (notWanted_of rfl rfl hb93) rfl ?_
                  refine RL.skipS (notWanted_of rfl rfl hb93) rfl ?_
                  refine RL.skipS (notWanted_of rfl rfl hb93) rfl ?_
                  refine RL.opS trivial rfl (OpW.pick (b := true) (v := .bool true) (congrArg Value.bool hb93) rfl ?_)
                  refine RL.nil ?_
                  exact ⟨true, ⟨rfl, e86, e87, e85⟩, h⟩
                · have h := hc hb93; clear ha hc
                  refine RL.opS (wanted_of rfl rfl hb93) rfl (OpW.move (v := Sl.v x89.1) rfl ?_)
                  obtain ⟨x95, h1, h2, h⟩ := h
                  refine RL.opS (wanted_of rfl rfl hb93) rfl (OpW.b2s bsl_39 str_9 rfl h1 h2 ?_)
                  refine RL.opS (wanted_of rfl rfl hb93) rfl (OpW.move (v := Sl.v x91.1) rfl ?_)
                  obtain ⟨x96, h1, h2, h⟩ := h
                  refine RL.opS (wanted_of rfl rfl hb93) rfl (OpW.b2s bsl_39 str_9 rfl h1 h2 ?_)
                  refine RL.opS (wanted_of rfl rfl hb93) rfl (OpW.strCmp (b := !decide (x95 = x96)) rfl rfl rfl ?_)
                  refine RL.opS trivial rfl (OpW.pick (b := false) (v := .bool (!decide (x95 = x96))) (congrArg Value.bool hb93) rfl ?_)
                  refine RL.nil ?_
                  exact ⟨(!decide (x95 = x96)), ⟨rfl, e86, e87, e85⟩, h⟩
            · have h := hc hb88; clear ha hc
              refine CW.exit ?_
              refine CW.seq ?_
              refine CW.region ?_
              refine RL.opS trivial rfl (OpW.assign (v := .bool true) rfl ?_)
              refine RL.nil ?_
              refine CW.ret ?_
              exact ret_intro (res1 rfl rfl) ⟨true, rfl, h⟩
        · clear hk109
          refine CW.seq ?_
          refine CW.region ?_
          refine RL.opS trivial rfl (OpW.move (v := .bool p1) e24 ?_)
          refine RL.nil ?_
          obtain ⟨ha, hc⟩ := h
          refine CW.cond (b := p1) rfl (fun hb67 => ?_) (fun hb67 => ?_)
          · have h := ha hb67; clear ha hc
            refine CW.seq ?_
            refine CW.region ?_
            refine RL.opS trivial rfl (OpW.fieldAddr field_27_1 rfl ?_)
            obtain ⟨u_, h1, h2, h⟩ := h
            obtain ⟨w68, hw68_⟩ : ∃ w_, w_ = w65.setCell (Addr.add ⟨b64, 0, none⟩ 1) (.int .u64 18446744073709551615) := ⟨_, rfl⟩
            have h := h w68 hw68_
            refine RL.opN trivial (OpW.store1E (v := .int .u64 18446744073709551615) size_25 rfl rfl rfl h1 h2 hw68_ ?_)
            refine RL.nil ?_
            refine CW.region ?_
            refine RL.opS trivial rfl (OpW.move (v := .pointer x62) rfl ?_)
            refine RL.opS trivial rfl (OpW.assign (v := .pointer x62) rfl ?_)
            refine RL.nil ?_
            exact ⟨x62, ⟨rfl, e25, rfl⟩, h⟩
          · have h := hc hb67; clear ha hc
            refine CW.skip ?_
            exact ⟨s19.1, ⟨e22, e25, rfl⟩, h⟩
  · clear hk113
    dsimp only [List.take]
    obtain ⟨ha, hc⟩ := h
    rcases Bool.eq_false_or_eq_true (!x1) with hb3 | hb3
    · have h := ha hb3; clear ha hc
      refine RL.skipS (notWanted_of rfl rfl hb3) rfl ?_
      refine RL.skipS (notWanted_of rfl rfl hb3) rfl ?_
      refine RL.skipS (notWanted_of rfl rfl hb3) rfl ?_
      refine RL.opS trivial rfl (OpW.pick (b := true) (v := .bool true) (congrArg Value.bool hb3) rfl ?_)
      refine RL.nil ?_
      exact ⟨true, ⟨rfl, rfl, rfl⟩, h⟩
    · have h := hc hb3; clear ha hc
      refine RL.opS (wanted_of rfl rfl hb3) rfl (OpW.move (v := Sl.v p0) rfl ?_)
      refine RL.opS (wanted_of rfl rfl hb3) rfl (OpW.callR (al := [.int .i64 1, Sl.v p0]) Try.func31 fb_31 fn_31 rfl h (fun x5 w6 h => ?_))
      refine RL.opS (wanted_of rfl rfl hb3) rfl (OpW.not rfl ?_)
      refine RL.opS trivial rfl (OpW.pick (b := false) (v := .bool (!x5)) (congrArg Value.bool hb3) rfl ?_)
      refine RL.nil ?_
      exact ⟨(!x5), ⟨rfl, rfl, rfl⟩, h⟩
end Go.Proofs.Ytagkcbbbdlmcjaa
