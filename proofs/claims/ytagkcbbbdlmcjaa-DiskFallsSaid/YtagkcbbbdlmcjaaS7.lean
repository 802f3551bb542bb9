/- The typed readings of the functions, and that the program meets each: written by gen.py (a program of this session). -/
import Derived.Test.YtagkcbbbdlmcjaaLiftDraw
import Derived.Test.YtagkcbbbdlmcjaaRead
set_option linter.unusedVariables false
set_option linter.unusedSimpArgs false
namespace Go.Proofs.Ytagkcbbbdlmcjaa
open Go.Lift
set_option maxRecDepth 100000 in
set_option maxHeartbeats 4000000 in
theorem s7_calls (K : Bool → World → Prop) (p0 : Int) (p1 : Int) (p2 : Int) (w : World) (h : s7 K p0 p1 p2 w) :
    Calls Try.prog 7 #[.int .i64 p0, .int .i64 p1, .int .u64 p2] w (Ret r7 K) := by
  unfold s7 at h
  refine calls_of_CW (n := 77) Try.func7 rfl rfl rfl ?_
  refine CW.seq ?_
  refine CW.region ?_
  refine RL.opS trivial rfl (OpW.assign (v := .bool false) rfl ?_)
  refine RL.nil ?_
  refine CW.seq ?_
  refine CW.seq ?_
  refine CW.region ?_
  refine RL.opS trivial rfl (OpW.callR (al := []) Try.func30 fb_30 fn_30 rfl h (fun x1 w2 h => ?_))
  refine RL.opS trivial rfl (OpW.not rfl ?_)
  refine RL.opS trivial rfl (OpW.move (v := .bool (!x1)) rfl ?_)
  refine jn_elim h ?_; clear h; intro k92 hk93 h
  refine RL.joinAt (A := Bool) 3 (fun s5 ρ => ρ 16 = .bool s5 ∧ ρ 0 = .int .i64 p0 ∧ ρ 1 = .int .i64 p1 ∧ ρ 2 = .int .u64 p2) k92 ?_ ?_
  · rintro s5 ρ w6 ⟨e7, e8, e9, e10⟩ h
    subst hk93
    dsimp only [List.drop]
    refine RL.opS trivial rfl (OpW.move (v := .bool s5) e7 ?_)
    refine jn_elim h ?_; clear h; intro k90 hk91 h
    refine RL.joinAt (A := Bool) 3 (fun s13 ρ => ρ 20 = .bool s13 ∧ ρ 0 = .int .i64 p0 ∧ ρ 1 = .int .i64 p1 ∧ ρ 2 = .int .u64 p2) k90 ?_ ?_
    · rintro s13 ρ w14 ⟨e15, e16, e17, e18⟩ h
      subst hk91
      dsimp only [List.drop]
      refine RL.nil ?_
      obtain ⟨ha, hc⟩ := h
      refine CW.cond (b := s13) e15 (fun hb19 => ?_) (fun hb19 => ?_)
      · have h := ha hb19; clear ha hc
        refine CW.seq ?_
        refine CW.region ?_
        refine RL.opS trivial rfl (OpW.callR (al := []) Try.func30 fb_30 fn_30 rfl h (fun x20 w21 h => ?_))
        refine RL.opS trivial rfl (OpW.assign (v := .bool x20) rfl ?_)
        refine RL.nil ?_
        refine CW.ret ?_
        exact ret_intro (res1 rfl rfl) ⟨x20, rfl, h⟩
      · have h := hc hb19; clear ha hc
        refine CW.skip ?_
        refine CW.seq ?_
        refine CW.region ?_
        refine RL.opS trivial rfl (OpW.callR (al := [.int .i64 4]) Try.func15 fb_15 fn_15 rfl h (fun x22 w23 h => ?_))
        refine RL.opS trivial rfl (OpW.move (v := .tuple #[.pointer x22.1, .int .i64 x22.2]) rfl ?_)
        refine RL.opS trivial rfl (OpW.extract (v := .pointer x22.1) rfl rfl ?_)
        refine RL.opS trivial rfl (OpW.extract (v := .int .i64 x22.2) rfl rfl ?_)
        refine RL.opS trivial rfl (OpW.assign (v := .pointer x22.1) rfl ?_)
        refine RL.opS trivial rfl (OpW.assign (v := .int .i64 x22.2) rfl ?_)
        refine RL.nil ?_
        refine CW.seq ?_
        refine CW.region ?_
        refine RL.opS trivial rfl (OpW.move (v := .pointer x22.1) rfl ?_)
        refine RL.opS trivial rfl (OpW.move (v := .int .i64 p0) e16 ?_)
        refine RL.opS trivial rfl (OpW.move (v := .int .u64 p2) e18 ?_)
        refine RL.opS trivial rfl (OpW.buildL (vs := [(0, .int .i64 p0), (1, .int .u64 p2)]) (cs := [.int .i64 p0, .int .u64 p2, Value.int .i64 0]) (by rfl) (fun _ => by kernel_rfl) ?_)
        obtain ⟨hl_, ho_, h⟩ := h
        obtain ⟨b24, hb24_⟩ : ∃ b_, b_ = w23.heap.size := ⟨_, rfl⟩
        obtain ⟨w25, hw25_⟩ : ∃ w_, w_ = w23.alloc (.cells (List.toArray [.int .i64 p0, .int .u64 p2, Value.int .i64 0]) 27) := ⟨_, rfl⟩
        have h := h b24 w25 hb24_ hw25_
        refine RL.opS trivial rfl (OpW.buildSliceE (vs := [(0, aggv [.int .i64 p0, .int .u64 p2, Value.int .i64 0])]) (cs := [.int .i64 p0, .int .u64 p2, Value.int .i64 0]) (by rfl) (fillOne mkz_47 (by simp) (by decide) (by decide) hl_) hb24_ hw25_ ?_)
        refine RL.opS trivial rfl (OpW.callR (al := [.pointer x22.1, Sl.v ⟨some ⟨b24, 0, none⟩, 1, 1⟩]) Try.func37 fb_37 fn_37 rfl h (fun x26 w27 h => ?_))
        refine RL.nil ?_
        refine CW.seq ?_
        refine CW.seq ?_
        refine CW.region ?_
        refine RL.opS trivial rfl (OpW.move (v := .int .i64 p1) e17 ?_)
        refine RL.opS trivial rfl (OpW.move (v := .int .i64 0) rfl ?_)
        refine RL.nil ?_
        refine CW.block ?_
        obtain ⟨I88, mu89, hI, hs⟩ := h
        refine CW.loop (σ := Int) (fun s28 ρ => ρ 33 = .int .i64 s28 ∧ ρ 0 = .int .i64 p0 ∧ ρ 1 = .int .i64 p1 ∧ ρ 7 = .pointer x22.1 ∧ ρ 32 = .int .i64 p1) I88 mu89 0 ⟨rfl, e16, e17, rfl, rfl⟩ hI ?_
        rintro s28 ρ w29 ⟨e31, e32, e33, e34, e35⟩ hI
        have h := hs s28 w29 hI
        clear hs hI
        refine CW.seq ?_
        refine CW.region ?_
        refine RL.opS trivial rfl (OpW.bin (k := .i64) (a := s28) (b := p1) (v := .bool (decide (s28 < p1))) e31 e35 rfl ?_)
        refine RL.nil ?_
        refine CW.seq ?_
        obtain ⟨ha, hc⟩ := h
        refine CW.cond (b := (decide (s28 < p1))) rfl (fun hb36 => ?_) (fun hb36 => ?_)
        · have h := ha hb36; clear ha hc
          refine CW.skip ?_
          refine CW.seq ?_
          refine CW.block ?_
          refine CW.seq ?_
          refine CW.region ?_
          refine RL.opS trivial rfl (OpW.move (v := .int .i64 s28) e31 ?_)
          refine RL.opS trivial rfl (OpW.assign (v := .int .i64 s28) rfl ?_)
          refine RL.nil ?_
          refine CW.seq ?_
          refine CW.region ?_
          refine RL.opS trivial rfl (OpW.assign (v := .int .i64 0) rfl ?_)
          refine RL.nil ?_
          refine jn_elim h ?_; clear h; intro k84 hk85 h
          refine CW.seqJ (A := Int) (fun s45 ρ => ρ 10 = .int .i64 s45 ∧ ρ 0 = .int .i64 p0 ∧ ρ 1 = .int .i64 p1 ∧ ρ 7 = .pointer x22.1 ∧ ρ 9 = .int .i64 s28 ∧ ρ 32 = .int .i64 p1 ∧ ρ 33 = .int .i64 s28) k84 ?_ ?_
          · rintro s45 ρ w46 ⟨e47, e48, e49, e50, e51, e52, e53⟩ h
            subst hk85
            refine CW.seq ?_
            refine CW.seq ?_
            refine CW.region ?_
            refine RL.opS trivial rfl (OpW.move (v := .int .i64 s45) e47 ?_)
            refine RL.opS trivial rfl (OpW.bin (k := .i64) (a := s45) (b := 6) (v := .bool (decide (s45 = 6))) rfl rfl rfl ?_)
            refine RL.opS trivial rfl (OpW.move (v := .int .i64 s28) e51 ?_)
            refine RL.opS trivial rfl (OpW.move (v := .int .i64 p0) e48 ?_)
            refine RL.opS trivial rfl (OpW.bin (k := .i64) (a := s28) (b := p0) (v := .bool (decide (s28 = p0))) rfl rfl rfl ?_)
            refine RL.opS trivial rfl (OpW.boolCmp (b := !((decide (s45 = 6)) == (decide (s28 = p0)))) ub_4 rfl rfl rfl ?_)
            refine RL.opS trivial rfl (OpW.move (v := .bool (!((decide (s45 = 6)) == (decide (s28 = p0))))) rfl ?_)
            refine jn_elim h ?_; clear h; intro k82 hk83 h
            refine RL.joinAt (A := Bool) 7 (fun s56 ρ => ρ 61 = .bool s56 ∧ ρ 0 = .int .i64 p0 ∧ ρ 1 = .int .i64 p1 ∧ ρ 7 = .pointer x22.1 ∧ ρ 9 = .int .i64 s28 ∧ ρ 32 = .int .i64 p1 ∧ ρ 33 = .int .i64 s28) k82 ?_ ?_
            · rintro s56 ρ w57 ⟨e58, e59, e60, e61, e62, e63, e64⟩ h
              subst hk83
              dsimp only [List.drop]
              refine RL.opS trivial rfl (OpW.move (v := .bool s56) e58 ?_)
              refine jn_elim h ?_; clear h; intro k80 hk81 h
              refine RL.joinAt (A := Bool) 7 (fun s69 ρ => ρ 69 = .bool s69 ∧ ρ 0 = .int .i64 p0 ∧ ρ 1 = .int .i64 p1 ∧ ρ 7 = .pointer x22.1 ∧ ρ 32 = .int .i64 p1 ∧ ρ 33 = .int .i64 s28) k80 ?_ ?_
              · rintro s69 ρ w70 ⟨e71, e72, e73, e74, e75, e76⟩ h
                subst hk81
                dsimp only [List.drop]
                refine RL.nil ?_
                obtain ⟨ha, hc⟩ := h
                refine CW.cond (b := s69) e71 (fun hb77 => ?_) (fun hb77 => ?_)
                · have h := ha hb77; clear ha hc
                  refine CW.seq ?_
                  refine CW.region ?_
                  refine RL.opS trivial rfl (OpW.assign (v := .bool false) rfl ?_)
                  refine RL.nil ?_
                  refine CW.ret ?_
                  exact ret_intro (res1 rfl rfl) ⟨false, rfl, h⟩
                · have h := hc hb77; clear ha hc
                  refine CW.skip ?_
                  refine CW.region ?_
                  refine RL.opS trivial rfl (OpW.move (v := .pointer x22.1) e74 ?_)
                  refine RL.opS trivial rfl (OpW.callR (al := [.pointer x22.1]) Try.func27 fb_27 fn_27 rfl h (fun x78 w79 h => ?_))
                  refine RL.nil ?_
                  refine CW.region ?_
                  refine RL.opS trivial rfl (OpW.bin (k := .i64) (a := s28) (b := 1) (v := .int .i64 (IntKind.i64.wrap (s28 + 1))) e76 rfl rfl ?_)
                  refine RL.opS trivial rfl (OpW.move (v := .int .i64 (IntKind.i64.wrap (s28 + 1))) rfl ?_)
                  refine RL.nil ?_
                  exact ⟨(IntKind.i64.wrap (s28 + 1)), ⟨rfl, e72, e73, e74, e75⟩, h⟩
              · clear hk81
                dsimp only [List.take]
                obtain ⟨ha, hc⟩ := h
                rcases Bool.eq_false_or_eq_true s56 with hb65 | hb65
                · have h := ha hb65; clear ha hc
                  refine RL.skipS (notWanted_of rfl rfl hb65) rfl ?_
                  refine RL.skipS (notWanted_of rfl rfl hb65) rfl ?_
                  refine RL.skipS (notWanted_of rfl rfl hb65) rfl ?_
                  refine RL.skipS (notWanted_of rfl rfl hb65) rfl ?_
                  refine RL.skipS (notWanted_of rfl rfl hb65) rfl ?_
                  refine RL.skipS (notWanted_of rfl rfl hb65) rfl ?_
                  refine RL.opS trivial rfl (OpW.pick (b := true) (v := .bool true) (congrArg Value.bool hb65) rfl ?_)
                  refine RL.nil ?_
                  exact ⟨true, ⟨rfl, e59, e60, e61, e63, e64⟩, h⟩
                · have h := hc hb65; clear ha hc
                  refine RL.opS (wanted_of rfl rfl hb65) rfl (OpW.move (v := .pointer x22.1) e61 ?_)
                  refine RL.opS (wanted_of rfl rfl hb65) rfl (OpW.callR (al := [.pointer x22.1]) Try.func38 fb_38 fn_38 rfl h (fun x67 w68 h => ?_))
                  refine RL.opS (wanted_of rfl rfl hb65) rfl (OpW.move (v := .int .i64 s28) e62 ?_)
                  refine RL.opS (wanted_of rfl rfl hb65) rfl (OpW.move (v := .int .i64 p0) e59 ?_)
                  refine RL.opS (wanted_of rfl rfl hb65) rfl (OpW.bin (k := .i64) (a := s28) (b := p0) (v := .bool (decide (s28 = p0))) rfl rfl rfl ?_)
                  refine RL.opS (wanted_of rfl rfl hb65) rfl (OpW.boolCmp (b := !(x67 == (decide (s28 = p0)))) ub_4 rfl rfl rfl ?_)
                  refine RL.opS trivial rfl (OpW.pick (b := false) (v := .bool (!(x67 == (decide (s28 = p0))))) (congrArg Value.bool hb65) rfl ?_)
                  refine RL.nil ?_
                  exact ⟨(!(x67 == (decide (s28 = p0)))), ⟨rfl, e59, e60, e61, e63, e64⟩, h⟩
            · clear hk83
              dsimp only [List.take]
              obtain ⟨ha, hc⟩ := h
              rcases Bool.eq_false_or_eq_true (!((decide (s45 = 6)) == (decide (s28 = p0)))) with hb54 | hb54
              · have h := ha hb54; clear ha hc
                refine RL.skipS (notWanted_of rfl rfl hb54) rfl ?_
                refine RL.skipS (notWanted_of rfl rfl hb54) rfl ?_
                refine RL.skipS (notWanted_of rfl rfl hb54) rfl ?_
                refine RL.skipS (notWanted_of rfl rfl hb54) rfl ?_
                refine RL.skipS (notWanted_of rfl rfl hb54) rfl ?_
                refine RL.skipS (notWanted_of rfl rfl hb54) rfl ?_
                refine RL.opS trivial rfl (OpW.pick (b := true) (v := .bool true) (congrArg Value.bool hb54) rfl ?_)
                refine RL.nil ?_
                exact ⟨true, ⟨rfl, e48, e49, e50, e51, e52, e53⟩, h⟩
              · have h := hc hb54; clear ha hc
                refine RL.opS (wanted_of rfl rfl hb54) rfl (OpW.move (v := .int .i64 s45) e47 ?_)
                refine RL.opS (wanted_of rfl rfl hb54) rfl (OpW.bin (k := .i64) (a := s45) (b := 0) (v := .bool (decide (s45 = 0))) rfl rfl rfl ?_)
                refine RL.opS (wanted_of rfl rfl hb54) rfl (OpW.move (v := .int .i64 s28) e51 ?_)
                refine RL.opS (wanted_of rfl rfl hb54) rfl (OpW.move (v := .int .i64 p0) e48 ?_)
                refine RL.opS (wanted_of rfl rfl hb54) rfl (OpW.bin (k := .i64) (a := s28) (b := p0) (v := .bool (!decide (s28 = p0))) rfl rfl rfl ?_)
                refine RL.opS (wanted_of rfl rfl hb54) rfl (OpW.boolCmp (b := !((decide (s45 = 0)) == (!decide (s28 = p0)))) ub_4 rfl rfl rfl ?_)
                refine RL.opS trivial rfl (OpW.pick (b := false) (v := .bool (!((decide (s45 = 0)) == (!decide (s28 = p0))))) (congrArg Value.bool hb54) rfl ?_)
                refine RL.nil ?_
                exact ⟨(!((decide (s45 = 0)) == (!decide (s28 = p0)))), ⟨rfl, e48, e49, e50, e51, e52, e53⟩, h⟩
          · clear hk85
            refine CW.seq ?_
            refine CW.region ?_
            refine RL.opS trivial rfl (OpW.move (v := .int .i64 s28) rfl ?_)
            refine RL.opS trivial rfl (OpW.quo (a := s28) (b := 3) (v := .int .i64 (Int.tmod s28 3)) rfl rfl (by decide) rfl ?_)
            refine RL.opS trivial rfl (OpW.bin (k := .i64) (a := (Int.tmod s28 3)) (b := 2) (v := .bool (decide ((Int.tmod s28 3) = 2))) rfl rfl rfl ?_)
            refine RL.nil ?_
            obtain ⟨ha, hc⟩ := h
            refine CW.cond (b := (decide ((Int.tmod s28 3) = 2))) rfl (fun hb38 => ?_) (fun hb38 => ?_)
            · have h := ha hb38; clear ha hc
              refine CW.region ?_
              refine RL.opS trivial rfl (OpW.move (v := .pointer x22.1) e34 ?_)
              refine RL.opS trivial rfl (OpW.callR (al := [.pointer x22.1]) Try.func34 fb_34 fn_34 rfl h (fun x39 w40 h => ?_))
              refine RL.opS trivial rfl (OpW.assign (v := .int .i64 x39) rfl ?_)
              refine RL.nil ?_
              exact ⟨x39, ⟨rfl, e32, e33, e34, rfl, e35, e31⟩, h⟩
            · have h := hc hb38; clear ha hc
              refine CW.region ?_
              refine RL.opS trivial rfl (OpW.move (v := .pointer x22.1) e34 ?_)
              refine RL.opS trivial rfl (OpW.move (v := .int .i64 s28) rfl ?_)
              refine RL.opS trivial rfl (OpW.quo (a := s28) (b := 4) (v := .int .i64 (Int.tmod s28 4)) rfl rfl (by decide) rfl ?_)
              refine RL.opS trivial rfl (OpW.move (v := .int .i64 s28) rfl ?_)
              refine RL.opS trivial rfl (OpW.convInt (a := s28) int_3 int_5 rfl ?_)
              refine RL.opS trivial rfl (OpW.callR (al := [.int .u8 (IntKind.u8.wrap s28), str []]) Try.func32 fb_32 fn_32 rfl h (fun x41 w42 h => ?_))
              refine RL.opS trivial rfl (OpW.callR (al := [.pointer x22.1, .int .i64 (Int.tmod s28 4), Sl.v x41]) Try.func33 fb_33 fn_33 rfl h (fun x43 w44 h => ?_))
              refine RL.opS trivial rfl (OpW.assign (v := .int .i64 x43) rfl ?_)
              refine RL.nil ?_
              exact ⟨x43, ⟨rfl, e32, e33, e34, rfl, e35, e31⟩, h⟩
        · have h := hc hb36; clear ha hc
          refine CW.exit ?_
          refine CW.seq ?_
          refine CW.region ?_
          refine RL.opS trivial rfl (OpW.move (v := .pointer x22.1) e34 ?_)
          refine RL.opS trivial rfl (OpW.callR (al := [.pointer x22.1]) Try.func19 fb_19 fn_19 rfl h (fun x86 w87 h => ?_))
          refine RL.opS trivial rfl (OpW.move (v := .int .i64 p1) e33 ?_)
          refine RL.opS trivial rfl (OpW.bin (k := .i64) (a := x86) (b := p1) (v := .bool (decide (x86 = p1))) rfl rfl rfl ?_)
          refine RL.opS trivial rfl (OpW.assign (v := .bool (decide (x86 = p1))) rfl ?_)
          refine RL.nil ?_
          refine CW.ret ?_
          exact ret_intro (res1 rfl rfl) ⟨(decide (x86 = p1)), rfl, h⟩
    · clear hk91
      dsimp only [List.take]
      obtain ⟨ha, hc⟩ := h
      rcases Bool.eq_false_or_eq_true s5 with hb11 | hb11
      · have h := ha hb11; clear ha hc
        refine RL.skipS (notWanted_of rfl rfl hb11) rfl ?_
        refine RL.skipS (notWanted_of rfl rfl hb11) rfl ?_
        refine RL.opS trivial rfl (OpW.pick (b := true) (v := .bool true) (congrArg Value.bool hb11) rfl ?_)
        refine RL.nil ?_
        exact ⟨true, ⟨rfl, e8, e9, e10⟩, h⟩
      · have h := hc hb11; clear ha hc
        refine RL.opS (wanted_of rfl rfl hb11) rfl (OpW.move (v := .int .i64 p1) e9 ?_)
        refine RL.opS (wanted_of rfl rfl hb11) rfl (OpW.bin (k := .i64) (a := p1) (b := 40) (v := .bool (decide (40 < p1))) rfl rfl rfl ?_)
        refine RL.opS trivial rfl (OpW.pick (b := false) (v := .bool (decide (40 < p1))) (congrArg Value.bool hb11) rfl ?_)
        refine RL.nil ?_
        exact ⟨(decide (40 < p1)), ⟨rfl, e8, e9, e10⟩, h⟩
  · clear hk93
    dsimp only [List.take]
    obtain ⟨ha, hc⟩ := h
    rcases Bool.eq_false_or_eq_true (!x1) with hb3 | hb3
    · have h := ha hb3; clear ha hc
      refine RL.skipS (notWanted_of rfl rfl hb3) rfl ?_
      refine RL.skipS (notWanted_of rfl rfl hb3) rfl ?_
      refine RL.opS trivial rfl (OpW.pick (b := true) (v := .bool true) (congrArg Value.bool hb3) rfl ?_)
      refine RL.nil ?_
      exact ⟨true, ⟨rfl, rfl, rfl, rfl⟩, h⟩
    · have h := hc hb3; clear ha hc
      refine RL.opS (wanted_of rfl rfl hb3) rfl (OpW.move (v := .int .i64 p1) rfl ?_)
      refine RL.opS (wanted_of rfl rfl hb3) rfl (OpW.bin (k := .i64) (a := p1) (b := 0) (v := .bool (decide (p1 < 0))) rfl rfl rfl ?_)
      refine RL.opS trivial rfl (OpW.pick (b := false) (v := .bool (decide (p1 < 0))) (congrArg Value.bool hb3) rfl ?_)
      refine RL.nil ?_
      exact ⟨(decide (p1 < 0)), ⟨rfl, rfl, rfl, rfl⟩, h⟩
end Go.Proofs.Ytagkcbbbdlmcjaa
