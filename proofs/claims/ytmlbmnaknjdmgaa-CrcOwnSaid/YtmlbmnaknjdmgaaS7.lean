/- The typed readings of the functions, and that the program meets each: written by gen.py (a program of this session). -/
import Derived.Test.YtmlbmnaknjdmgaaLiftDraw
import Derived.Test.YtmlbmnaknjdmgaaRead
set_option linter.unusedVariables false
set_option linter.unusedSimpArgs false
namespace Go.Proofs.Ytmlbmnaknjdmgaa
open Go.Lift
set_option maxRecDepth 100000 in
set_option maxHeartbeats 4000000 in
theorem s7_calls (K : Bool → World → Prop) (p0 : Sl) (w : World) (h : s7 K p0 w) :
    Calls Try.prog 7 #[Sl.v p0] w (Ret r7 K) := by
  unfold s7 at h
  refine calls_of_CW (n := 72) Try.func7 rfl rfl rfl ?_
  refine CW.seq ?_
  refine CW.region ?_
  refine RL.opS trivial rfl (OpW.assign (v := .bool false) rfl ?_)
  refine RL.nil ?_
  refine CW.seq ?_
  refine CW.seq ?_
  refine CW.region ?_
  refine RL.opS trivial rfl (OpW.callR (al := []) Try.func8 fb_8 fn_8 rfl h (fun x1 w2 h => ?_))
  refine RL.opS trivial rfl (OpW.not rfl ?_)
  refine RL.opS trivial rfl (OpW.move (v := .bool (!x1)) rfl ?_)
  refine jn_elim h ?_; clear h; intro k76 hk77 h
  refine RL.joinAt (A := Bool) 4 (fun s5 ρ => ρ 15 = .bool s5 ∧ ρ 0 = Sl.v p0) k76 ?_ ?_
  · rintro s5 ρ w6 ⟨e7, e8⟩ h
    subst hk77
    dsimp only [List.drop]
    refine RL.nil ?_
    obtain ⟨ha, hc⟩ := h
    refine CW.cond (b := s5) e7 (fun hb9 => ?_) (fun hb9 => ?_)
    · have h := ha hb9; clear ha hc
      refine CW.seq ?_
      refine CW.region ?_
      refine RL.opS trivial rfl (OpW.callR (al := []) Try.func8 fb_8 fn_8 rfl h (fun x10 w11 h => ?_))
      refine RL.opS trivial rfl (OpW.assign (v := .bool x10) rfl ?_)
      refine RL.nil ?_
      refine CW.ret ?_
      exact ret_intro (res1 rfl rfl) ⟨x10, rfl, h⟩
    · have h := hc hb9; clear ha hc
      refine CW.skip ?_
      refine CW.seq ?_
      refine CW.region ?_
      refine RL.opS trivial rfl (OpW.move (v := Sl.v p0) e8 ?_)
      refine RL.opS trivial rfl (OpW.len (s := p0) slice_25 rfl ?_)
      refine RL.opS trivial rfl (OpW.bin (k := .i64) (a := (p0.len : Int)) (b := 8) (v := .int .i64 (IntKind.i64.wrap ((p0.len : Int) + 8))) rfl rfl rfl ?_)
      obtain ⟨h1, h2, h3, h4, h⟩ := h
      obtain ⟨b12, hb12_⟩ : ∃ b_, b_ = w6.heap.size := ⟨_, rfl⟩
      obtain ⟨w13, hw13_⟩ : ∃ w_, w_ = w6.alloc (.cells (List.replicate (Int.toNat (IntKind.i64.wrap ((p0.len : Int) + 8)) * 1) (Value.int .u8 0)).toArray 5) := ⟨_, rfl⟩
      have h := h b12 w13 hb12_ hw13_
      obtain ⟨x14, hx14_⟩ : ∃ s_ : Sl, s_ = ⟨some ⟨b12, 0, none⟩, Int.toNat 0, Int.toNat (IntKind.i64.wrap ((p0.len : Int) + 8))⟩ := ⟨_, rfl⟩
      rw [← hx14_] at h
      refine RL.opS trivial rfl (OpW.makeSliceE mk_25 (by decide) rfl rfl h1 h2 h3 h4 hb12_ hw13_ hx14_ ?_)
      refine RL.opS trivial rfl (OpW.move (v := Sl.v p0) e8 ?_)
      obtain ⟨x15, w16, hr_, h⟩ := h
      refine RL.opS trivial rfl (OpW.appendL (v := Sl.v x15) rfl hr_ ?_)
      obtain ⟨b17, hb17_⟩ : ∃ b_, b_ = w16.heap.size := ⟨_, rfl⟩
      obtain ⟨w18, hw18_⟩ : ∃ w_, w_ = w16.alloc (.cells (List.toArray [.int .u8 1, .int .u8 2, .int .u8 3, .int .u8 4]) 5) := ⟨_, rfl⟩
      have h := h b17 w18 hb17_ hw18_
      refine RL.opS trivial rfl (OpW.buildSliceE (vs := [(0, .int .u8 1), (1, .int .u8 2), (2, .int .u8 3), (3, .int .u8 4)]) (cs := [.int .u8 1, .int .u8 2, .int .u8 3, .int .u8 4]) (by rfl) (by kernel_rfl) hb17_ hw18_ ?_)
      obtain ⟨x19, w20, hr_, h⟩ := h
      refine RL.opS trivial rfl (OpW.appendL (v := Sl.v x19) rfl hr_ ?_)
      refine RL.opS trivial rfl (OpW.assign (v := Sl.v x19) rfl ?_)
      refine RL.nil ?_
      refine CW.seq ?_
      refine CW.region ?_
      refine RL.opS trivial rfl (OpW.move (v := Sl.v x19) rfl ?_)
      refine RL.opS trivial rfl (OpW.move (v := Sl.v p0) e8 ?_)
      refine RL.opS trivial rfl (OpW.len (s := p0) slice_25 rfl ?_)
      obtain ⟨⟨h1, h2, h3⟩, h⟩ := h
      refine RL.opS trivial rfl (OpW.sliceSl (l := 0) (h := (p0.len : Int)) slice_25 rfl rfl ⟨_, rfl⟩ h1 h2 (.inr h3) ?_)
      refine RL.opS trivial rfl (OpW.assign (v := Sl.v (x19.cut 1 0 (p0.len : Int) x19.cap)) rfl ?_)
      refine RL.nil ?_
      refine CW.seq ?_
      refine CW.region ?_
      refine RL.opS trivial rfl (OpW.move (v := Sl.v (x19.cut 1 0 (p0.len : Int) x19.cap)) rfl ?_)
      refine RL.opS trivial rfl (OpW.callR (al := [Sl.v (x19.cut 1 0 (p0.len : Int) x19.cap)]) Try.func12 fb_12 fn_12 rfl h (fun x21 w22 h => ?_))
      refine RL.opS trivial rfl (OpW.assign (v := Sl.v x21) rfl ?_)
      refine RL.nil ?_
      refine CW.seq ?_
      refine CW.region ?_
      refine RL.opS trivial rfl (OpW.move (v := Sl.v x21) rfl ?_)
      refine RL.opS trivial rfl (OpW.callR (al := [Sl.v x21]) Try.func14 fb_14 fn_14 rfl h (fun x23 w24 h => ?_))
      refine RL.opS trivial rfl (OpW.move (v := .tuple #[Sl.v x23.1, .int .i64 x23.2]) rfl ?_)
      refine RL.opS trivial rfl (OpW.extract (v := Sl.v x23.1) rfl rfl ?_)
      refine RL.opS trivial rfl (OpW.extract (v := .int .i64 x23.2) rfl rfl ?_)
      refine RL.opS trivial rfl (OpW.assign (v := Sl.v x23.1) rfl ?_)
      refine RL.opS trivial rfl (OpW.assign (v := .int .i64 x23.2) rfl ?_)
      refine RL.nil ?_
      refine CW.seq ?_
      refine CW.seq ?_
      refine CW.region ?_
      refine RL.opS trivial rfl (OpW.move (v := Sl.v x21) rfl ?_)
      refine RL.opS trivial rfl (OpW.len (s := x21) slice_25 rfl ?_)
      refine RL.opS trivial rfl (OpW.move (v := .int .i64 0) rfl ?_)
      refine RL.nil ?_
      refine CW.block ?_
      obtain ⟨I74, mu75, hI, hs⟩ := h
      refine CW.loop (σ := Int) (fun s25 ρ => ρ 38 = .int .i64 s25 ∧ ρ 0 = Sl.v p0 ∧ ρ 3 = Sl.v x19 ∧ ρ 4 = Sl.v (x19.cut 1 0 (p0.len : Int) x19.cap) ∧ ρ 5 = Sl.v x21 ∧ ρ 6 = Sl.v x23.1 ∧ ρ 7 = .int .i64 x23.2 ∧ ρ 37 = .int .i64 (x21.len : Int)) I74 mu75 0 ⟨rfl, e8, rfl, rfl, rfl, rfl, rfl, rfl⟩ hI ?_
      rintro s25 ρ w26 ⟨e28, e29, e30, e31, e32, e33, e34, e35⟩ hI
      have h := hs s25 w26 hI
      clear hs hI
      refine CW.seq ?_
      refine CW.region ?_
      refine RL.opS trivial rfl (OpW.bin (k := .i64) (a := s25) (b := (x21.len : Int)) (v := .bool (decide (s25 < (x21.len : Int)))) e28 e35 rfl ?_)
      refine RL.nil ?_
      refine CW.seq ?_
      obtain ⟨ha, hc⟩ := h
      refine CW.cond (b := (decide (s25 < (x21.len : Int)))) rfl (fun hb36 => ?_) (fun hb36 => ?_)
      · have h := ha hb36; clear ha hc
        refine CW.skip ?_
        refine CW.seq ?_
        refine CW.block ?_
        refine CW.seq ?_
        refine CW.region ?_
        refine RL.opS trivial rfl (OpW.move (v := .int .i64 s25) e28 ?_)
        refine RL.opS trivial rfl (OpW.assign (v := .int .i64 s25) rfl ?_)
        refine RL.nil ?_
        refine CW.region ?_
        refine RL.opS trivial rfl (OpW.move (v := Sl.v x21) e32 ?_)
        refine RL.opS trivial rfl (OpW.move (v := .int .i64 s25) rfl ?_)
        obtain ⟨a37_, a37, h1, h2, h3, h4, h⟩ := h
        refine RL.opS trivial rfl (OpW.indexE (a' := a37) slice_25 rfl rfl h1 h2 h3 h4 ?_)
        obtain ⟨x39, h1, h⟩ := h
        refine RL.opS trivial rfl (OpW.load1 (v := .int .u8 x39) one_5 rfl h1 ?_)
        refine RL.opS trivial rfl (OpW.bin (k := .u8) (a := x39) (b := 255) (v := .int .u8 (xorI .u8 x39 255)) rfl rfl rfl ?_)
        obtain ⟨a40_, a40, h1, h2, h3, h4, h⟩ := h
        refine RL.opS trivial rfl (OpW.indexE (a' := a40) slice_25 rfl rfl h1 h2 h3 h4 ?_)
        obtain ⟨u_, h1, h2, h⟩ := h
        obtain ⟨w42, hw42_⟩ : ∃ w_, w_ = w26.setCell a40 (.int .u8 (xorI .u8 x39 255)) := ⟨_, rfl⟩
        have h := h w42 hw42_
        refine RL.opN trivial (OpW.store1E (v := .int .u8 (xorI .u8 x39 255)) size_5 rfl rfl rfl h1 h2 hw42_ ?_)
        refine RL.nil ?_
        refine CW.region ?_
        refine RL.opS trivial rfl (OpW.bin (k := .i64) (a := s25) (b := 1) (v := .int .i64 (IntKind.i64.wrap (s25 + 1))) e28 rfl rfl ?_)
        refine RL.opS trivial rfl (OpW.move (v := .int .i64 (IntKind.i64.wrap (s25 + 1))) rfl ?_)
        refine RL.nil ?_
        exact ⟨(IntKind.i64.wrap (s25 + 1)), ⟨rfl, e29, e30, e31, e32, e33, e34, e35⟩, h⟩
      · have h := hc hb36; clear ha hc
        refine CW.exit ?_
        refine CW.seq ?_
        refine CW.region ?_
        refine RL.opS trivial rfl (OpW.move (v := .int .i64 x23.2) e34 ?_)
        refine RL.opS trivial rfl (OpW.bin (k := .i64) (a := x23.2) (b := 0) (v := .bool (decide (x23.2 = 0))) rfl rfl rfl ?_)
        refine RL.opS trivial rfl (OpW.move (v := .bool (decide (x23.2 = 0))) rfl ?_)
        refine jn_elim h ?_; clear h; intro k72 hk73 h
        refine RL.joinAt (A := Bool) 6 (fun s47 ρ => ρ 56 = .bool s47 ∧ ρ 0 = Sl.v p0 ∧ ρ 3 = Sl.v x19 ∧ ρ 6 = Sl.v x23.1) k72 ?_ ?_
        · rintro s47 ρ w48 ⟨e49, e50, e51, e52⟩ h
          subst hk73
          dsimp only [List.drop]
          refine RL.opS trivial rfl (OpW.move (v := .bool s47) e49 ?_)
          refine jn_elim h ?_; clear h; intro k70 hk71 h
          refine RL.joinAt (A := Bool) 6 (fun s57 ρ => ρ 63 = .bool s57 ∧ ρ 0 = Sl.v p0 ∧ ρ 3 = Sl.v x19) k70 ?_ ?_
          · rintro s57 ρ w58 ⟨e59, e60, e61⟩ h
            subst hk71
            dsimp only [List.drop]
            refine RL.opS trivial rfl (OpW.move (v := .bool s57) e59 ?_)
            refine jn_elim h ?_; clear h; intro k68 hk69 h
            refine RL.joinAt (A := Bool) 7 (fun s65 ρ => ρ 71 = .bool s65) k68 ?_ ?_
            · rintro s65 ρ w66 e67 h
              subst hk69
              dsimp only [List.drop]
              refine RL.opS trivial rfl (OpW.assign (v := .bool s65) e67 ?_)
              refine RL.nil ?_
              refine CW.ret ?_
              exact ret_intro (res1 rfl rfl) ⟨s65, rfl, h⟩
            · clear hk69
              dsimp only [List.take]
              obtain ⟨ha, hc⟩ := h
              rcases Bool.eq_false_or_eq_true s57 with hb62 | hb62
              · have h := ha hb62; clear ha hc
                refine RL.opS (wanted_of rfl rfl hb62) rfl (OpW.move (v := Sl.v x19) e61 ?_)
                refine RL.opS (wanted_of rfl rfl hb62) rfl (OpW.move (v := Sl.v p0) e60 ?_)
                refine RL.opS (wanted_of rfl rfl hb62) rfl (OpW.len (s := p0) slice_25 rfl ?_)
                obtain ⟨⟨h1, h2⟩, h⟩ := h
                refine RL.opS (wanted_of rfl rfl hb62) rfl (OpW.sliceSl (l := (p0.len : Int)) (h := (x19.len : Int)) slice_25 rfl ⟨_, rfl⟩ rfl h1 h2 (.inl rfl) ?_)
                obtain ⟨x64, h1, h2, h⟩ := h
                refine RL.opS (wanted_of rfl rfl hb62) rfl (OpW.b2s bsl_25 str_9 rfl h1 h2 ?_)
                refine RL.opS (wanted_of rfl rfl hb62) rfl (OpW.strCmp (b := decide (x64 = [1, 2, 3, 4])) rfl rfl rfl ?_)
                refine RL.opS trivial rfl (OpW.pick (b := true) (v := .bool (decide (x64 = [1, 2, 3, 4]))) (congrArg Value.bool hb62) rfl ?_)
                refine RL.nil ?_
                exact ⟨(decide (x64 = [1, 2, 3, 4])), rfl, h⟩
              · have h := hc hb62; clear ha hc
                refine RL.skipS (notWanted_of rfl rfl hb62) rfl ?_
                refine RL.skipS (notWanted_of rfl rfl hb62) rfl ?_
                refine RL.skipS (notWanted_of rfl rfl hb62) rfl ?_
                refine RL.skipS (notWanted_of rfl rfl hb62) rfl ?_
                refine RL.skipS (notWanted_of rfl rfl hb62) rfl ?_
                refine RL.skipS (notWanted_of rfl rfl hb62) rfl ?_
                refine RL.opS trivial rfl (OpW.pick (b := false) (v := .bool false) (congrArg Value.bool hb62) rfl ?_)
                refine RL.nil ?_
                exact ⟨false, rfl, h⟩
          · clear hk71
            dsimp only [List.take]
            obtain ⟨ha, hc⟩ := h
            rcases Bool.eq_false_or_eq_true s47 with hb53 | hb53
            · have h := ha hb53; clear ha hc
              refine RL.opS (wanted_of rfl rfl hb53) rfl (OpW.move (v := Sl.v x23.1) e52 ?_)
              obtain ⟨x55, h1, h2, h⟩ := h
              refine RL.opS (wanted_of rfl rfl hb53) rfl (OpW.b2s bsl_25 str_9 rfl h1 h2 ?_)
              refine RL.opS (wanted_of rfl rfl hb53) rfl (OpW.move (v := Sl.v p0) e50 ?_)
              obtain ⟨x56, h1, h2, h⟩ := h
              refine RL.opS (wanted_of rfl rfl hb53) rfl (OpW.b2s bsl_25 str_9 rfl h1 h2 ?_)
              refine RL.opS (wanted_of rfl rfl hb53) rfl (OpW.strCmp (b := decide (x55 = x56)) rfl rfl rfl ?_)
              refine RL.opS trivial rfl (OpW.pick (b := true) (v := .bool (decide (x55 = x56))) (congrArg Value.bool hb53) rfl ?_)
              refine RL.nil ?_
              exact ⟨(decide (x55 = x56)), ⟨rfl, e50, e51⟩, h⟩
            · have h := hc hb53; clear ha hc
              refine RL.skipS (notWanted_of rfl rfl hb53) rfl ?_
              refine RL.skipS (notWanted_of rfl rfl hb53) rfl ?_
              refine RL.skipS (notWanted_of rfl rfl hb53) rfl ?_
              refine RL.skipS (notWanted_of rfl rfl hb53) rfl ?_
              refine RL.skipS (notWanted_of rfl rfl hb53) rfl ?_
              refine RL.opS trivial rfl (OpW.pick (b := false) (v := .bool false) (congrArg Value.bool hb53) rfl ?_)
              refine RL.nil ?_
              exact ⟨false, ⟨rfl, e50, e51⟩, h⟩
        · clear hk73
          dsimp only [List.take]
          obtain ⟨ha, hc⟩ := h
          rcases Bool.eq_false_or_eq_true (decide (x23.2 = 0)) with hb43 | hb43
          · have h := ha hb43; clear ha hc
            refine RL.opS (wanted_of rfl rfl hb43) rfl (OpW.move (v := Sl.v (x19.cut 1 0 (p0.len : Int) x19.cap)) e31 ?_)
            obtain ⟨x45, h1, h2, h⟩ := h
            refine RL.opS (wanted_of rfl rfl hb43) rfl (OpW.b2s bsl_25 str_9 rfl h1 h2 ?_)
            refine RL.opS (wanted_of rfl rfl hb43) rfl (OpW.move (v := Sl.v p0) e29 ?_)
            obtain ⟨x46, h1, h2, h⟩ := h
            refine RL.opS (wanted_of rfl rfl hb43) rfl (OpW.b2s bsl_25 str_9 rfl h1 h2 ?_)
            refine RL.opS (wanted_of rfl rfl hb43) rfl (OpW.strCmp (b := decide (x45 = x46)) rfl rfl rfl ?_)
            refine RL.opS trivial rfl (OpW.pick (b := true) (v := .bool (decide (x45 = x46))) (congrArg Value.bool hb43) rfl ?_)
            refine RL.nil ?_
            exact ⟨(decide (x45 = x46)), ⟨rfl, e29, e30, e33⟩, h⟩
          · have h := hc hb43; clear ha hc
            refine RL.skipS (notWanted_of rfl rfl hb43) rfl ?_
            refine RL.skipS (notWanted_of rfl rfl hb43) rfl ?_
            refine RL.skipS (notWanted_of rfl rfl hb43) rfl ?_
            refine RL.skipS (notWanted_of rfl rfl hb43) rfl ?_
            refine RL.skipS (notWanted_of rfl rfl hb43) rfl ?_
            refine RL.opS trivial rfl (OpW.pick (b := false) (v := .bool false) (congrArg Value.bool hb43) rfl ?_)
            refine RL.nil ?_
            exact ⟨false, ⟨rfl, e29, e30, e33⟩, h⟩
  · clear hk77
    dsimp only [List.take]
    obtain ⟨ha, hc⟩ := h
    rcases Bool.eq_false_or_eq_true (!x1) with hb3 | hb3
    · have h := ha hb3; clear ha hc
      refine RL.skipS (notWanted_of rfl rfl hb3) rfl ?_
      refine RL.skipS (notWanted_of rfl rfl hb3) rfl ?_
      refine RL.skipS (notWanted_of rfl rfl hb3) rfl ?_
      refine RL.opS trivial rfl (OpW.pick (b := true) (v := .bool true) (congrArg Value.bool hb3) rfl ?_)
      refine RL.nil ?_
      exact ⟨true, ⟨rfl, rfl⟩, h⟩
    · have h := hc hb3; clear ha hc
      refine RL.opS (wanted_of rfl rfl hb3) rfl (OpW.move (v := Sl.v p0) rfl ?_)
      refine RL.opS (wanted_of rfl rfl hb3) rfl (OpW.len (s := p0) slice_25 rfl ?_)
      refine RL.opS (wanted_of rfl rfl hb3) rfl (OpW.bin (k := .i64) (a := (p0.len : Int)) (b := 500) (v := .bool (decide (500 < (p0.len : Int)))) rfl rfl rfl ?_)
      refine RL.opS trivial rfl (OpW.pick (b := false) (v := .bool (decide (500 < (p0.len : Int)))) (congrArg Value.bool hb3) rfl ?_)
      refine RL.nil ?_
      exact ⟨(decide (500 < (p0.len : Int))), ⟨rfl, rfl⟩, h⟩
end Go.Proofs.Ytmlbmnaknjdmgaa
