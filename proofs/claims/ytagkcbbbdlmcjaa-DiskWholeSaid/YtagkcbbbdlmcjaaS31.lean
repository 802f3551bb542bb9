/- The typed readings of the functions, and that the program meets each: written by gen.py (a program of this session). -/
import Derived.Test.YtagkcbbbdlmcjaaLiftDraw
import Derived.Test.YtagkcbbbdlmcjaaRead
set_option linter.unusedVariables false
set_option linter.unusedSimpArgs false
namespace Go.Proofs.Ytagkcbbbdlmcjaa
open Go.Lift
set_option maxRecDepth 100000 in
set_option maxHeartbeats 4000000 in
theorem s31_calls (K : Bool → World → Prop) (p0 : Int) (p1 : Sl) (w : World) (h : s31 K p0 p1 w) :
    Calls Try.prog 31 #[.int .i64 p0, Sl.v p1] w (Ret r31 K) := by
  unfold s31 at h
  refine calls_of_CW (n := 35) Try.func31 rfl rfl rfl ?_
  refine CW.seq ?_
  refine CW.region ?_
  refine RL.opS trivial rfl (OpW.assign (v := .bool false) rfl ?_)
  refine RL.nil ?_
  refine CW.seq ?_
  refine CW.seq ?_
  refine CW.region ?_
  refine RL.opS trivial rfl (OpW.move (v := .int .i64 p0) rfl ?_)
  refine RL.opS trivial rfl (OpW.bin (k := .i64) (a := p0) (b := 1) (v := .bool (decide (p0 < 1))) rfl rfl rfl ?_)
  refine RL.opS trivial rfl (OpW.move (v := .bool (decide (p0 < 1))) rfl ?_)
  refine jn_elim h ?_; clear h; intro k43 hk44 h
  refine RL.joinAt (A := Bool) 3 (fun s3 ρ => ρ 12 = .bool s3 ∧ ρ 1 = Sl.v p1) k43 ?_ ?_
  · rintro s3 ρ w4 ⟨e5, e6⟩ h
    subst hk44
    dsimp only [List.drop]
    refine RL.opS trivial rfl (OpW.move (v := .bool s3) e5 ?_)
    refine jn_elim h ?_; clear h; intro k41 hk42 h
    refine RL.joinAt (A := Bool) 4 (fun s9 ρ => ρ 17 = .bool s9 ∧ ρ 1 = Sl.v p1) k41 ?_ ?_
    · rintro s9 ρ w10 ⟨e11, e12⟩ h
      subst hk42
      dsimp only [List.drop]
      refine RL.nil ?_
      obtain ⟨ha, hc⟩ := h
      refine CW.cond (b := s9) e11 (fun hb13 => ?_) (fun hb13 => ?_)
      · have h := ha hb13; clear ha hc
        refine CW.seq ?_
        refine CW.region ?_
        refine RL.opS trivial rfl (OpW.assign (v := .bool false) rfl ?_)
        refine RL.nil ?_
        refine CW.ret ?_
        exact ret_intro (res1 rfl rfl) ⟨false, rfl, h⟩
      · have h := hc hb13; clear ha hc
        refine CW.skip ?_
        refine CW.seq ?_
        refine CW.seq ?_
        refine CW.region ?_
        refine RL.opS trivial rfl (OpW.move (v := Sl.v p1) e12 ?_)
        refine RL.opS trivial rfl (OpW.len (s := p1) slice_61 rfl ?_)
        refine RL.opS trivial rfl (OpW.move (v := .int .i64 0) rfl ?_)
        refine RL.nil ?_
        refine CW.block ?_
        obtain ⟨I39, mu40, hI, hs⟩ := h
        refine CW.loop (σ := Int) (fun s14 ρ => ρ 20 = .int .i64 s14 ∧ ρ 18 = Sl.v p1 ∧ ρ 19 = .int .i64 (p1.len : Int)) I39 mu40 0 ⟨rfl, rfl, rfl⟩ hI ?_
        rintro s14 ρ w15 ⟨e17, e18, e19⟩ hI
        have h := hs s14 w15 hI
        clear hs hI
        refine CW.seq ?_
        refine CW.region ?_
        refine RL.opS trivial rfl (OpW.bin (k := .i64) (a := s14) (b := (p1.len : Int)) (v := .bool (decide (s14 < (p1.len : Int)))) e17 e19 rfl ?_)
        refine RL.nil ?_
        refine CW.seq ?_
        obtain ⟨ha, hc⟩ := h
        refine CW.cond (b := (decide (s14 < (p1.len : Int)))) rfl (fun hb20 => ?_) (fun hb20 => ?_)
        · have h := ha hb20; clear ha hc
          refine CW.skip ?_
          refine CW.seq ?_
          refine CW.block ?_
          refine CW.seq ?_
          refine CW.region ?_
          obtain ⟨a21_, a21, h1, h2, h3, h4, h⟩ := h
          refine RL.opS trivial rfl (OpW.indexE (a' := a21) slice_61 e18 e17 h1 h2 h3 h4 ?_)
          obtain ⟨x23, h1, h2, h⟩ := h
          refine RL.opS trivial rfl (OpW.loadA agg_65 rfl h1 h2 ?_)
          obtain ⟨hl_b24, ho_b24, h⟩ := h
          obtain ⟨b24, hb24_⟩ : ∃ b_, b_ = w15.heap.size := ⟨_, rfl⟩
          obtain ⟨w25, hw25_⟩ : ∃ w_, w_ = w15.alloc (.cells (List.toArray x23) 65) := ⟨_, rfl⟩
          have h := h b24 w25 hb24_ hw25_
          refine RL.opS trivial rfl (OpW.allocZ (b := b24) zero_65 hb24_ ?_)
          refine RL.opN trivial (OpW.storeF (zs := [Value.int .i64 0, Value.int .i64 0, Value.int .u8 0, str [], Value.bool false, Value.int .i64 0, Value.int .u64 0, Value.int .i64 0, Value.slice none 0 0]) (cs := x23) size_65 rfl rfl hl_b24 (by decide) ho_b24 hb24_ hw25_ ?_)
          refine RL.nil ?_
          refine CW.seq ?_
          refine CW.region ?_
          refine RL.opS trivial rfl (OpW.fieldAddr field_65_3 rfl ?_)
          obtain ⟨x26, h1, h⟩ := h
          refine RL.opS trivial rfl (OpW.load1 (v := str x26) one_9 rfl h1 ?_)
          refine RL.opS trivial rfl (OpW.lenStr us_9 rfl ?_)
          refine RL.opS trivial rfl (OpW.bin (k := .i64) (a := (x26.length : Int)) (b := 600) (v := .bool (decide (600 < (x26.length : Int)))) rfl rfl rfl ?_)
          refine RL.opS trivial rfl (OpW.move (v := .bool (decide (600 < (x26.length : Int)))) rfl ?_)
          refine jn_elim h ?_; clear h; intro k37 hk38 h
          refine RL.joinAt (A := Bool) 5 (fun s30 ρ => ρ 33 = .bool s30 ∧ ρ 18 = Sl.v p1 ∧ ρ 19 = .int .i64 (p1.len : Int) ∧ ρ 20 = .int .i64 s14) k37 ?_ ?_
          · rintro s30 ρ w31 ⟨e32, e33, e34, e35⟩ h
            subst hk38
            dsimp only [List.drop]
            refine RL.nil ?_
            obtain ⟨ha, hc⟩ := h
            refine CW.cond (b := s30) e32 (fun hb36 => ?_) (fun hb36 => ?_)
            · have h := ha hb36; clear ha hc
              refine CW.seq ?_
              refine CW.region ?_
              refine RL.opS trivial rfl (OpW.assign (v := .bool false) rfl ?_)
              refine RL.nil ?_
              refine CW.ret ?_
              exact ret_intro (res1 rfl rfl) ⟨false, rfl, h⟩
            · have h := hc hb36; clear ha hc
              refine CW.skip ?_
              refine CW.region ?_
              refine RL.opS trivial rfl (OpW.bin (k := .i64) (a := s14) (b := 1) (v := .int .i64 (IntKind.i64.wrap (s14 + 1))) e35 rfl rfl ?_)
              refine RL.opS trivial rfl (OpW.move (v := .int .i64 (IntKind.i64.wrap (s14 + 1))) rfl ?_)
              refine RL.nil ?_
              exact ⟨(IntKind.i64.wrap (s14 + 1)), ⟨rfl, e33, e34⟩, h⟩
          · clear hk38
            dsimp only [List.take]
            obtain ⟨ha, hc⟩ := h
            rcases Bool.eq_false_or_eq_true (decide (600 < (x26.length : Int))) with hb27 | hb27
            · have h := ha hb27; clear ha hc
              refine RL.skipS (notWanted_of rfl rfl hb27) rfl ?_
              refine RL.skipS (notWanted_of rfl rfl hb27) rfl ?_
              refine RL.skipS (notWanted_of rfl rfl hb27) rfl ?_
              refine RL.skipS (notWanted_of rfl rfl hb27) rfl ?_
              refine RL.opS trivial rfl (OpW.pick (b := true) (v := .bool true) (congrArg Value.bool hb27) rfl ?_)
              refine RL.nil ?_
              exact ⟨true, ⟨rfl, e18, e19, e17⟩, h⟩
            · have h := hc hb27; clear ha hc
              refine RL.opS (wanted_of rfl rfl hb27) rfl (OpW.fieldAddr field_65_6 rfl ?_)
              obtain ⟨x29, h1, h⟩ := h
              refine RL.opS (wanted_of rfl rfl hb27) rfl (OpW.load1 (v := Sl.v x29) one_47 rfl h1 ?_)
              refine RL.opS (wanted_of rfl rfl hb27) rfl (OpW.len (s := x29) slice_47 rfl ?_)
              refine RL.opS (wanted_of rfl rfl hb27) rfl (OpW.bin (k := .i64) (a := (x29.len : Int)) (b := 20) (v := .bool (decide (20 < (x29.len : Int)))) rfl rfl rfl ?_)
              refine RL.opS trivial rfl (OpW.pick (b := false) (v := .bool (decide (20 < (x29.len : Int)))) (congrArg Value.bool hb27) rfl ?_)
              refine RL.nil ?_
              exact ⟨(decide (20 < (x29.len : Int))), ⟨rfl, e18, e19, e17⟩, h⟩
        · have h := hc hb20; clear ha hc
          refine CW.exit ?_
          refine CW.seq ?_
          refine CW.region ?_
          refine RL.opS trivial rfl (OpW.assign (v := .bool true) rfl ?_)
          refine RL.nil ?_
          refine CW.ret ?_
          exact ret_intro (res1 rfl rfl) ⟨true, rfl, h⟩
    · clear hk42
      dsimp only [List.take]
      obtain ⟨ha, hc⟩ := h
      rcases Bool.eq_false_or_eq_true s3 with hb7 | hb7
      · have h := ha hb7; clear ha hc
        refine RL.skipS (notWanted_of rfl rfl hb7) rfl ?_
        refine RL.skipS (notWanted_of rfl rfl hb7) rfl ?_
        refine RL.skipS (notWanted_of rfl rfl hb7) rfl ?_
        refine RL.opS trivial rfl (OpW.pick (b := true) (v := .bool true) (congrArg Value.bool hb7) rfl ?_)
        refine RL.nil ?_
        exact ⟨true, ⟨rfl, e6⟩, h⟩
      · have h := hc hb7; clear ha hc
        refine RL.opS (wanted_of rfl rfl hb7) rfl (OpW.move (v := Sl.v p1) e6 ?_)
        refine RL.opS (wanted_of rfl rfl hb7) rfl (OpW.len (s := p1) slice_61 rfl ?_)
        refine RL.opS (wanted_of rfl rfl hb7) rfl (OpW.bin (k := .i64) (a := (p1.len : Int)) (b := 60) (v := .bool (decide (60 < (p1.len : Int)))) rfl rfl rfl ?_)
        refine RL.opS trivial rfl (OpW.pick (b := false) (v := .bool (decide (60 < (p1.len : Int)))) (congrArg Value.bool hb7) rfl ?_)
        refine RL.nil ?_
        exact ⟨(decide (60 < (p1.len : Int))), ⟨rfl, e6⟩, h⟩
  · clear hk44
    dsimp only [List.take]
    obtain ⟨ha, hc⟩ := h
    rcases Bool.eq_false_or_eq_true (decide (p0 < 1)) with hb1 | hb1
    · have h := ha hb1; clear ha hc
      refine RL.skipS (notWanted_of rfl rfl hb1) rfl ?_
      refine RL.skipS (notWanted_of rfl rfl hb1) rfl ?_
      refine RL.opS trivial rfl (OpW.pick (b := true) (v := .bool true) (congrArg Value.bool hb1) rfl ?_)
      refine RL.nil ?_
      exact ⟨true, ⟨rfl, rfl⟩, h⟩
    · have h := hc hb1; clear ha hc
      refine RL.opS (wanted_of rfl rfl hb1) rfl (OpW.move (v := .int .i64 p0) rfl ?_)
      refine RL.opS (wanted_of rfl rfl hb1) rfl (OpW.bin (k := .i64) (a := p0) (b := 12) (v := .bool (decide (12 < p0))) rfl rfl rfl ?_)
      refine RL.opS trivial rfl (OpW.pick (b := false) (v := .bool (decide (12 < p0))) (congrArg Value.bool hb1) rfl ?_)
      refine RL.nil ?_
      exact ⟨(decide (12 < p0)), ⟨rfl, rfl⟩, h⟩
end Go.Proofs.Ytagkcbbbdlmcjaa
