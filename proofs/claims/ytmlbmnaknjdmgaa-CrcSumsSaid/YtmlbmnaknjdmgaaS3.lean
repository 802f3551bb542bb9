/- The typed readings of the functions, and that the program meets each: written by gen.py (a program of this session). -/
import Derived.Test.YtmlbmnaknjdmgaaLiftDraw
import Derived.Test.YtmlbmnaknjdmgaaRead
set_option linter.unusedVariables false
set_option linter.unusedSimpArgs false
namespace Go.Proofs.Ytmlbmnaknjdmgaa
open Go.Lift
set_option maxRecDepth 100000 in
set_option maxHeartbeats 4000000 in
theorem s3_calls (K : Bool → World → Prop) (p0 : Sl) (w : World) (h : s3 K p0 w) :
    Calls Try.prog 3 #[Sl.v p0] w (Ret r3 K) := by
  unfold s3 at h
  refine calls_of_CW (n := 30) Try.func3 rfl rfl rfl ?_
  refine CW.seq ?_
  refine CW.region ?_
  refine RL.opS trivial rfl (OpW.assign (v := .bool false) rfl ?_)
  refine RL.nil ?_
  refine CW.seq ?_
  refine CW.seq ?_
  refine CW.region ?_
  refine RL.opS trivial rfl (OpW.callR (al := []) Try.func8 fb_8 fn_8 rfl h (fun x1 w2 h => ?_))
  refine RL.opS trivial rfl (OpW.not rfl ?_)
  refine RL.opS trivial rfl (OpW.move (v := .bool (!x1)) rfl ?_)
  refine jn_elim h ?_; clear h; intro k33 hk34 h
  refine RL.joinAt (A := Bool) 4 (fun s7 ρ => ρ 12 = .bool s7 ∧ ρ 0 = Sl.v p0) k33 ?_ ?_
  · rintro s7 ρ w8 ⟨e9, e10⟩ h
    subst hk34
    dsimp only [List.drop]
    refine RL.nil ?_
    obtain ⟨ha, hc⟩ := h
    refine CW.cond (b := s7) e9 (fun hb11 => ?_) (fun hb11 => ?_)
    · have h := ha hb11; clear ha hc
      refine CW.seq ?_
      refine CW.region ?_
      refine RL.opS trivial rfl (OpW.callR (al := []) Try.func8 fb_8 fn_8 rfl h (fun x12 w13 h => ?_))
      refine RL.opS trivial rfl (OpW.assign (v := .bool x12) rfl ?_)
      refine RL.nil ?_
      refine CW.ret ?_
      exact ret_intro (res1 rfl rfl) ⟨x12, rfl, h⟩
    · have h := hc hb11; clear ha hc
      refine CW.skip ?_
      refine CW.seq ?_
      refine CW.region ?_
      refine RL.opS trivial rfl (OpW.assign (v := str []) rfl ?_)
      refine RL.nil ?_
      refine CW.seq ?_
      refine CW.seq ?_
      refine CW.region ?_
      refine RL.opS trivial rfl (OpW.move (v := Sl.v p0) e10 ?_)
      refine RL.opS trivial rfl (OpW.len (s := p0) slice_22 rfl ?_)
      refine RL.opS trivial rfl (OpW.move (v := .int .i64 0) rfl ?_)
      refine RL.nil ?_
      refine CW.block ?_
      obtain ⟨I31, mu32, hI, hs⟩ := h
      refine CW.loop (σ := List UInt8 × Int) (fun s14 ρ => ρ 3 = str s14.1 ∧ ρ 16 = .int .i64 s14.2 ∧ ρ 0 = Sl.v p0 ∧ ρ 14 = Sl.v p0 ∧ ρ 15 = .int .i64 (p0.len : Int)) I31 mu32 ([], 0) ⟨rfl, rfl, e10, rfl, rfl⟩ hI ?_
      rintro s14 ρ w15 ⟨e17, e18, e19, e20, e21⟩ hI
      have h := hs s14 w15 hI
      clear hs hI
      refine CW.seq ?_
      refine CW.region ?_
      refine RL.opS trivial rfl (OpW.bin (k := .i64) (a := s14.2) (b := (p0.len : Int)) (v := .bool (decide (s14.2 < (p0.len : Int)))) e18 e21 rfl ?_)
      refine RL.nil ?_
      refine CW.seq ?_
      obtain ⟨ha, hc⟩ := h
      refine CW.cond (b := (decide (s14.2 < (p0.len : Int)))) rfl (fun hb22 => ?_) (fun hb22 => ?_)
      · have h := ha hb22; clear ha hc
        refine CW.skip ?_
        refine CW.seq ?_
        refine CW.block ?_
        refine CW.seq ?_
        refine CW.region ?_
        obtain ⟨a23_, a23, h1, h2, h3, h4, h⟩ := h
        refine RL.opS trivial rfl (OpW.indexE (a' := a23) slice_22 e20 e18 h1 h2 h3 h4 ?_)
        obtain ⟨x25, h1, h⟩ := h
        refine RL.opS trivial rfl (OpW.load1 (v := Sl.v x25) one_25 rfl h1 ?_)
        refine RL.opS trivial rfl (OpW.assign (v := Sl.v x25) rfl ?_)
        refine RL.nil ?_
        refine CW.region ?_
        refine RL.opS trivial rfl (OpW.move (v := str s14.1) e17 ?_)
        refine RL.opS trivial rfl (OpW.move (v := Sl.v x25) rfl ?_)
        obtain ⟨x26, h1, h2, h⟩ := h
        refine RL.opS trivial rfl (OpW.b2s bsl_25 str_9 rfl h1 h2 ?_)
        obtain ⟨hq_, h⟩ := h
        refine RL.opS trivial rfl (OpW.strAdd rfl rfl hq_ ?_)
        refine RL.opS trivial rfl (OpW.assign (v := str (s14.1 ++ x26)) rfl ?_)
        refine RL.nil ?_
        refine CW.region ?_
        refine RL.opS trivial rfl (OpW.bin (k := .i64) (a := s14.2) (b := 1) (v := .int .i64 (IntKind.i64.wrap (s14.2 + 1))) e18 rfl rfl ?_)
        refine RL.opS trivial rfl (OpW.move (v := .int .i64 (IntKind.i64.wrap (s14.2 + 1))) rfl ?_)
        refine RL.nil ?_
        exact ⟨((s14.1 ++ x26), (IntKind.i64.wrap (s14.2 + 1))), ⟨rfl, rfl, e19, e20, e21⟩, h⟩
      · have h := hc hb22; clear ha hc
        refine CW.exit ?_
        refine CW.seq ?_
        refine CW.region ?_
        refine RL.opS trivial rfl (OpW.move (v := Sl.v p0) e19 ?_)
        refine RL.opS trivial rfl (OpW.callR (al := [Sl.v p0]) Try.func10 fb_10 fn_10 rfl h (fun x27 w28 h => ?_))
        refine RL.opS trivial rfl (OpW.move (v := str s14.1) e17 ?_)
        refine RL.opS trivial rfl (OpW.callR (al := [str s14.1]) Try.func11 fb_11 fn_11 rfl h (fun x29 w30 h => ?_))
        refine RL.opS trivial rfl (OpW.bin (k := .u32) (a := x27) (b := x29) (v := .bool (decide (x27 = x29))) rfl rfl rfl ?_)
        refine RL.opS trivial rfl (OpW.assign (v := .bool (decide (x27 = x29))) rfl ?_)
        refine RL.nil ?_
        refine CW.ret ?_
        exact ret_intro (res1 rfl rfl) ⟨(decide (x27 = x29)), rfl, h⟩
  · clear hk34
    dsimp only [List.take]
    obtain ⟨ha, hc⟩ := h
    rcases Bool.eq_false_or_eq_true (!x1) with hb3 | hb3
    · have h := ha hb3; clear ha hc
      refine RL.skipS (notWanted_of rfl rfl hb3) rfl ?_
      refine RL.skipS (notWanted_of rfl rfl hb3) rfl ?_
      refine RL.skipS (notWanted_of rfl rfl hb3) rfl ?_
      refine RL.opS trivial rfl (OpW.pick (b := true) (v := .bool true) (congrArg Value.bool hb3) rfl ?_)
      refine RL.nil ?_
      exact ⟨true, ⟨rfl, rfl⟩, h⟩
    · have h := hc hb3; clear ha hc
      refine RL.opS (wanted_of rfl rfl hb3) rfl (OpW.move (v := Sl.v p0) rfl ?_)
      refine RL.opS (wanted_of rfl rfl hb3) rfl (OpW.callR (al := [Sl.v p0]) Try.func9 fb_9 fn_9 rfl h (fun x5 w6 h => ?_))
      refine RL.opS (wanted_of rfl rfl hb3) rfl (OpW.not rfl ?_)
      refine RL.opS trivial rfl (OpW.pick (b := false) (v := .bool (!x5)) (congrArg Value.bool hb3) rfl ?_)
      refine RL.nil ?_
      exact ⟨(!x5), ⟨rfl, rfl⟩, h⟩
end Go.Proofs.Ytmlbmnaknjdmgaa
