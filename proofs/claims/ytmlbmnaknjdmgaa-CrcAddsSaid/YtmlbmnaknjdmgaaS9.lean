/- The typed readings of the functions, and that the program meets each: written by gen.py (a program of this session). -/
import Derived.Test.YtmlbmnaknjdmgaaLiftDraw
import Derived.Test.YtmlbmnaknjdmgaaRead
set_option linter.unusedVariables false
set_option linter.unusedSimpArgs false
namespace Go.Proofs.Ytmlbmnaknjdmgaa
open Go.Lift
set_option maxRecDepth 100000 in
set_option maxHeartbeats 4000000 in
theorem s9_calls (K : Bool → World → Prop) (p0 : Sl) (w : World) (h : s9 K p0 w) :
    Calls Try.prog 9 #[Sl.v p0] w (Ret r9 K) := by
  unfold s9 at h
  refine calls_of_CW (n := 18) Try.func9 rfl rfl rfl ?_
  refine CW.seq ?_
  refine CW.region ?_
  refine RL.opS trivial rfl (OpW.assign (v := .bool false) rfl ?_)
  refine RL.nil ?_
  refine CW.seq ?_
  refine CW.seq ?_
  refine CW.region ?_
  refine RL.opS trivial rfl (OpW.move (v := Sl.v p0) rfl ?_)
  refine RL.opS trivial rfl (OpW.len (s := p0) slice_22 rfl ?_)
  refine RL.opS trivial rfl (OpW.bin (k := .i64) (a := (p0.len : Int)) (b := 20) (v := .bool (decide (20 < (p0.len : Int)))) rfl rfl rfl ?_)
  refine RL.nil ?_
  obtain ⟨ha, hc⟩ := h
  refine CW.cond (b := (decide (20 < (p0.len : Int)))) rfl (fun hb1 => ?_) (fun hb1 => ?_)
  · have h := ha hb1; clear ha hc
    refine CW.seq ?_
    refine CW.region ?_
    refine RL.opS trivial rfl (OpW.assign (v := .bool false) rfl ?_)
    refine RL.nil ?_
    refine CW.ret ?_
    exact ret_intro (res1 rfl rfl) ⟨false, rfl, h⟩
  · have h := hc hb1; clear ha hc
    refine CW.skip ?_
    refine CW.seq ?_
    refine CW.seq ?_
    refine CW.region ?_
    refine RL.opS trivial rfl (OpW.move (v := Sl.v p0) rfl ?_)
    refine RL.opS trivial rfl (OpW.len (s := p0) slice_22 rfl ?_)
    refine RL.opS trivial rfl (OpW.move (v := .int .i64 0) rfl ?_)
    refine RL.nil ?_
    refine CW.block ?_
    obtain ⟨I13, mu14, hI, hs⟩ := h
    refine CW.loop (σ := Int) (fun s2 ρ => ρ 10 = .int .i64 s2 ∧ ρ 8 = Sl.v p0 ∧ ρ 9 = .int .i64 (p0.len : Int)) I13 mu14 0 ⟨rfl, rfl, rfl⟩ hI ?_
    rintro s2 ρ w3 ⟨e5, e6, e7⟩ hI
    have h := hs s2 w3 hI
    clear hs hI
    refine CW.seq ?_
    refine CW.region ?_
    refine RL.opS trivial rfl (OpW.bin (k := .i64) (a := s2) (b := (p0.len : Int)) (v := .bool (decide (s2 < (p0.len : Int)))) e5 e7 rfl ?_)
    refine RL.nil ?_
    refine CW.seq ?_
    obtain ⟨ha, hc⟩ := h
    refine CW.cond (b := (decide (s2 < (p0.len : Int)))) rfl (fun hb8 => ?_) (fun hb8 => ?_)
    · have h := ha hb8; clear ha hc
      refine CW.skip ?_
      refine CW.seq ?_
      refine CW.block ?_
      refine CW.seq ?_
      refine CW.region ?_
      obtain ⟨a9_, a9, h1, h2, h3, h4, h⟩ := h
      refine RL.opS trivial rfl (OpW.indexE (a' := a9) slice_22 e6 e5 h1 h2 h3 h4 ?_)
      obtain ⟨x11, h1, h⟩ := h
      refine RL.opS trivial rfl (OpW.load1 (v := Sl.v x11) one_25 rfl h1 ?_)
      refine RL.opS trivial rfl (OpW.assign (v := Sl.v x11) rfl ?_)
      refine RL.nil ?_
      refine CW.seq ?_
      refine CW.region ?_
      refine RL.opS trivial rfl (OpW.move (v := Sl.v x11) rfl ?_)
      refine RL.opS trivial rfl (OpW.len (s := x11) slice_25 rfl ?_)
      refine RL.opS trivial rfl (OpW.bin (k := .i64) (a := (x11.len : Int)) (b := 300) (v := .bool (decide (300 < (x11.len : Int)))) rfl rfl rfl ?_)
      refine RL.nil ?_
      obtain ⟨ha, hc⟩ := h
      refine CW.cond (b := (decide (300 < (x11.len : Int)))) rfl (fun hb12 => ?_) (fun hb12 => ?_)
      · have h := ha hb12; clear ha hc
        refine CW.seq ?_
        refine CW.region ?_
        refine RL.opS trivial rfl (OpW.assign (v := .bool false) rfl ?_)
        refine RL.nil ?_
        refine CW.ret ?_
        exact ret_intro (res1 rfl rfl) ⟨false, rfl, h⟩
      · have h := hc hb12; clear ha hc
        refine CW.skip ?_
        refine CW.region ?_
        refine RL.opS trivial rfl (OpW.bin (k := .i64) (a := s2) (b := 1) (v := .int .i64 (IntKind.i64.wrap (s2 + 1))) e5 rfl rfl ?_)
        refine RL.opS trivial rfl (OpW.move (v := .int .i64 (IntKind.i64.wrap (s2 + 1))) rfl ?_)
        refine RL.nil ?_
        exact ⟨(IntKind.i64.wrap (s2 + 1)), ⟨rfl, e6, e7⟩, h⟩
    · have h := hc hb8; clear ha hc
      refine CW.exit ?_
      refine CW.seq ?_
      refine CW.region ?_
      refine RL.opS trivial rfl (OpW.assign (v := .bool true) rfl ?_)
      refine RL.nil ?_
      refine CW.ret ?_
      exact ret_intro (res1 rfl rfl) ⟨true, rfl, h⟩
end Go.Proofs.Ytmlbmnaknjdmgaa
