/- The typed readings of the functions, and that the program meets each: written by gen.py (a program of this session). -/
import Derived.Test.YtmlbmnaknjdmgaaLiftDraw
import Derived.Test.YtmlbmnaknjdmgaaRead
set_option linter.unusedVariables false
set_option linter.unusedSimpArgs false
namespace Go.Proofs.Ytmlbmnaknjdmgaa
open Go.Lift
set_option maxRecDepth 100000 in
set_option maxHeartbeats 4000000 in
theorem s10_calls (K : Int → World → Prop) (p0 : Sl) (w : World) (h : s10 K p0 w) :
    Calls Try.prog 10 #[Sl.v p0] w (Ret r10 K) := by
  unfold s10 at h
  refine calls_of_CW (n := 40) Try.func10 rfl rfl rfl ?_
  refine CW.seq ?_
  refine CW.region ?_
  refine RL.opS trivial rfl (OpW.assign (v := .int .u32 0) rfl ?_)
  refine RL.nil ?_
  refine CW.seq ?_
  refine CW.region ?_
  refine RL.opS trivial rfl (OpW.assign (v := .int .u32 4294967295) rfl ?_)
  refine RL.nil ?_
  refine CW.seq ?_
  refine CW.seq ?_
  refine CW.region ?_
  refine RL.opS trivial rfl (OpW.move (v := Sl.v p0) rfl ?_)
  refine RL.opS trivial rfl (OpW.len (s := p0) slice_22 rfl ?_)
  refine RL.opS trivial rfl (OpW.move (v := .int .i64 0) rfl ?_)
  refine RL.nil ?_
  refine CW.block ?_
  obtain ⟨I56, mu57, hI, hs⟩ := h
  refine CW.loop (σ := Int × Int) (fun s1 ρ => ρ 3 = .int .u32 s1.1 ∧ ρ 11 = .int .i64 s1.2 ∧ ρ 9 = Sl.v p0 ∧ ρ 10 = .int .i64 (p0.len : Int)) I56 mu57 (4294967295, 0) ⟨rfl, rfl, rfl, rfl⟩ hI ?_
  rintro s1 ρ w2 ⟨e4, e5, e6, e7⟩ hI
  have h := hs s1 w2 hI
  clear hs hI
  refine CW.seq ?_
  refine CW.region ?_
  refine RL.opS trivial rfl (OpW.bin (k := .i64) (a := s1.2) (b := (p0.len : Int)) (v := .bool (decide (s1.2 < (p0.len : Int)))) e5 e7 rfl ?_)
  refine RL.nil ?_
  refine CW.seq ?_
  obtain ⟨ha, hc⟩ := h
  refine CW.cond (b := (decide (s1.2 < (p0.len : Int)))) rfl (fun hb8 => ?_) (fun hb8 => ?_)
  · have h := ha hb8; clear ha hc
    refine CW.skip ?_
    refine CW.seq ?_
    refine CW.block ?_
    refine CW.seq ?_
    refine CW.region ?_
    obtain ⟨a9_, a9, h1, h2, h3, h4, h⟩ := h
    refine RL.opS trivial rfl (OpW.indexE (a' := a9) slice_22 e6 e5 h1 h2 h3 h4 ?_)
    obtain ⟨x11, h1, h⟩ := h
    refine RL.opS trivial rfl (OpW.load1 (v := Sl.v x11) one_25 rfl h1 ?_)
    refine RL.opS trivial rfl (OpW.assign (v := Sl.v x11) rfl ?_)
    refine RL.nil ?_
    refine CW.seq ?_
    refine CW.region ?_
    refine RL.opS trivial rfl (OpW.move (v := Sl.v x11) rfl ?_)
    refine RL.opS trivial rfl (OpW.len (s := x11) slice_25 rfl ?_)
    refine RL.opS trivial rfl (OpW.move (v := .int .i64 0) rfl ?_)
    refine RL.nil ?_
    refine CW.block ?_
    obtain ⟨I54, mu55, hI, hs⟩ := h
    refine CW.loop (σ := Int × Int) (fun s12 ρ => ρ 3 = .int .u32 s12.1 ∧ ρ 17 = .int .i64 s12.2 ∧ ρ 9 = Sl.v p0 ∧ ρ 10 = .int .i64 (p0.len : Int) ∧ ρ 11 = .int .i64 s1.2 ∧ ρ 15 = Sl.v x11 ∧ ρ 16 = .int .i64 (x11.len : Int)) I54 mu55 (s1.1, 0) ⟨e4, rfl, e6, e7, e5, rfl, rfl⟩ hI ?_
    rintro s12 ρ w13 ⟨e15, e16, e17, e18, e19, e20, e21⟩ hI
    have h := hs s12 w13 hI
    clear hs hI
    refine CW.seq ?_
    refine CW.region ?_
    refine RL.opS trivial rfl (OpW.bin (k := .i64) (a := s12.2) (b := (x11.len : Int)) (v := .bool (decide (s12.2 < (x11.len : Int)))) e16 e21 rfl ?_)
    refine RL.nil ?_
    refine CW.seq ?_
    obtain ⟨ha, hc⟩ := h
    refine CW.cond (b := (decide (s12.2 < (x11.len : Int)))) rfl (fun hb22 => ?_) (fun hb22 => ?_)
    · have h := ha hb22; clear ha hc
      refine CW.skip ?_
      refine CW.seq ?_
      refine CW.block ?_
      refine CW.seq ?_
      refine CW.region ?_
      obtain ⟨a23_, a23, h1, h2, h3, h4, h⟩ := h
      refine RL.opS trivial rfl (OpW.indexE (a' := a23) slice_25 e20 e16 h1 h2 h3 h4 ?_)
      obtain ⟨x25, h1, h⟩ := h
      refine RL.opS trivial rfl (OpW.load1 (v := .int .u8 x25) one_5 rfl h1 ?_)
      refine RL.opS trivial rfl (OpW.assign (v := .int .u8 x25) rfl ?_)
      refine RL.nil ?_
      refine CW.seq ?_
      refine CW.region ?_
      refine RL.opS trivial rfl (OpW.move (v := .int .u32 s12.1) e15 ?_)
      refine RL.opS trivial rfl (OpW.move (v := .int .u8 x25) rfl ?_)
      refine RL.opS trivial rfl (OpW.convInt (a := x25) int_5 int_26 rfl ?_)
      refine RL.opS trivial rfl (OpW.bin (k := .u32) (a := s12.1) (b := (IntKind.u32.wrap x25)) (v := .int .u32 (xorI .u32 s12.1 (IntKind.u32.wrap x25))) rfl rfl rfl ?_)
      refine RL.opS trivial rfl (OpW.assign (v := .int .u32 (xorI .u32 s12.1 (IntKind.u32.wrap x25))) rfl ?_)
      refine RL.nil ?_
      refine CW.seq ?_
      refine CW.region ?_
      refine RL.opS trivial rfl (OpW.move (v := .int .i64 0) rfl ?_)
      refine RL.nil ?_
      refine CW.block ?_
      obtain ⟨I52, mu53, hI, hs⟩ := h
      refine CW.loop (σ := Int × Int) (fun s26 ρ => ρ 3 = .int .u32 s26.1 ∧ ρ 25 = .int .i64 s26.2 ∧ ρ 9 = Sl.v p0 ∧ ρ 10 = .int .i64 (p0.len : Int) ∧ ρ 11 = .int .i64 s1.2 ∧ ρ 15 = Sl.v x11 ∧ ρ 16 = .int .i64 (x11.len : Int) ∧ ρ 17 = .int .i64 s12.2) I52 mu53 ((xorI .u32 s12.1 (IntKind.u32.wrap x25)), 0) ⟨rfl, rfl, e17, e18, e19, e20, e21, e16⟩ hI ?_
      rintro s26 ρ w27 ⟨e29, e30, e31, e32, e33, e34, e35, e36⟩ hI
      have h := hs s26 w27 hI
      clear hs hI
      refine CW.seq ?_
      refine CW.region ?_
      refine RL.opS trivial rfl (OpW.bin (k := .i64) (a := s26.2) (b := 8) (v := .bool (decide (s26.2 < 8))) e30 rfl rfl ?_)
      refine RL.nil ?_
      refine CW.seq ?_
      obtain ⟨ha, hc⟩ := h
      refine CW.cond (b := (decide (s26.2 < 8))) rfl (fun hb37 => ?_) (fun hb37 => ?_)
      · have h := ha hb37; clear ha hc
        refine CW.skip ?_
        refine jn_elim h ?_; clear h; intro k50 hk51 h
        refine CW.seqJ (A := Int) (fun s40 ρ => ρ 3 = .int .u32 s40 ∧ ρ 9 = Sl.v p0 ∧ ρ 10 = .int .i64 (p0.len : Int) ∧ ρ 11 = .int .i64 s1.2 ∧ ρ 15 = Sl.v x11 ∧ ρ 16 = .int .i64 (x11.len : Int) ∧ ρ 17 = .int .i64 s12.2 ∧ ρ 25 = .int .i64 s26.2) k50 ?_ ?_
        · rintro s40 ρ w41 ⟨e42, e43, e44, e45, e46, e47, e48, e49⟩ h
          subst hk51
          refine CW.region ?_
          refine RL.opS trivial rfl (OpW.bin (k := .i64) (a := s26.2) (b := 1) (v := .int .i64 (IntKind.i64.wrap (s26.2 + 1))) e49 rfl rfl ?_)
          refine RL.opS trivial rfl (OpW.move (v := .int .i64 (IntKind.i64.wrap (s26.2 + 1))) rfl ?_)
          refine RL.nil ?_
          exact ⟨(s40, (IntKind.i64.wrap (s26.2 + 1))), ⟨e42, rfl, e43, e44, e45, e46, e47, e48⟩, h⟩
        · clear hk51
          refine CW.block ?_
          refine CW.seq ?_
          refine CW.region ?_
          refine RL.opS trivial rfl (OpW.move (v := .int .u32 s26.1) e29 ?_)
          refine RL.opS trivial rfl (OpW.bin (k := .u32) (a := s26.1) (b := 1) (v := .int .u32 (andI .u32 s26.1 1)) rfl rfl rfl ?_)
          refine RL.opS trivial rfl (OpW.assign (v := .int .u32 (andI .u32 s26.1 1)) rfl ?_)
          refine RL.nil ?_
          refine CW.seq ?_
          refine CW.region ?_
          refine RL.opS trivial rfl (OpW.move (v := .int .u32 s26.1) e29 ?_)
          refine RL.opS trivial rfl (OpW.shift (a := s26.1) (b := 1) (v := .int .u32 (shrI .u32 s26.1 1)) rfl rfl (by decide) rfl ?_)
          refine RL.opS trivial rfl (OpW.assign (v := .int .u32 (shrI .u32 s26.1 1)) rfl ?_)
          refine RL.nil ?_
          refine CW.seq ?_
          refine CW.region ?_
          refine RL.opS trivial rfl (OpW.move (v := .int .u32 (andI .u32 s26.1 1)) rfl ?_)
          refine RL.opS trivial rfl (OpW.bin (k := .u32) (a := (andI .u32 s26.1 1)) (b := 1) (v := .bool (decide ((andI .u32 s26.1 1) = 1))) rfl rfl rfl ?_)
          refine RL.nil ?_
          obtain ⟨ha, hc⟩ := h
          refine CW.cond (b := (decide ((andI .u32 s26.1 1) = 1))) rfl (fun hb39 => ?_) (fun hb39 => ?_)
          · have h := ha hb39; clear ha hc
            refine CW.region ?_
            refine RL.opS trivial rfl (OpW.move (v := .int .u32 (shrI .u32 s26.1 1)) rfl ?_)
            refine RL.opS trivial rfl (OpW.bin (k := .u32) (a := (shrI .u32 s26.1 1)) (b := 3988292384) (v := .int .u32 (xorI .u32 (shrI .u32 s26.1 1) 3988292384)) rfl rfl rfl ?_)
            refine RL.opS trivial rfl (OpW.assign (v := .int .u32 (xorI .u32 (shrI .u32 s26.1 1) 3988292384)) rfl ?_)
            refine RL.nil ?_
            exact ⟨(xorI .u32 (shrI .u32 s26.1 1) 3988292384), ⟨rfl, e31, e32, e33, e34, e35, e36, e30⟩, h⟩
          · have h := hc hb39; clear ha hc
            refine CW.skip ?_
            exact ⟨(shrI .u32 s26.1 1), ⟨rfl, e31, e32, e33, e34, e35, e36, e30⟩, h⟩
      · have h := hc hb37; clear ha hc
        refine CW.exit ?_
        refine CW.region ?_
        refine RL.opS trivial rfl (OpW.bin (k := .i64) (a := s12.2) (b := 1) (v := .int .i64 (IntKind.i64.wrap (s12.2 + 1))) e36 rfl rfl ?_)
        refine RL.opS trivial rfl (OpW.move (v := .int .i64 (IntKind.i64.wrap (s12.2 + 1))) rfl ?_)
        refine RL.nil ?_
        exact ⟨(s26.1, (IntKind.i64.wrap (s12.2 + 1))), ⟨e29, rfl, e31, e32, e33, e34, e35⟩, h⟩
    · have h := hc hb22; clear ha hc
      refine CW.exit ?_
      refine CW.region ?_
      refine RL.opS trivial rfl (OpW.bin (k := .i64) (a := s1.2) (b := 1) (v := .int .i64 (IntKind.i64.wrap (s1.2 + 1))) e19 rfl rfl ?_)
      refine RL.opS trivial rfl (OpW.move (v := .int .i64 (IntKind.i64.wrap (s1.2 + 1))) rfl ?_)
      refine RL.nil ?_
      exact ⟨(s12.1, (IntKind.i64.wrap (s1.2 + 1))), ⟨e15, rfl, e17, e18⟩, h⟩
  · have h := hc hb8; clear ha hc
    refine CW.exit ?_
    refine CW.seq ?_
    refine CW.region ?_
    refine RL.opS trivial rfl (OpW.move (v := .int .u32 s1.1) e4 ?_)
    refine RL.opS trivial rfl (OpW.compl rfl ?_)
    refine RL.opS trivial rfl (OpW.assign (v := .int .u32 (cmpl .u32 s1.1)) rfl ?_)
    refine RL.nil ?_
    refine CW.ret ?_
    exact ret_intro (res1 rfl rfl) ⟨(cmpl .u32 s1.1), rfl, h⟩
end Go.Proofs.Ytmlbmnaknjdmgaa
