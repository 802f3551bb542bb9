/- The typed readings of the functions, and that the program meets each: written by gen.py (a program of this session). -/
import Derived.Test.YtmlbmnaknjdmgaaLiftDraw
import Derived.Test.YtmlbmnaknjdmgaaRead
set_option linter.unusedVariables false
set_option linter.unusedSimpArgs false
namespace Go.Proofs.Ytmlbmnaknjdmgaa
open Go.Lift
set_option maxRecDepth 100000 in
set_option maxHeartbeats 4000000 in
theorem s11_calls (K : Int → World → Prop) (p0 : List UInt8) (w : World) (h : s11 K p0 w) :
    Calls Try.prog 11 #[str p0] w (Ret r11 K) := by
  unfold s11 at h
  refine calls_of_CW (n := 35) Try.func11 rfl rfl rfl ?_
  refine CW.seq ?_
  refine CW.region ?_
  refine RL.opS trivial rfl (OpW.assign (v := .int .u32 0) rfl ?_)
  refine RL.nil ?_
  refine CW.seq ?_
  refine CW.region ?_
  refine RL.opS trivial rfl (OpW.assign (v := .int .u32 4294967295) rfl ?_)
  refine RL.nil ?_
  refine CW.seq ?_
  refine CW.seq ?_
  refine CW.region ?_
  refine RL.opS trivial rfl (OpW.assign (v := .int .i64 0) rfl ?_)
  refine RL.nil ?_
  refine CW.block ?_
  obtain ⟨I18, mu19, hI, hs⟩ := h
  refine CW.loop (σ := Int × Int) (fun s1 ρ => ρ 3 = .int .u32 s1.1 ∧ ρ 4 = .int .i64 s1.2 ∧ ρ 0 = str p0) I18 mu19 (4294967295, 0) ⟨rfl, rfl, rfl⟩ hI ?_
  rintro s1 ρ w2 ⟨e4, e5, e6⟩ hI
  have h := hs s1 w2 hI
  clear hs hI
  refine CW.seq ?_
  refine CW.seq ?_
  refine CW.region ?_
  refine RL.opS trivial rfl (OpW.move (v := .int .i64 s1.2) e5 ?_)
  refine RL.opS trivial rfl (OpW.move (v := str p0) e6 ?_)
  refine RL.opS trivial rfl (OpW.lenStr us_9 rfl ?_)
  refine RL.opS trivial rfl (OpW.bin (k := .i64) (a := 8) (b := (p0.length : Int)) (v := .int .i64 (IntKind.i64.wrap (8 * (p0.length : Int)))) rfl rfl rfl ?_)
  refine RL.opS trivial rfl (OpW.bin (k := .i64) (a := s1.2) (b := (IntKind.i64.wrap (8 * (p0.length : Int)))) (v := .bool (decide (s1.2 < (IntKind.i64.wrap (8 * (p0.length : Int)))))) rfl rfl rfl ?_)
  refine RL.nil ?_
  obtain ⟨ha, hc⟩ := h
  refine CW.cond (b := (decide (s1.2 < (IntKind.i64.wrap (8 * (p0.length : Int)))))) rfl (fun hb7 => ?_) (fun hb7 => ?_)
  · have h := ha hb7; clear ha hc
    refine CW.skip ?_
    refine jn_elim h ?_; clear h; intro k16 hk17 h
    refine CW.seqJ (A := Int) (fun s11 ρ => ρ 3 = .int .u32 s11 ∧ ρ 0 = str p0 ∧ ρ 4 = .int .i64 s1.2) k16 ?_ ?_
    · rintro s11 ρ w12 ⟨e13, e14, e15⟩ h
      subst hk17
      refine CW.region ?_
      refine RL.opS trivial rfl (OpW.move (v := .int .i64 s1.2) e15 ?_)
      refine RL.opS trivial rfl (OpW.bin (k := .i64) (a := s1.2) (b := 1) (v := .int .i64 (IntKind.i64.wrap (s1.2 + 1))) rfl rfl rfl ?_)
      refine RL.opS trivial rfl (OpW.assign (v := .int .i64 (IntKind.i64.wrap (s1.2 + 1))) rfl ?_)
      refine RL.nil ?_
      exact ⟨(s11, (IntKind.i64.wrap (s1.2 + 1))), ⟨e13, rfl, e14⟩, h⟩
    · clear hk17
      refine CW.block ?_
      refine CW.seq ?_
      refine CW.region ?_
      refine RL.opS trivial rfl (OpW.move (v := .int .u32 s1.1) e4 ?_)
      refine RL.opS trivial rfl (OpW.quo (a := s1.1) (b := 2) (v := .int .u32 (Int.tmod s1.1 2)) rfl rfl (by decide) rfl ?_)
      refine RL.opS trivial rfl (OpW.assign (v := .int .u32 (Int.tmod s1.1 2)) rfl ?_)
      refine RL.nil ?_
      refine CW.seq ?_
      refine CW.region ?_
      refine RL.opS trivial rfl (OpW.move (v := str p0) e6 ?_)
      refine RL.opS trivial rfl (OpW.move (v := .int .i64 s1.2) e5 ?_)
      refine RL.opS trivial rfl (OpW.quo (a := s1.2) (b := 8) (v := .int .i64 (IntKind.i64.wrap (Int.tdiv s1.2 8))) rfl rfl (by decide) rfl ?_)
      obtain ⟨c9, h1, h2, h⟩ := h
      refine RL.opS trivial rfl (OpW.indexStr us_9 rfl rfl h1 h2 ?_)
      refine RL.opS trivial rfl (OpW.move (v := .int .i64 s1.2) e5 ?_)
      refine RL.opS trivial rfl (OpW.quo (a := s1.2) (b := 8) (v := .int .i64 (Int.tmod s1.2 8)) rfl rfl (by decide) rfl ?_)
      refine RL.opS trivial rfl (OpW.convInt (a := (Int.tmod s1.2 8)) int_3 int_36 rfl ?_)
      obtain ⟨hq_, h⟩ := h
      refine RL.opS trivial rfl (OpW.shift (a := (c9.toNat : Int)) (b := (IntKind.u64.wrap (Int.tmod s1.2 8))) (v := .int .u8 (shrI .u8 (c9.toNat : Int) (IntKind.u64.wrap (Int.tmod s1.2 8)))) rfl rfl hq_ rfl ?_)
      refine RL.opS trivial rfl (OpW.convInt (a := (shrI .u8 (c9.toNat : Int) (IntKind.u64.wrap (Int.tmod s1.2 8)))) int_5 int_26 rfl ?_)
      refine RL.opS trivial rfl (OpW.quo (a := (IntKind.u32.wrap (shrI .u8 (c9.toNat : Int) (IntKind.u64.wrap (Int.tmod s1.2 8))))) (b := 2) (v := .int .u32 (Int.tmod (IntKind.u32.wrap (shrI .u8 (c9.toNat : Int) (IntKind.u64.wrap (Int.tmod s1.2 8)))) 2)) rfl rfl (by decide) rfl ?_)
      refine RL.opS trivial rfl (OpW.assign (v := .int .u32 (Int.tmod (IntKind.u32.wrap (shrI .u8 (c9.toNat : Int) (IntKind.u64.wrap (Int.tmod s1.2 8)))) 2)) rfl ?_)
      refine RL.nil ?_
      refine CW.seq ?_
      refine CW.region ?_
      refine RL.opS trivial rfl (OpW.move (v := .int .u32 s1.1) e4 ?_)
      refine RL.opS trivial rfl (OpW.quo (a := s1.1) (b := 2) (v := .int .u32 (IntKind.u32.wrap (Int.tdiv s1.1 2))) rfl rfl (by decide) rfl ?_)
      refine RL.opS trivial rfl (OpW.assign (v := .int .u32 (IntKind.u32.wrap (Int.tdiv s1.1 2))) rfl ?_)
      refine RL.nil ?_
      refine CW.seq ?_
      refine CW.region ?_
      refine RL.opS trivial rfl (OpW.move (v := .int .u32 (Int.tmod s1.1 2)) rfl ?_)
      refine RL.opS trivial rfl (OpW.move (v := .int .u32 (Int.tmod (IntKind.u32.wrap (shrI .u8 (c9.toNat : Int) (IntKind.u64.wrap (Int.tmod s1.2 8)))) 2)) rfl ?_)
      refine RL.opS trivial rfl (OpW.bin (k := .u32) (a := (Int.tmod s1.1 2)) (b := (Int.tmod (IntKind.u32.wrap (shrI .u8 (c9.toNat : Int) (IntKind.u64.wrap (Int.tmod s1.2 8)))) 2)) (v := .bool (!decide ((Int.tmod s1.1 2) = (Int.tmod (IntKind.u32.wrap (shrI .u8 (c9.toNat : Int) (IntKind.u64.wrap (Int.tmod s1.2 8)))) 2)))) rfl rfl rfl ?_)
      refine RL.nil ?_
      obtain ⟨ha, hc⟩ := h
      refine CW.cond (b := (!decide ((Int.tmod s1.1 2) = (Int.tmod (IntKind.u32.wrap (shrI .u8 (c9.toNat : Int) (IntKind.u64.wrap (Int.tmod s1.2 8)))) 2)))) rfl (fun hb10 => ?_) (fun hb10 => ?_)
      · have h := ha hb10; clear ha hc
        refine CW.region ?_
        refine RL.opS trivial rfl (OpW.move (v := .int .u32 (IntKind.u32.wrap (Int.tdiv s1.1 2))) rfl ?_)
        refine RL.opS trivial rfl (OpW.bin (k := .u32) (a := (IntKind.u32.wrap (Int.tdiv s1.1 2))) (b := 3988292384) (v := .int .u32 (xorI .u32 (IntKind.u32.wrap (Int.tdiv s1.1 2)) 3988292384)) rfl rfl rfl ?_)
        refine RL.opS trivial rfl (OpW.assign (v := .int .u32 (xorI .u32 (IntKind.u32.wrap (Int.tdiv s1.1 2)) 3988292384)) rfl ?_)
        refine RL.nil ?_
        exact ⟨(xorI .u32 (IntKind.u32.wrap (Int.tdiv s1.1 2)) 3988292384), ⟨rfl, e6, e5⟩, h⟩
      · have h := hc hb10; clear ha hc
        refine CW.skip ?_
        exact ⟨(IntKind.u32.wrap (Int.tdiv s1.1 2)), ⟨rfl, e6, e5⟩, h⟩
  · have h := hc hb7; clear ha hc
    refine CW.exit ?_
    refine CW.seq ?_
    refine CW.region ?_
    refine RL.opS trivial rfl (OpW.move (v := .int .u32 s1.1) e4 ?_)
    refine RL.opS trivial rfl (OpW.bin (k := .u32) (a := 4294967295) (b := s1.1) (v := .int .u32 (IntKind.u32.wrap (4294967295 - s1.1))) rfl rfl rfl ?_)
    refine RL.opS trivial rfl (OpW.assign (v := .int .u32 (IntKind.u32.wrap (4294967295 - s1.1))) rfl ?_)
    refine RL.nil ?_
    refine CW.ret ?_
    exact ret_intro (res1 rfl rfl) ⟨(IntKind.u32.wrap (4294967295 - s1.1)), rfl, h⟩
end Go.Proofs.Ytmlbmnaknjdmgaa
