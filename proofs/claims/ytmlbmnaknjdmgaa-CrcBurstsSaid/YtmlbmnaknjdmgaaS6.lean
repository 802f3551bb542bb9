/- The typed readings of the functions, and that the program meets each: written by gen.py (a program of this session). -/
import Derived.Test.YtmlbmnaknjdmgaaLiftDraw
import Derived.Test.YtmlbmnaknjdmgaaRead
set_option linter.unusedVariables false
set_option linter.unusedSimpArgs false
namespace Go.Proofs.Ytmlbmnaknjdmgaa
open Go.Lift
set_option maxRecDepth 100000 in
set_option maxHeartbeats 4000000 in
theorem s6_calls (K : Bool → World → Prop) (p0 : Sl) (p1 : Int) (p2 : Int) (w : World) (h : s6 K p0 p1 p2 w) :
    Calls Try.prog 6 #[Sl.v p0, .int .i64 p1, .int .u32 p2] w (Ret r6 K) := by
  unfold s6 at h
  refine calls_of_CW (n := 76) Try.func6 rfl rfl rfl ?_
  refine CW.seq ?_
  refine CW.region ?_
  refine RL.opS trivial rfl (OpW.assign (v := .bool false) rfl ?_)
  refine RL.nil ?_
  refine CW.seq ?_
  refine CW.seq ?_
  refine CW.region ?_
  refine RL.opS trivial rfl (OpW.callR (al := []) Try.func8 fb_8 fn_8 rfl h (fun x1 w2 h => ?_))
  refine RL.opS trivial rfl (OpW.not rfl ?_)
  refine RL.opS trivial rfl (OpW.move (v := .bool (!x1)) rfl ?_)
  refine jn_elim h ?_; clear h; intro k64 hk65 h
  refine RL.joinAt (A := Bool) 4 (fun s5 ρ => ρ 18 = .bool s5 ∧ ρ 0 = Sl.v p0 ∧ ρ 1 = .int .i64 p1 ∧ ρ 2 = .int .u32 p2) k64 ?_ ?_
  · rintro s5 ρ w6 ⟨e7, e8, e9, e10⟩ h
    subst hk65
    dsimp only [List.drop]
    refine RL.opS trivial rfl (OpW.move (v := .bool s5) e7 ?_)
    refine jn_elim h ?_; clear h; intro k62 hk63 h
    refine RL.joinAt (A := Bool) 3 (fun s13 ρ => ρ 22 = .bool s13 ∧ ρ 0 = Sl.v p0 ∧ ρ 1 = .int .i64 p1 ∧ ρ 2 = .int .u32 p2) k62 ?_ ?_
    · rintro s13 ρ w14 ⟨e15, e16, e17, e18⟩ h
      subst hk63
      dsimp only [List.drop]
      refine RL.nil ?_
      obtain ⟨ha, hc⟩ := h
      refine CW.cond (b := s13) e15 (fun hb19 => ?_) (fun hb19 => ?_)
      · have h := ha hb19; clear ha hc
        refine CW.seq ?_
        refine CW.region ?_
        refine RL.opS trivial rfl (OpW.callR (al := []) Try.func8 fb_8 fn_8 rfl h (fun x20 w21 h => ?_))
        refine RL.opS trivial rfl (OpW.assign (v := .bool x20) rfl ?_)
        refine RL.nil ?_
        refine CW.ret ?_
        exact ret_intro (res1 rfl rfl) ⟨x20, rfl, h⟩
      · have h := hc hb19; clear ha hc
        refine CW.skip ?_
        refine CW.seq ?_
        refine CW.region ?_
        refine RL.opS trivial rfl (OpW.move (v := Sl.v p0) e16 ?_)
        refine RL.opS trivial rfl (OpW.callR (al := [Sl.v p0]) Try.func12 fb_12 fn_12 rfl h (fun x22 w23 h => ?_))
        refine RL.opS trivial rfl (OpW.assign (v := Sl.v x22) rfl ?_)
        refine RL.nil ?_
        refine CW.seq ?_
        refine CW.seq ?_
        refine CW.region ?_
        refine RL.opS trivial rfl (OpW.move (v := Sl.v x22) rfl ?_)
        refine RL.opS trivial rfl (OpW.len (s := x22) slice_25 rfl ?_)
        refine RL.opS trivial rfl (OpW.move (v := Sl.v p0) e16 ?_)
        refine RL.opS trivial rfl (OpW.len (s := p0) slice_25 rfl ?_)
        refine RL.opS trivial rfl (OpW.bin (k := .i64) (a := (p0.len : Int)) (b := 4) (v := .int .i64 (IntKind.i64.wrap ((p0.len : Int) + 4))) rfl rfl rfl ?_)
        refine RL.opS trivial rfl (OpW.bin (k := .i64) (a := (x22.len : Int)) (b := (IntKind.i64.wrap ((p0.len : Int) + 4))) (v := .bool (!decide ((x22.len : Int) = (IntKind.i64.wrap ((p0.len : Int) + 4))))) rfl rfl rfl ?_)
        refine RL.nil ?_
        obtain ⟨ha, hc⟩ := h
        refine CW.cond (b := (!decide ((x22.len : Int) = (IntKind.i64.wrap ((p0.len : Int) + 4))))) rfl (fun hb24 => ?_) (fun hb24 => ?_)
        · have h := ha hb24; clear ha hc
          refine CW.seq ?_
          refine CW.region ?_
          refine RL.opS trivial rfl (OpW.assign (v := .bool false) rfl ?_)
          refine RL.nil ?_
          refine CW.ret ?_
          exact ret_intro (res1 rfl rfl) ⟨false, rfl, h⟩
        · have h := hc hb24; clear ha hc
          refine CW.skip ?_
          refine CW.seq ?_
          refine CW.region ?_
          refine RL.opS trivial rfl (OpW.move (v := .int .i64 p1) e17 ?_)
          refine RL.opS trivial rfl (OpW.convInt (a := p1) int_3 int_36 rfl ?_)
          refine RL.opS trivial rfl (OpW.move (v := Sl.v x22) rfl ?_)
          refine RL.opS trivial rfl (OpW.len (s := x22) slice_25 rfl ?_)
          refine RL.opS trivial rfl (OpW.bin (k := .i64) (a := 8) (b := (x22.len : Int)) (v := .int .i64 (IntKind.i64.wrap (8 * (x22.len : Int)))) rfl rfl rfl ?_)
          refine RL.opS trivial rfl (OpW.bin (k := .i64) (a := (IntKind.i64.wrap (8 * (x22.len : Int)))) (b := 31) (v := .int .i64 (IntKind.i64.wrap ((IntKind.i64.wrap (8 * (x22.len : Int))) - 31))) rfl rfl rfl ?_)
          refine RL.opS trivial rfl (OpW.convInt (a := (IntKind.i64.wrap ((IntKind.i64.wrap (8 * (x22.len : Int))) - 31))) int_3 int_36 rfl ?_)
          obtain ⟨hq_, h⟩ := h
          refine RL.opS trivial rfl (OpW.quo (a := (IntKind.u64.wrap p1)) (b := (IntKind.u64.wrap (IntKind.i64.wrap ((IntKind.i64.wrap (8 * (x22.len : Int))) - 31)))) (v := .int .u64 (Int.tmod (IntKind.u64.wrap p1) (IntKind.u64.wrap (IntKind.i64.wrap ((IntKind.i64.wrap (8 * (x22.len : Int))) - 31))))) rfl rfl hq_ rfl ?_)
          refine RL.opS trivial rfl (OpW.convInt (a := (Int.tmod (IntKind.u64.wrap p1) (IntKind.u64.wrap (IntKind.i64.wrap ((IntKind.i64.wrap (8 * (x22.len : Int))) - 31))))) int_36 int_3 rfl ?_)
          refine RL.opS trivial rfl (OpW.assign (v := .int .i64 (IntKind.i64.wrap (Int.tmod (IntKind.u64.wrap p1) (IntKind.u64.wrap (IntKind.i64.wrap ((IntKind.i64.wrap (8 * (x22.len : Int))) - 31)))))) rfl ?_)
          refine RL.nil ?_
          refine CW.seq ?_
          refine CW.seq ?_
          refine CW.region ?_
          refine RL.opS trivial rfl (OpW.move (v := .int .i64 0) rfl ?_)
          refine RL.nil ?_
          refine CW.block ?_
          obtain ⟨I60, mu61, hI, hs⟩ := h
          refine CW.loop (σ := Int) (fun s25 ρ => ρ 41 = .int .i64 s25 ∧ ρ 2 = .int .u32 p2 ∧ ρ 7 = Sl.v x22 ∧ ρ 8 = .int .i64 (IntKind.i64.wrap (Int.tmod (IntKind.u64.wrap p1) (IntKind.u64.wrap (IntKind.i64.wrap ((IntKind.i64.wrap (8 * (x22.len : Int))) - 31)))))) I60 mu61 0 ⟨rfl, e18, rfl, rfl⟩ hI ?_
          rintro s25 ρ w26 ⟨e28, e29, e30, e31⟩ hI
          have h := hs s25 w26 hI
          clear hs hI
          refine CW.seq ?_
          refine CW.region ?_
          refine RL.opS trivial rfl (OpW.bin (k := .i64) (a := s25) (b := 32) (v := .bool (decide (s25 < 32))) e28 rfl rfl ?_)
          refine RL.nil ?_
          refine CW.seq ?_
          obtain ⟨ha, hc⟩ := h
          refine CW.cond (b := (decide (s25 < 32))) rfl (fun hb32 => ?_) (fun hb32 => ?_)
          · have h := ha hb32; clear ha hc
            refine CW.skip ?_
            refine jn_elim h ?_; clear h; intro k49 hk50 h
            refine CW.seqJ (A := Unit) (fun s43 ρ => ρ 2 = .int .u32 p2 ∧ ρ 7 = Sl.v x22 ∧ ρ 8 = .int .i64 (IntKind.i64.wrap (Int.tmod (IntKind.u64.wrap p1) (IntKind.u64.wrap (IntKind.i64.wrap ((IntKind.i64.wrap (8 * (x22.len : Int))) - 31))))) ∧ ρ 41 = .int .i64 s25) k49 ?_ ?_
            · rintro s43 ρ w44 ⟨e45, e46, e47, e48⟩ h
              subst hk50
              refine CW.region ?_
              refine RL.opS trivial rfl (OpW.bin (k := .i64) (a := s25) (b := 1) (v := .int .i64 (IntKind.i64.wrap (s25 + 1))) e48 rfl rfl ?_)
              refine RL.opS trivial rfl (OpW.move (v := .int .i64 (IntKind.i64.wrap (s25 + 1))) rfl ?_)
              refine RL.nil ?_
              exact ⟨(IntKind.i64.wrap (s25 + 1)), ⟨rfl, e45, e46, e47⟩, h⟩
            · clear hk50
              refine CW.block ?_
              refine CW.seq ?_
              refine CW.region ?_
              refine RL.opS trivial rfl (OpW.move (v := .int .i64 s25) e28 ?_)
              refine RL.opS trivial rfl (OpW.assign (v := .int .i64 s25) rfl ?_)
              refine RL.nil ?_
              refine CW.seq ?_
              refine CW.region ?_
              refine RL.opS trivial rfl (OpW.move (v := .int .u32 p2) e29 ?_)
              refine RL.opS trivial rfl (OpW.move (v := .int .i64 s25) rfl ?_)
              obtain ⟨hq_, h⟩ := h
              refine RL.opS trivial rfl (OpW.shift (a := p2) (b := s25) (v := .int .u32 (shrI .u32 p2 s25)) rfl rfl hq_ rfl ?_)
              refine RL.opS trivial rfl (OpW.bin (k := .u32) (a := (shrI .u32 p2 s25)) (b := 1) (v := .int .u32 (andI .u32 (shrI .u32 p2 s25) 1)) rfl rfl rfl ?_)
              refine RL.opS trivial rfl (OpW.bin (k := .u32) (a := (andI .u32 (shrI .u32 p2 s25) 1)) (b := 1) (v := .bool (decide ((andI .u32 (shrI .u32 p2 s25) 1) = 1))) rfl rfl rfl ?_)
              refine RL.nil ?_
              obtain ⟨ha, hc⟩ := h
              refine CW.cond (b := (decide ((andI .u32 (shrI .u32 p2 s25) 1) = 1))) rfl (fun hb34 => ?_) (fun hb34 => ?_)
              · have h := ha hb34; clear ha hc
                obtain ⟨w35, hw35_⟩ : ∃ w_, w_ = w26.drew := ⟨_, rfl⟩
                have h := h w35 hw35_
                have hx36 : Ext w26 w35 := by rw [hw35_]; exact Ext.drew _
                refine CW.draws (m := 15) (listed := #[false, false, false, false, false, false, false, false, false, false, false, false, false, false, false]) mixed [0, 1, 2, 3, 4, 5, 6, 7, 8, 9, 10, 11, 12, 13] (Ext w26) rfl rfl ?_
                rw [← hw35_]
                refine DL.takeK (listed' := #[true, false, false, false, false, false, false, false, false, false, false, false, false, false, false]) (v := Sl.v x22) 0 rfl rfl (by kernel_rfl) (by kernel_rfl) rfl trivial rfl hx36 (fun w_ hS_ K_ h_ => OpW.move (v := Sl.v x22) e30 h_) ?_
                refine DL.takeK (listed' := #[true, true, false, false, false, false, false, false, false, false, false, false, false, false, false]) (v := .int .i64 (IntKind.i64.wrap (Int.tmod (IntKind.u64.wrap p1) (IntKind.u64.wrap (IntKind.i64.wrap ((IntKind.i64.wrap (8 * (x22.len : Int))) - 31)))))) 1 rfl rfl (by kernel_rfl) (by kernel_rfl) rfl trivial rfl hx36 (fun w_ hS_ K_ h_ => OpW.move (v := .int .i64 (IntKind.i64.wrap (Int.tmod (IntKind.u64.wrap p1) (IntKind.u64.wrap (IntKind.i64.wrap ((IntKind.i64.wrap (8 * (x22.len : Int))) - 31)))))) e31 h_) ?_
                refine DL.takeK (listed' := #[true, true, true, false, false, false, false, false, false, false, false, false, false, false, false]) (v := .int .i64 s25) 2 rfl rfl (by kernel_rfl) (by kernel_rfl) rfl trivial rfl hx36 (fun w_ hS_ K_ h_ => OpW.move (v := .int .i64 s25) rfl h_) ?_
                refine DL.takeK (listed' := #[true, true, true, true, false, false, false, false, false, false, false, false, false, false, false]) (v := .int .i64 (IntKind.i64.wrap ((IntKind.i64.wrap (Int.tmod (IntKind.u64.wrap p1) (IntKind.u64.wrap (IntKind.i64.wrap ((IntKind.i64.wrap (8 * (x22.len : Int))) - 31))))) + s25))) 3 rfl rfl (by kernel_rfl) (by kernel_rfl) rfl trivial rfl hx36 (fun w_ hS_ K_ h_ => OpW.bin (k := .i64) (a := (IntKind.i64.wrap (Int.tmod (IntKind.u64.wrap p1) (IntKind.u64.wrap (IntKind.i64.wrap ((IntKind.i64.wrap (8 * (x22.len : Int))) - 31)))))) (b := s25) (v := .int .i64 (IntKind.i64.wrap ((IntKind.i64.wrap (Int.tmod (IntKind.u64.wrap p1) (IntKind.u64.wrap (IntKind.i64.wrap ((IntKind.i64.wrap (8 * (x22.len : Int))) - 31))))) + s25))) rfl rfl rfl h_) ?_
                refine DL.takeK (listed' := #[true, true, true, true, true, false, false, false, false, false, false, false, false, false, false]) (v := .int .i64 (IntKind.i64.wrap (Int.tdiv (IntKind.i64.wrap ((IntKind.i64.wrap (Int.tmod (IntKind.u64.wrap p1) (IntKind.u64.wrap (IntKind.i64.wrap ((IntKind.i64.wrap (8 * (x22.len : Int))) - 31))))) + s25)) 8))) 4 rfl rfl (by kernel_rfl) (by kernel_rfl) rfl trivial rfl hx36 (fun w_ hS_ K_ h_ => OpW.quo (a := (IntKind.i64.wrap ((IntKind.i64.wrap (Int.tmod (IntKind.u64.wrap p1) (IntKind.u64.wrap (IntKind.i64.wrap ((IntKind.i64.wrap (8 * (x22.len : Int))) - 31))))) + s25))) (b := 8) (v := .int .i64 (IntKind.i64.wrap (Int.tdiv (IntKind.i64.wrap ((IntKind.i64.wrap (Int.tmod (IntKind.u64.wrap p1) (IntKind.u64.wrap (IntKind.i64.wrap ((IntKind.i64.wrap (8 * (x22.len : Int))) - 31))))) + s25)) 8))) rfl rfl (by decide) rfl h_) ?_
                obtain ⟨a37_, a37, h1, h2, h3, h4, h⟩ := h
                refine DL.takeK (listed' := #[true, true, true, true, true, true, false, false, false, false, false, false, false, false, false]) (v := .pointer (some a37)) 5 rfl rfl (by kernel_rfl) (by kernel_rfl) rfl trivial rfl hx36 (fun w_ hS_ K_ h_ => OpW.indexE (a' := a37) slice_25 rfl rfl h1 h2 h3 h4 h_) ?_
                obtain ⟨x39, h1, h⟩ := h
                refine DL.takeK (listed' := #[true, true, true, true, true, true, true, false, false, false, false, false, false, false, false]) (v := .int .u8 x39) 6 rfl rfl (by kernel_rfl) (by kernel_rfl) rfl trivial rfl hx36 (fun w_ hS_ K_ h_ => OpW.load1 (v := .int .u8 x39) one_5 rfl (hS_.cell h1) h_) ?_
                refine DL.takeK (listed' := #[true, true, true, true, true, true, true, true, false, false, false, false, false, false, false]) (v := .int .i64 (IntKind.i64.wrap (Int.tmod (IntKind.u64.wrap p1) (IntKind.u64.wrap (IntKind.i64.wrap ((IntKind.i64.wrap (8 * (x22.len : Int))) - 31)))))) 7 rfl rfl (by kernel_rfl) (by kernel_rfl) rfl trivial rfl hx36 (fun w_ hS_ K_ h_ => OpW.move (v := .int .i64 (IntKind.i64.wrap (Int.tmod (IntKind.u64.wrap p1) (IntKind.u64.wrap (IntKind.i64.wrap ((IntKind.i64.wrap (8 * (x22.len : Int))) - 31)))))) e31 h_) ?_
                refine DL.takeK (listed' := #[true, true, true, true, true, true, true, true, true, false, false, false, false, false, false]) (v := .int .i64 s25) 8 rfl rfl (by kernel_rfl) (by kernel_rfl) rfl trivial rfl hx36 (fun w_ hS_ K_ h_ => OpW.move (v := .int .i64 s25) rfl h_) ?_
                refine DL.takeK (listed' := #[true, true, true, true, true, true, true, true, true, true, false, false, false, false, false]) (v := .int .i64 (IntKind.i64.wrap ((IntKind.i64.wrap (Int.tmod (IntKind.u64.wrap p1) (IntKind.u64.wrap (IntKind.i64.wrap ((IntKind.i64.wrap (8 * (x22.len : Int))) - 31))))) + s25))) 9 rfl rfl (by kernel_rfl) (by kernel_rfl) rfl trivial rfl hx36 (fun w_ hS_ K_ h_ => OpW.bin (k := .i64) (a := (IntKind.i64.wrap (Int.tmod (IntKind.u64.wrap p1) (IntKind.u64.wrap (IntKind.i64.wrap ((IntKind.i64.wrap (8 * (x22.len : Int))) - 31)))))) (b := s25) (v := .int .i64 (IntKind.i64.wrap ((IntKind.i64.wrap (Int.tmod (IntKind.u64.wrap p1) (IntKind.u64.wrap (IntKind.i64.wrap ((IntKind.i64.wrap (8 * (x22.len : Int))) - 31))))) + s25))) rfl rfl rfl h_) ?_
                refine DL.takeK (listed' := #[true, true, true, true, true, true, true, true, true, true, true, false, false, false, false]) (v := .int .i64 (Int.tmod (IntKind.i64.wrap ((IntKind.i64.wrap (Int.tmod (IntKind.u64.wrap p1) (IntKind.u64.wrap (IntKind.i64.wrap ((IntKind.i64.wrap (8 * (x22.len : Int))) - 31))))) + s25)) 8)) 10 rfl rfl (by kernel_rfl) (by kernel_rfl) rfl trivial rfl hx36 (fun w_ hS_ K_ h_ => OpW.quo (a := (IntKind.i64.wrap ((IntKind.i64.wrap (Int.tmod (IntKind.u64.wrap p1) (IntKind.u64.wrap (IntKind.i64.wrap ((IntKind.i64.wrap (8 * (x22.len : Int))) - 31))))) + s25))) (b := 8) (v := .int .i64 (Int.tmod (IntKind.i64.wrap ((IntKind.i64.wrap (Int.tmod (IntKind.u64.wrap p1) (IntKind.u64.wrap (IntKind.i64.wrap ((IntKind.i64.wrap (8 * (x22.len : Int))) - 31))))) + s25)) 8)) rfl rfl (by decide) rfl h_) ?_
                obtain ⟨hq_, h⟩ := h
                refine DL.takeK (listed' := #[true, true, true, true, true, true, true, true, true, true, true, true, false, false, false]) (v := .int .u8 (shlI .u8 1 (Int.tmod (IntKind.i64.wrap ((IntKind.i64.wrap (Int.tmod (IntKind.u64.wrap p1) (IntKind.u64.wrap (IntKind.i64.wrap ((IntKind.i64.wrap (8 * (x22.len : Int))) - 31))))) + s25)) 8))) 11 rfl rfl (by kernel_rfl) (by kernel_rfl) rfl trivial rfl hx36 (fun w_ hS_ K_ h_ => OpW.shift (a := 1) (b := (Int.tmod (IntKind.i64.wrap ((IntKind.i64.wrap (Int.tmod (IntKind.u64.wrap p1) (IntKind.u64.wrap (IntKind.i64.wrap ((IntKind.i64.wrap (8 * (x22.len : Int))) - 31))))) + s25)) 8)) (v := .int .u8 (shlI .u8 1 (Int.tmod (IntKind.i64.wrap ((IntKind.i64.wrap (Int.tmod (IntKind.u64.wrap p1) (IntKind.u64.wrap (IntKind.i64.wrap ((IntKind.i64.wrap (8 * (x22.len : Int))) - 31))))) + s25)) 8))) rfl rfl hq_ rfl h_) ?_
                refine DL.takeK (listed' := #[true, true, true, true, true, true, true, true, true, true, true, true, true, false, false]) (v := .int .u8 (xorI .u8 x39 (shlI .u8 1 (Int.tmod (IntKind.i64.wrap ((IntKind.i64.wrap (Int.tmod (IntKind.u64.wrap p1) (IntKind.u64.wrap (IntKind.i64.wrap ((IntKind.i64.wrap (8 * (x22.len : Int))) - 31))))) + s25)) 8)))) 12 rfl rfl (by kernel_rfl) (by kernel_rfl) rfl trivial rfl hx36 (fun w_ hS_ K_ h_ => OpW.bin (k := .u8) (a := x39) (b := (shlI .u8 1 (Int.tmod (IntKind.i64.wrap ((IntKind.i64.wrap (Int.tmod (IntKind.u64.wrap p1) (IntKind.u64.wrap (IntKind.i64.wrap ((IntKind.i64.wrap (8 * (x22.len : Int))) - 31))))) + s25)) 8))) (v := .int .u8 (xorI .u8 x39 (shlI .u8 1 (Int.tmod (IntKind.i64.wrap ((IntKind.i64.wrap (Int.tmod (IntKind.u64.wrap p1) (IntKind.u64.wrap (IntKind.i64.wrap ((IntKind.i64.wrap (8 * (x22.len : Int))) - 31))))) + s25)) 8)))) rfl rfl rfl h_) ?_
                obtain ⟨a40_, a40, h1, h2, h3, h4, h⟩ := h
                refine DL.takeK (listed' := #[true, true, true, true, true, true, true, true, true, true, true, true, true, true, false]) (v := .pointer (some a40)) 13 rfl rfl (by kernel_rfl) (by kernel_rfl) rfl trivial rfl hx36 (fun w_ hS_ K_ h_ => OpW.indexE (a' := a40) slice_25 rfl rfl h1 h2 h3 h4 h_) ?_
                obtain ⟨u_, h1, h2, h⟩ := h
                obtain ⟨w42, hw42_⟩ : ∃ w_, w_ = w35.setCell a40 (.int .u8 (xorI .u8 x39 (shlI .u8 1 (Int.tmod (IntKind.i64.wrap ((IntKind.i64.wrap (Int.tmod (IntKind.u64.wrap p1) (IntKind.u64.wrap (IntKind.i64.wrap ((IntKind.i64.wrap (8 * (x22.len : Int))) - 31))))) + s25)) 8)))) := ⟨_, rfl⟩
                have h := h w42 hw42_
                refine DL.execN (listed' := #[true, true, true, true, true, true, true, true, true, true, true, true, true, true, true]) 14 rfl (by kernel_rfl) rfl trivial (OpW.store1E (v := .int .u8 (xorI .u8 x39 (shlI .u8 1 (Int.tmod (IntKind.i64.wrap ((IntKind.i64.wrap (Int.tmod (IntKind.u64.wrap p1) (IntKind.u64.wrap (IntKind.i64.wrap ((IntKind.i64.wrap (8 * (x22.len : Int))) - 31))))) + s25)) 8)))) size_5 rfl rfl rfl h1 h2 hw42_ ?_)
                refine ⟨(fun h_ => absurd h_ (by decide)), ?_⟩
                refine DL.done (by kernel_rfl) ?_
                exact ⟨(), ⟨e29, e30, e31, e28⟩, h⟩
              · have h := hc hb34; clear ha hc
                refine CW.skip ?_
                exact ⟨(), ⟨e29, e30, e31, e28⟩, h⟩
          · have h := hc hb32; clear ha hc
            refine CW.exit ?_
            refine CW.seq ?_
            refine CW.region ?_
            refine RL.opS trivial rfl (OpW.move (v := Sl.v x22) e30 ?_)
            refine RL.opS trivial rfl (OpW.callR (al := [Sl.v x22]) Try.func14 fb_14 fn_14 rfl h (fun x51 w52 h => ?_))
            refine RL.opS trivial rfl (OpW.move (v := .tuple #[Sl.v x51.1, .int .i64 x51.2]) rfl ?_)
            refine RL.opS trivial rfl (OpW.extract (v := Sl.v x51.1) rfl rfl ?_)
            refine RL.opS trivial rfl (OpW.extract (v := .int .i64 x51.2) rfl rfl ?_)
            refine RL.opS trivial rfl (OpW.assign (v := Sl.v x51.1) rfl ?_)
            refine RL.opS trivial rfl (OpW.assign (v := .int .i64 x51.2) rfl ?_)
            refine RL.nil ?_
            refine CW.seq ?_
            refine CW.region ?_
            refine RL.opS trivial rfl (OpW.move (v := .int .i64 x51.2) rfl ?_)
            refine RL.opS trivial rfl (OpW.bin (k := .i64) (a := x51.2) (b := 20) (v := .bool (decide (x51.2 = 20))) rfl rfl rfl ?_)
            refine RL.opS trivial rfl (OpW.move (v := .bool (decide (x51.2 = 20))) rfl ?_)
            refine jn_elim h ?_; clear h; intro k58 hk59 h
            refine RL.joinAt (A := Bool) 4 (fun s55 ρ => ρ 75 = .bool s55) k58 ?_ ?_
            · rintro s55 ρ w56 e57 h
              subst hk59
              dsimp only [List.drop]
              refine RL.opS trivial rfl (OpW.assign (v := .bool s55) e57 ?_)
              refine RL.nil ?_
              refine CW.ret ?_
              exact ret_intro (res1 rfl rfl) ⟨s55, rfl, h⟩
            · clear hk59
              dsimp only [List.take]
              obtain ⟨ha, hc⟩ := h
              rcases Bool.eq_false_or_eq_true (decide (x51.2 = 20)) with hb53 | hb53
              · have h := ha hb53; clear ha hc
                refine RL.opS (wanted_of rfl rfl hb53) rfl (OpW.move (v := Sl.v x51.1) rfl ?_)
                refine RL.opS (wanted_of rfl rfl hb53) rfl (OpW.len (s := x51.1) slice_25 rfl ?_)
                refine RL.opS (wanted_of rfl rfl hb53) rfl (OpW.bin (k := .i64) (a := (x51.1.len : Int)) (b := 0) (v := .bool (decide ((x51.1.len : Int) = 0))) rfl rfl rfl ?_)
                refine RL.opS trivial rfl (OpW.pick (b := true) (v := .bool (decide ((x51.1.len : Int) = 0))) (congrArg Value.bool hb53) rfl ?_)
                refine RL.nil ?_
                exact ⟨(decide ((x51.1.len : Int) = 0)), rfl, h⟩
              · have h := hc hb53; clear ha hc
                refine RL.skipS (notWanted_of rfl rfl hb53) rfl ?_
                refine RL.skipS (notWanted_of rfl rfl hb53) rfl ?_
                refine RL.skipS (notWanted_of rfl rfl hb53) rfl ?_
                refine RL.opS trivial rfl (OpW.pick (b := false) (v := .bool false) (congrArg Value.bool hb53) rfl ?_)
                refine RL.nil ?_
                exact ⟨false, rfl, h⟩
    · clear hk63
      dsimp only [List.take]
      obtain ⟨ha, hc⟩ := h
      rcases Bool.eq_false_or_eq_true s5 with hb11 | hb11
      · have h := ha hb11; clear ha hc
        refine RL.skipS (notWanted_of rfl rfl hb11) rfl ?_
        refine RL.skipS (notWanted_of rfl rfl hb11) rfl ?_
        refine RL.opS trivial rfl (OpW.pick (b := true) (v := .bool true) (congrArg Value.bool hb11) rfl ?_)
        refine RL.nil ?_
        exact ⟨true, ⟨rfl, e8, e9, e10⟩, h⟩
      · have h := hc hb11; clear ha hc
        refine RL.opS (wanted_of rfl rfl hb11) rfl (OpW.move (v := .int .u32 p2) e10 ?_)
        refine RL.opS (wanted_of rfl rfl hb11) rfl (OpW.bin (k := .u32) (a := p2) (b := 0) (v := .bool (decide (p2 = 0))) rfl rfl rfl ?_)
        refine RL.opS trivial rfl (OpW.pick (b := false) (v := .bool (decide (p2 = 0))) (congrArg Value.bool hb11) rfl ?_)
        refine RL.nil ?_
        exact ⟨(decide (p2 = 0)), ⟨rfl, e8, e9, e10⟩, h⟩
  · clear hk65
    dsimp only [List.take]
    obtain ⟨ha, hc⟩ := h
    rcases Bool.eq_false_or_eq_true (!x1) with hb3 | hb3
    · have h := ha hb3; clear ha hc
      refine RL.skipS (notWanted_of rfl rfl hb3) rfl ?_
      refine RL.skipS (notWanted_of rfl rfl hb3) rfl ?_
      refine RL.skipS (notWanted_of rfl rfl hb3) rfl ?_
      refine RL.opS trivial rfl (OpW.pick (b := true) (v := .bool true) (congrArg Value.bool hb3) rfl ?_)
      refine RL.nil ?_
      exact ⟨true, ⟨rfl, rfl, rfl, rfl⟩, h⟩
    · have h := hc hb3; clear ha hc
      refine RL.opS (wanted_of rfl rfl hb3) rfl (OpW.move (v := Sl.v p0) rfl ?_)
      refine RL.opS (wanted_of rfl rfl hb3) rfl (OpW.len (s := p0) slice_25 rfl ?_)
      refine RL.opS (wanted_of rfl rfl hb3) rfl (OpW.bin (k := .i64) (a := (p0.len : Int)) (b := 1000) (v := .bool (decide (1000 < (p0.len : Int)))) rfl rfl rfl ?_)
      refine RL.opS trivial rfl (OpW.pick (b := false) (v := .bool (decide (1000 < (p0.len : Int)))) (congrArg Value.bool hb3) rfl ?_)
      refine RL.nil ?_
      exact ⟨(decide (1000 < (p0.len : Int))), ⟨rfl, rfl, rfl, rfl⟩, h⟩
end Go.Proofs.Ytmlbmnaknjdmgaa
