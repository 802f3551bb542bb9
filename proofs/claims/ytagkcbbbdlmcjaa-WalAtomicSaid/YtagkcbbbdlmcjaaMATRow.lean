/-
  Wherever the power fails in an Add, and whatever stays, the records found are those ahead of it, with all of its own behind them or none; and with all, if it was told as done: the law answers true for all records and every fall, and leaves all that was there as it was. No conditions.
-/
import Derived.Test.YtagkcbbbdlmcjaaMAT4
namespace Go.Proofs.Ytagkcbbbdlmcjaa.walAtomic
open Go.ChangeShapes Go.WideShapes Go.ChangeAt Go.RowKit
set_option linter.unusedVariables false
theorem own : ownKnob Try.prog.godebug = none := by kernel_rfl
theorem laidOut : laidOutB Try.prog = true := by kernel_rfl
set_option maxRecDepth 100000 in
theorem lifted (os : Os) (started : os.Started) (H : Type) (enc : TypeId × Value → H) :
    ReturnsInHanded {} Try.checked os 11 .any (Rows.walAtomicSpec.pre6 enc Try.prog Try.f11 Rows.walAtomicRow.domain false) (Rows.walAtomicSpec.post enc Try.prog Try.f11 false true false false) := by
  refine returnsInHanded_of_change_sized (C := Try.checked) own started (by kernel_rfl) Try.func11
    (ChangeSpec.witness6 (enc := enc) (C := Try.checked) false ⟨#[], #[.slice none 0 0, .slice none 0 0, .agg #[.int .i64 0, .int .u64 0, .int .i64 0]], []⟩ 8 (by kernel_rfl) (by kernel_rfl) (by kernel_rfl) (by kernel_rfl)) ?_
  intro W base args ds gs before hval0 hW hcnd hsz0 _
  have hval : ∀ (j : Nat) t v, Try.f11.params[j]? = some t → args[j]? = some v → Value.okWide Try.prog W .any base t v := hval0
  have hW' := hW
  obtain ⟨p, q, hA0, hV, rfl, hfz, hnd⟩ := hW
  have hA : DataW.TrodAll enc Try.prog W 0 (fun _ => true) true Try.f11.params.toList args.toList ds p := hA0
  rw [Try.params11] at hA hval
  obtain ⟨v0, vs0, d0, ds0, p0, q0, hargs, rfl, rfl, h0, r0⟩ := trodAll_cons hA
  obtain ⟨v1, vs1, d1, ds1, p1, q1, rfl, rfl, rfl, h1, r1⟩ := trodAll_cons r0
  obtain ⟨v2, vs2, d2, ds2, p2, q2, rfl, rfl, rfl, h2, r2⟩ := trodAll_cons r1
  obtain ⟨rfl, rfl, rfl⟩ := trodAll_nil r2
  obtain rfl : args = #[v0, v1, v2] := by cases args; simp_all
  obtain ⟨rfl, rfl⟩ := trodVars_none hV
  have k0 := h0
  have lt0 : ∀ x ∈ p0, x.block < W.heap.size := by obtain ⟨m, hm⟩ := k0; exact DataW.trod_lt m _ _ _ hm
  have k1 := h1
  have lt1 : ∀ x ∈ p1, x.block < W.heap.size := by obtain ⟨m, hm⟩ := k1; exact DataW.trod_lt m _ _ _ hm
  have k2 := h2
  have lt2 : ∀ x ∈ p2, x.block < W.heap.size := by obtain ⟨m, hm⟩ := k2; exact DataW.trod_lt m _ _ _ hm
  obtain ⟨a0, len0, cap0, rfl⟩ := okWide_slice Try.underlying22 (hval 0 22 v0 rfl rfl)
  obtain ⟨fuel0, hf0⟩ := h0
  obtain ⟨s0, hs0, hlc0, hcm0, l0, hl0, hb0⟩ := Go.Lift.open_parts Try.underlying22 Try.underlying39 Try.underlying5 (by kernel_rfl) (by kernel_rfl) hf0
  have hv0 := Go.Lift.sl_cells hs0
  rw [hv0] at k0 hW' ⊢
  obtain ⟨a1, len1, cap1, rfl⟩ := okWide_slice Try.underlying22 (hval 1 22 v1 rfl rfl)
  obtain ⟨fuel1, hf1⟩ := h1
  obtain ⟨s1, hs1, hlc1, hcm1, l1, hl1, hb1⟩ := Go.Lift.open_parts Try.underlying22 Try.underlying39 Try.underlying5 (by kernel_rfl) (by kernel_rfl) hf1
  have hv1 := Go.Lift.sl_cells hs1
  rw [hv1] at k1 hW' ⊢
  obtain ⟨x2, rfl, hx2⟩ := Go.Proofs.Ytagkcbbbdlmcjaa.open_27 (hval 2 27 v2 rfl rfl) h2
  clear hA0 hval0 hsz0
  refine (walAtomic_ok W s0 l0 hl0 hlc0 hcm0 hb0 s1 l1 hl1 hlc1 hcm1 hb1 x2 hx2).mono fun e W' he => ?_
  obtain ⟨x, rfl, rfl, bel⟩ := he
  exact ⟨_, rfl, _, _, _, [], _, [], hW', trodAll_mk1 (shut_bool Try.underlying4 _), (trodAll_cons_mk (Below.trod laidOut (by kernel_rfl) (of_decide_eq_true (by kernel_rfl)) k0 bel lt0) (trodAll_cons_mk (Below.trod laidOut (by kernel_rfl) (of_decide_eq_true (by kernel_rfl)) k1 bel lt1) (trodAll_cons_mk (Below.trod laidOut (by kernel_rfl) (of_decide_eq_true (by kernel_rfl)) k2 bel lt2) trodAll_mk0))), rfl, bel.frame _, fun h => by cases h⟩
theorem over : Rows.walAtomicRow.holds Try.pinned (OpenSpec.ofChange Rows.walAtomicSpec) :=
  OpenClaim.holds_of_wide 11 Try.f11 rfl rfl rfl rfl rfl rfl rfl ⟨rfl, rfl, rfl, rfl, rfl⟩ rfl rfl rfl rfl rfl (by kernel_rfl) Try.func11 (by kernel_rfl)
    (of_decide_eq_true (by kernel_rfl)) (by unfold Func.isWrapper; first | (rw [if_pos (by decide +kernel)]; kernel_rfl) | (rw [if_neg (by decide +kernel)]; exact ⟨rfl, rfl⟩))
    (fun os started H enc _ => lifted os started H enc)
theorem proved : Rows.WalAtomicSaid := over
#print axioms proved
end Go.Proofs.Ytagkcbbbdlmcjaa.walAtomic
namespace Go.Proofs.Ytagkcbbbdlmcjaa
theorem walAtomic_holds : Rows.WalAtomicSaid := walAtomic.proved
end Go.Proofs.Ytagkcbbbdlmcjaa
