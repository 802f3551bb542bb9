/- From a row's reading of its arguments to the facts that the contracts ask. -/
import Derived.Test.YtagkcbbbdlmcjaaRows
import Derived.Test.YtagkcbbbdlmcjaaLiftUse
import Derived.WalkKit
import Derived.ProofKit
import Derived.OpenShut
import Derived.ShutString
import Derived.ChangeOld
import Derived.Below
import Derived.Deep.Slices
import Derived.SizedLaws
set_option linter.unusedVariables false
set_option linter.unusedSimpArgs false
namespace Go.Lift
open Go.ChangeShapes Go.WideShapes Go.ChangeAt Go.RowKit Go.Deep

section
variable {H : Type} {enc : TypeId × Value → H} {P : Program} {w : World} {base : Nat} {held : Bool}
theorem sl_cells {s : Sl} {a : Option Addr} {l c : Nat} (h : (Value.slice a l c).cells.toList = [s.v]) : (Value.slice a l c) = s.v := by
  simpa [Value.cells] using h
/-- bytes -/
theorem open_u8s {t e : TypeId} {fuel : Nat} {cs : List Value} {x : DataW H × List MemPlace} (ht : P.underlying t = some (.slice e)) (he : P.underlying e = some (.int .u8)) (hc : P.cellsOf e = 1)
    (h : DataW.trod enc P w base (fun _ => true) held fuel t cs = some x) : ∃ s : Sl, cs = [s.v] ∧ s.len ≤ s.cap ∧ s.cap ≤ maxLen ∧ ∃ bs, Bytes w s bs := by
  rcases open_ints ht he hc h with ⟨hcs, _⟩ | ⟨a, len, cap, zs, hcs, _, hl, hm, hz, _, hcell, hwz⟩
  · exact ⟨nilSl, hcs, Nat.le_refl _, Nat.zero_le _, [], rfl, rfl⟩
  · have hz' : zs.length = cap := by simpa using hz
    refine ⟨⟨some a, len, cap⟩, hcs, hl, hm, (zs.take len).map (fun z => UInt8.ofNat z.toNat), by simp; omega, ?_⟩
    intro j v hj
    simp only [u8s, List.map_map, List.getElem?_map] at hj
    rcases hjz : (zs.take len)[j]? with _ | z
    · rw [hjz] at hj; simp at hj
    · rw [hjz] at hj
      simp only [Option.map_some, Option.some.injEq, Function.comp] at hj
      have hjl : j < zs.length := by
        have := (List.getElem?_eq_some_iff.1 hjz).1
        simp at this; omega
      have hzj : zs[j]? = some z := by
        have hjt : j < len := by
          have := (List.getElem?_eq_some_iff.1 hjz).1
          simp at this; omega
        rw [List.getElem?_take_of_lt hjt] at hjz
        exact hjz
      have hmem : z ∈ zs := List.mem_of_getElem? hzj
      have hwf := hwz z hmem
      have hb : 0 ≤ z ∧ z ≤ 255 := by simpa [Lit.wf, IntKind.min, IntKind.max, IntKind.signed, IntKind.bits] using hwf
      have := hcell j hjl
      rw [this, ← hj]
      have : zs.getD j 0 = z := by simp [List.getD, hzj]
      rw [this]
      have h2 : (UInt8.ofNat z.toNat).toNat = z.toNat := by simp; omega
      rw [h2]
      congr 2
      omega
theorem choose_fn {α β : Type} [Inhabited β] {p : α → β → Prop} {q : α → Prop} (h : ∀ i, q i → ∃ b, p i b) : ∃ f : α → β, ∀ i, q i → p i (f i) := by
  classical
  refine ⟨fun i => if hq : ∃ b, p i b then Classical.choose hq else default, fun i hi => ?_⟩
  have := h i hi
  simp only [dif_pos this]
  exact Classical.choose_spec this
instance : Inhabited Sl := ⟨nilSl⟩
/-- slices of bytes -/
theorem open_parts {t e q : TypeId} {fuel : Nat} {cs : List Value} {x : DataW H × List MemPlace} (ht : P.underlying t = some (.slice e)) (he : P.underlying e = some (.slice q)) (hq : P.underlying q = some (.int .u8))
    (ce : P.cellsOf e = 1) (cq : P.cellsOf q = 1) (h : DataW.trod enc P w base (fun _ => true) held fuel t cs = some x) : ∃ s : Sl, cs = [s.v] ∧ s.len ≤ s.cap ∧ s.cap ≤ maxLen ∧ ∃ l, Parts w s l ∧ ∀ b ∈ l, b.length ≤ maxLen := by
  rcases open_slice1 ht ce h with ⟨hcs, _⟩ | ⟨a, len, cap, m, n, V, D, Pl, hcs, _, hl, hm, hmm, _, hx⟩
  · exact ⟨nilSl, hcs, Nat.le_refl _, Nat.zero_le _, [], ⟨[], rfl, rfl, rfl, fun k s b hs => by simp at hs⟩, by simp⟩
  · have hmc : m = cap := by simpa using hmm
    have hel : ∀ i, i < len → ∃ y : Sl × List UInt8, V i = y.1.v ∧ w.cell? (a.add i) = some (V i) ∧ Bytes w y.1 y.2 ∧ y.1.len ≤ maxLen := by
      intro i hi
      obtain ⟨h1, h2⟩ := hx i (by omega)
      obtain ⟨s, hs, h3, h4, bs, hb⟩ := open_u8s he hq cq h2
      exact ⟨(s, bs), by simpa using hs, h1, hb, Nat.le_trans h3 h4⟩
    obtain ⟨f, hf⟩ := choose_fn (p := fun i (y : Sl × List UInt8) => V i = y.1.v ∧ w.cell? (a.add i) = some (V i) ∧ Bytes w y.1 y.2 ∧ y.1.len ≤ maxLen) (q := fun i => i < len) hel
    refine ⟨⟨some a, len, cap⟩, hcs, hl, hm, (List.range len).map fun i => (f i).2, ⟨(List.range len).map fun i => (f i).1, by simp, by simp, ?_, ?_⟩, ?_⟩
    · intro j v hj
      simp only [List.map_map, List.getElem?_map] at hj
      by_cases hjl : j < len
      · simp only [List.getElem?_range hjl, Option.map_some, Function.comp, Option.some.injEq] at hj
        obtain ⟨h1, h2, _⟩ := hf j hjl
        rw [h2, h1, hj]
      · rw [List.getElem?_eq_none (by simpa using hjl)] at hj; simp at hj
    · intro k s b hs hb
      by_cases hjl : k < len
      · simp only [List.getElem?_map, List.getElem?_range hjl, Option.map_some, Option.some.injEq] at hs hb
        subst hs; subst hb
        exact (hf k hjl).2.2.1
      · rw [List.getElem?_eq_none (by simpa using hjl)] at hs; simp at hs
    · intro b hb
      simp only [List.mem_map, List.mem_range] at hb
      obtain ⟨i, hi, rfl⟩ := hb
      have := (hf i hi).2.2
      rw [this.1.1]
      exact this.2
end
end Go.Lift
