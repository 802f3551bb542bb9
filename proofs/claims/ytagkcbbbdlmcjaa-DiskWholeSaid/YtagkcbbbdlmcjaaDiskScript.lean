/- Scripts: which fit; and what a disk has behind writes, a flush and a loss of power. -/
import Derived.Test.YtagkcbbbdlmcjaaDiskOpen
import Derived.Test.YtagkcbbbdlmcjaaDiskLives
import Derived.Test.YtagkcbbbdlmcjaaS31
set_option linter.unusedVariables false
set_option linter.unusedSimpArgs false
namespace Go.Proofs.Ytagkcbbbdlmcjaa
open Go.Lift Go.Lift.Disk Go.RowKit
def Fits (n : Int) (l : List OpA) : Prop := 1 ≤ n ∧ n ≤ 12 ∧ l.length ≤ 60 ∧ ∀ o ∈ l, o.s.length ≤ 600 ∧ o.falls.length ≤ 20
theorem opCells_one (o : OpA) : ∀ v ∈ o.cells, v.oneCell' = true := by
  intro v hv
  simp only [OpA.cells, List.mem_cons, List.not_mem_nil, or_false] at hv
  rcases hv with rfl | rfl | rfl | rfl | rfl | rfl | rfl | rfl | rfl <;> rfl
theorem fits_ok (w : World) (n : Int) (p : Sl) (l : List OpA) (h : OpsAt w p l) (hm : p.len ≤ maxLen) : Calls Try.prog 31 #[.int .i64 n, p.v] w (Ret r31 fun x w' => (x = true → Fits n l) ∧ Ext w w') := by
  apply s31_calls
  have hpl := h.len
  simp only [maxLen] at hm
  refine jn_of fun k1 hk1 => ?_
  have key1 : ∀ b : Bool, (b = false → 1 ≤ n ∧ n ≤ 12) → k1 b w := by
    intro b hb
    rw [hk1]
    refine jn_of fun k2 hk2 => ?_
    have key2 : ∀ b2 : Bool, (b2 = false → 1 ≤ n ∧ n ≤ 12 ∧ l.length ≤ 60) → k2 b2 w := by
      intro b2 hb2
      rw [hk2]
      refine ⟨fun _ => ⟨fun h => absurd h (by decide), Ext.refl _⟩, fun hf => ?_⟩
      obtain ⟨h1, h2, h3⟩ := hb2 hf
      refine ⟨fun st w' => ∃ k : Nat, k ≤ l.length ∧ st = (k : Int) ∧ Ext w w' ∧ ∀ o ∈ l.take k, o.s.length ≤ 600 ∧ o.falls.length ≤ 20, fun st _ => l.length - st.toNat, ⟨0, Nat.zero_le _, rfl, Ext.refl _, by simp⟩, ?_⟩
      rintro st w15 ⟨k, hk, rfl, hx, hall⟩
      refine ⟨fun hlt => ?_, fun hge => ?_⟩
      · have hkl : k < l.length := by have := of_decide_eq_true hlt; omega
        obtain ⟨a, ha, hat⟩ := (h.ext hx).get hkl
        refine ⟨a, _, ha, by omega, by omega, rfl, ?_⟩
        rw [Int.toNat_natCast]
        refine ⟨_, rfl, hat, rfl, opCells_one _, fun b24 w25 hb24 hw25 => ?_⟩
        have hx25 : Ext w15 w25 := Ext.new hw25
        have hB : Blk w25 b24 65 l[k].cells := Blk.new hb24 hw25
        refine ⟨l[k].s, by rw [add_plain]; exact hB.cell rfl, ?_⟩
        refine jn_of fun k3 hk3 => ?_
        have key3 : ∀ b3 : Bool, (b3 = false → l[k].s.length ≤ 600 ∧ l[k].falls.length ≤ 20) → k3 b3 w25 := by
          intro b3 hb3
          rw [hk3]
          refine ⟨fun _ => ⟨fun h => absurd h (by decide), hx.trans hx25⟩, fun hf => ?_⟩
          obtain ⟨h5, h6⟩ := hb3 hf
          rw [w64_eq (by omega) (by omega)]
          refine ⟨⟨k + 1, by omega, by omega, hx.trans hx25, ?_⟩, by simp only; omega⟩
          intro o ho
          rw [List.take_succ_eq_append_getElem hkl, List.mem_append] at ho
          rcases ho with ho | ho
          · exact hall o ho
          · rw [List.mem_singleton.1 ho]; exact ⟨h5, h6⟩
        have hfl := (h.ok _ (List.getElem_mem hkl)).falls.len
        refine ⟨fun _ => key3 true fun h => absurd h (by decide), fun hs => ?_⟩
        have hs := of_decide_eq_false hs
        refine ⟨l[k].fs, by rw [add_plain]; exact hB.cell rfl, key3 _ fun h => ?_⟩
        have := of_decide_eq_false h
        omega
      · have hge : k = l.length := by have := of_decide_eq_false hge; omega
        subst hge
        rw [List.take_length] at hall
        exact ⟨fun _ => ⟨h1, h2, h3, hall⟩, hx⟩
    refine ⟨fun h => key2 true fun h => absurd h (by decide), fun h => key2 _ fun h6 => ?_⟩
    have := of_decide_eq_false h6
    obtain ⟨h1, h2⟩ := hb h
    exact ⟨h1, h2, by omega⟩
  refine ⟨fun h => key1 true fun h => absurd h (by decide), fun h => key1 _ fun h2 => ?_⟩
  have := of_decide_eq_false h
  have := of_decide_eq_false h2
  omega

/-! ### the plain law -/
def lastOf (ps : List (Nat × List UInt8)) (i : Nat) (d : List UInt8) : List UInt8 := ps.foldl (fun acc p => if p.1 = i then p.2 else acc) d
theorem lastOf_append (ps : List (Nat × List UInt8)) (p : Nat × List UInt8) (i : Nat) (d : List UInt8) : lastOf (ps ++ [p]) i d = if p.1 = i then p.2 else lastOf ps i d := by simp [lastOf, List.foldl_append]
theorem lastOf_none : ∀ (ps : List (Nat × List UInt8)) (i : Nat) (d : List UInt8), (∀ p ∈ ps, p.1 ≠ i) → lastOf ps i d = d
  | [], _, _, _ => rfl
  | p :: ps, i, d, h => by
    have := lastOf_none ps i d fun q hq => h q (by simp [hq])
    unfold lastOf at this ⊢
    rw [List.foldl_cons, if_neg (h p (by simp))]
    exact this
theorem bAt_setSure {l : List Bl} {j : Nat} (b : List UInt8) {i : Nat} (hi : i < l.length) : bAt (setSure l j b) i = if j = i then ((bAt l i).1, b) else bAt l i := by
  unfold setSure
  rw [bAt_lt (by simpa using hi), List.getElem_set]
  by_cases h : j = i
  · subst h; simp
  · rw [if_neg h, if_neg h, bAt_lt hi]
theorem bAt_setNow {l : List Bl} {j : Nat} (b : List UInt8) {i : Nat} (hi : i < l.length) : bAt (setNow l j b) i = if j = i then (b, (bAt l i).2) else bAt l i := by
  unfold setNow
  rw [bAt_lt (by simpa using hi), List.getElem_set]
  by_cases h : j = i
  · subst h; simp
  · rw [if_neg h, if_neg h, bAt_lt hi]
theorem flushL_at : ∀ (ps : List (Nat × List UInt8)) (l : List Bl) (i : Nat), i < l.length → bAt (flushL l ps) i = ((bAt l i).1, lastOf ps i (bAt l i).2)
  | [], l, i, _ => rfl
  | p :: ps, l, i, hi => by
    have := flushL_at ps (setSure l p.1 p.2) i (by rw [setSure_len]; exact hi)
    unfold flushL lastOf at this ⊢
    rw [List.foldl_cons, List.foldl_cons, this, bAt_setSure _ hi]
    by_cases h : p.1 = i <;> simp [h]
theorem crashStep_at {f : Fall} {last : Int} {l : List Bl} {k : Nat} {p : Nat × List UInt8} {i : Nat} (hi : i < l.length) (h : p.1 ≠ i) : bAt (crashStep f last l k p) i = bAt l i := by
  unfold crashStep
  split
  · rw [bAt_setSure _ hi, if_neg h]
  · split
    · rw [bAt_setSure _ hi, if_neg h]
    · rfl
theorem crashL_at (f : Fall) (last : Int) : ∀ (ps : List (Nat × List UInt8)) (k : Nat) (l : List Bl) (i : Nat), i < l.length → (∀ p ∈ ps, p.1 ≠ i) → bAt (crashL f last k ps l) i = bAt l i
  | [], _, _, _, _, _ => rfl
  | p :: ps, k, l, i, hi, h => by
    rw [crashL, crashL_at f last ps (k + 1) _ i (by rw [crashStep_len]; exact hi) fun q hq => h q (by simp [hq]), crashStep_at hi (h p (by simp))]
theorem crashL_len' (f : Fall) (last : Int) : ∀ (ps : List (Nat × List UInt8)) (k : Nat) (l : List Bl), (crashL f last k ps l).length = l.length
  | [], _, _ => rfl
  | p :: ps, k, l => by rw [crashL, crashL_len' f last ps, crashStep_len]
theorem flushL_len' : ∀ (ps : List (Nat × List UInt8)) (l : List Bl), (flushL l ps).length = l.length
  | [], _ => rfl
  | p :: ps, l => by
    have := flushL_len' ps (setSure l p.1 p.2)
    unfold flushL at this ⊢
    rw [List.foldl_cons, this, setSure_len]
theorem crash_up {D : Dk} (hd : D.down = false) (f : Fall) : D.crash f = { D with bl := (crashL f ((D.pend.length : Int) - 1) 0 D.pend D.bl).map fun p => (p.2, p.2), pend := [], down := true } := by
  unfold Dk.crash
  rw [if_neg (by rw [hd]; simp)]
theorem bAt_map {l : List Bl} {g : Bl → Bl} {i : Nat} (hi : i < l.length) : bAt (l.map g) i = g (bAt l i) := by
  rw [bAt_lt (by simpa using hi), bAt_lt hi]; simp
/-- a disk that is up, of which no fall is planned, and whose blocks are what was written last -/
structure Run (n m k : Nat) (D : Dk) : Prop where
  down : D.down = false
  falls : D.falls = []
  len : D.bl.length = n
  pend : D.pend.length ≤ m
  ch : D.changes ≤ k
  now : ∀ i, i < n → (bAt D.bl i).1 = lastOf D.pend i (bAt D.bl i).2
theorem strike_bare {D : Dk} (h : D.falls = []) : D.strike = (Dk.tick D, 0) := strike_none (by rw [h]; rfl)
theorem run_write {n m k : Nat} {D : Dk} (h : Run n m k D) {i : Nat} (hi : i < n) {b : List UInt8} (hb : b.length = 512) : D.write (i : Int) b = (Dk.tick (D.put i b), 0) ∧ Run n (m + 1) (k + 1) (Dk.tick (D.put i b)) := by
  have hw : D.why (i : Int) = 0 := by
    unfold Dk.why
    rw [if_neg (by rw [h.down]; simp), if_neg (by rw [h.len]; omega)]
  refine ⟨?_, ⟨h.down, h.falls, by show (setNow _ _ _).length = n; rw [setNow_len]; exact h.len, ?_, by show D.changes + 1 ≤ k + 1; have := h.ch; omega, ?_⟩⟩
  · unfold Dk.write
    rw [if_neg (by rw [hw]; simp), if_neg (by rw [hb]; simp), Int.toNat_natCast]
    exact strike_bare (D := D.put i b) h.falls
  · show (D.pend ++ [(i, b)]).length ≤ m + 1
    rw [List.length_append]
    have := h.pend
    simp only [List.length_cons, List.length_nil]
    omega
  · intro j hj
    show (bAt (setNow D.bl i b) j).1 = lastOf (D.pend ++ [(i, b)]) j (bAt (setNow D.bl i b) j).2
    rw [bAt_setNow _ (by rw [h.len]; exact hj), lastOf_append]
    by_cases he : i = j
    · simp [he]
    · simp only [he, if_false]
      exact h.now j hj
def Dk.flushed (D : Dk) : Dk := { Dk.tick D with bl := flushL D.bl D.pend, pend := [] }
theorem run_flush {n m k : Nat} {D : Dk} (h : Run n m k D) : D.flush = (Dk.flushed D, 0) ∧ Run n 0 (k + 1) (Dk.flushed D) ∧ ∀ i, i < n → bAt (Dk.flushed D).bl i = ((bAt D.bl i).1, (bAt D.bl i).1) := by
  have hat : ∀ i, i < n → bAt (Dk.flushed D).bl i = ((bAt D.bl i).1, (bAt D.bl i).1) := by
    intro i hi
    show bAt (flushL D.bl D.pend) i = _
    rw [flushL_at _ _ _ (by rw [h.len]; exact hi), ← h.now i hi]
  refine ⟨?_, ⟨h.down, h.falls, by show (flushL _ _).length = n; rw [flushL_len']; exact h.len, Nat.le_refl _, by show D.changes + 1 ≤ k + 1; have := h.ch; omega, ?_⟩, hat⟩
  · unfold Dk.flush
    rw [if_neg (by rw [h.down]; simp), strike_bare h.falls, if_neg (by simp)]
    rfl
  · intro i hi
    rw [hat i hi]
    rfl
theorem run_fresh (n : Nat) : Run n 0 0 (fresh n) := by
  refine ⟨rfl, rfl, by simp [fresh], by simp [fresh], by simp [fresh], fun i hi => ?_⟩
  have : bAt (fresh n).bl i = (zero512, zero512) := by
    rw [bAt_lt (by simp [fresh]; exact hi)]
    simp [fresh]
  rw [this]; rfl
end Go.Proofs.Ytagkcbbbdlmcjaa
