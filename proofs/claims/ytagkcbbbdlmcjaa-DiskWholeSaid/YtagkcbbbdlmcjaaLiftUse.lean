/- Words and laws for proofs over the typed readings: bytes behind a slice, rows that a call owns, what an append leaves. -/
import Derived.Test.YtagkcbbbdlmcjaaLiftDraw
import Derived.Laws.AppendOwn
import Derived.Laws.OwnMore
set_option linter.unusedVariables false
set_option linter.unusedSimpArgs false
namespace Go.Lift
open Go.RowKit
/-- The slice's bytes. -/
def Bytes (w : World) (s : Sl) (bs : List UInt8) : Prop := bs.length = s.len ∧ AtO w s.a (u8s bs)
/-- A row of the call's own. -/
def Own (w : World) (base : Nat) (e : TypeId) (size : Nat) (s : Sl) (xs : List Value) : Prop := w.ownsRow base e size s.v s.len xs
theorem Bytes.ext {w w' : World} {s : Sl} {bs : List UInt8} (h : Ext w w') (hb : Bytes w s bs) : Bytes w' s bs := ⟨hb.1, Ext.atO h hb.2⟩

theorem u8s_one (bs : List UInt8) : ∀ u ∈ u8s bs, u.oneCell' = true := by
  intro u hu
  simp only [u8s, List.mem_map] at hu
  obtain ⟨b, _, rfl⟩ := hu
  rfl
theorem u8s_append (a b : List UInt8) : u8s (a ++ b) = u8s a ++ u8s b := by simp [u8s]
theorem u8s_get {bs : List UInt8} {j : Nat} {b : UInt8} (h : bs[j]? = some b) : (u8s bs)[j]? = some (.int .u8 b.toNat) := by simp [u8s, h]
theorem u8s_take (bs : List UInt8) (n : Nat) : (u8s bs).take n = u8s (bs.take n) := by simp [u8s, List.map_take]
theorem u8s_drop (bs : List UInt8) (n : Nat) : (u8s bs).drop n = u8s (bs.drop n) := by simp [u8s, List.map_drop]
theorem u8s_inj {a b : List UInt8} (h : u8s a = u8s b) : a = b := by
  unfold u8s at h
  refine List.map_inj_right (f := fun b : UInt8 => Value.int .u8 (b.toNat : Int)) ?_ |>.1 h
  intro x y hxy
  simp only [Value.int.injEq, true_and] at hxy
  exact UInt8.toNat_inj.1 (by omega)

theorem add_plain (b o n : Nat) : Addr.add ⟨b, o, none⟩ n = ⟨b, o + n, none⟩ := by unfold Addr.add; split <;> simp_all
theorem add_add (a : Addr) (m n : Nat) : (a.add m).add n = a.add (m + n) := by
  unfold Addr.add
  by_cases h1 : m = 0 <;> by_cases h2 : n = 0 <;> simp [h1, h2]
  omega

theorem At.mk {w : World} {a : Addr} {cs : List Value} (h : ∀ j v, cs[j]? = some v → w.cell? (a.add j) = some v) : At w a cs := h
/-- the cells of a block -/
theorem At.block {w : World} {b o : Nat} {cs : List Value} {cur : Array Value} {e : TypeId} {fr : Nat × Nat} (hb : w.heap[b]? = some (.cells cur e fr)) (hc : (cur.toList.drop o).take cs.length = cs) : At w ⟨b, o, none⟩ cs := by
  intro j v hj
  rw [add_plain, cell_of_row w b (o + j) cur e fr hb]
  have hjl : j < cs.length := (List.getElem?_eq_some_iff.1 hj).1
  have : ((cur.toList.drop o).take cs.length)[j]? = some v := by rw [hc]; exact hj
  rw [List.getElem?_take_of_lt hjl, List.getElem?_drop] at this
  simpa using this
theorem At.new {w w' : World} {b : Nat} {cs : List Value} {e : TypeId} (hb : b = w.heap.size) (hw : w' = w.alloc (.cells cs.toArray e)) : At w' ⟨b, 0, none⟩ cs := by
  subst hb; subst hw
  exact At.block (heap_new _ _) (by simp)
theorem Ext.new {w w' : World} {o : Obj} (hw : w' = w.alloc o) : Ext w w' := by subst hw; exact Ext.alloc (Ext.refl _) _
theorem At.sub {w : World} {a : Addr} {cs : List Value} (h : At w a cs) (o n : Nat) : At w (a.add o) ((cs.drop o).take n) := by
  intro j v hj
  rw [add_add]
  refine h (o + j) v ?_
  have hjl : j < n := by
    rcases Nat.lt_or_ge j n with h' | h'
    · exact h'
    · rw [List.getElem?_take_eq_none h'] at hj; cases hj
  rw [List.getElem?_take_of_lt hjl, List.getElem?_drop] at hj
  exact hj
theorem At.app {w : World} {a : Addr} {cs ds : List Value} (h : At w a cs) (k : At w (a.add cs.length) ds) : At w a (cs ++ ds) := by
  intro j v hj
  rcases Nat.lt_or_ge j cs.length with h' | h'
  · rw [List.getElem?_append_left h'] at hj; exact h j v hj
  · rw [List.getElem?_append_right h'] at hj
    have := k (j - cs.length) v hj
    rwa [add_add, Nat.add_sub_cancel' h'] at this

theorem Own.at {w : World} {base : Nat} {e : TypeId} {size : Nat} {s : Sl} {xs : List Value} (h : Own w base e size s xs) : AtO w s.a xs := by
  obtain ⟨a, l, c⟩ := s
  have hh := h
  rcases h.2 with ⟨h1, h2⟩ | ⟨g, cap, cur, h1, _⟩
  · simp only [Value.slice.injEq] at h1
    obtain ⟨rfl, _, _⟩ := h1
    have := h.1
    simp only at h2
    rw [h2, Nat.zero_mul] at this
    exact List.eq_nil_of_length_eq_zero this
  · simp only [Value.slice.injEq] at h1
    obtain ⟨rfl, _, _⟩ := h1
    exact fun j u hj => World.ownsRow.cells hh rfl j u hj
theorem Own.length {w : World} {base : Nat} {e : TypeId} {size : Nat} {s : Sl} {xs : List Value} (h : Own w base e size s xs) : xs.length = s.len * size := h.1
theorem Own.bytes {w : World} {base : Nat} {e : TypeId} {s : Sl} {bs : List UInt8} (h : Own w base e 1 s (u8s bs)) : Bytes w s bs :=
  ⟨by have := h.length; rw [u8s_length] at this; omega, h.at⟩
theorem Own.cap {w : World} {base : Nat} {e : TypeId} {size : Nat} {s : Sl} {xs : List Value} (h : Own w base e size s xs) : s.len ≤ s.cap := by
  obtain ⟨a, l, c⟩ := s
  show l ≤ c
  rcases h.2 with ⟨h1, h2⟩ | ⟨g, cap, cur, h1, _, _, h4, _⟩
  · have h2 : l = 0 := h2; omega
  · simp only [Value.slice.injEq] at h1; have h4 : l ≤ cap := h4; omega
theorem Own.nil (w : World) (base : Nat) (e : TypeId) (size : Nat) : Own w base e size nilSl [] := World.ownsRow_nil w base e size
/-- A row that was just made, no longer than it is. -/
theorem Own.new {w w' : World} {base b : Nat} {e : TypeId} {size n : Nat} {cs : List Value} (hb : b = w.heap.size) (hw : w' = w.alloc (.cells cs.toArray e)) (hbase : base ≤ w.heap.size) (hl : cs.length = n * size) (hm : n ≤ maxLen) :
    Own w' base e size ⟨some ⟨b, 0, none⟩, n, n⟩ cs := by
  subst hb; subst hw
  exact ⟨hl, .inr ⟨w.heap.size, n, cs.toArray, rfl, hbase, heap_new _ _, Nat.le_refl _, hm, by simpa using hl, by simp [← hl]⟩⟩
theorem Own.made {w w' : World} {base b : Nat} {e : TypeId} {size c : Nat} {cs : List Value} (hb : b = w.heap.size) (hw : w' = w.alloc (.cells cs.toArray e)) (hbase : base ≤ w.heap.size) (hl : cs.length = c * size) (hm : c ≤ maxLen) :
    Own w' base e size ⟨some ⟨b, 0, none⟩, 0, c⟩ [] := by
  subst hb; subst hw
  exact ⟨by simp, .inr ⟨w.heap.size, c, cs.toArray, rfl, hbase, heap_new _ _, Nat.zero_le _, hm, by simpa using hl, by simp⟩⟩
theorem Own.ext {w w' : World} {base : Nat} {e : TypeId} {size : Nat} {s : Sl} {xs : List Value} (hx : Ext w w') (h : Own w base e size s xs) : Own w' base e size s xs := by
  refine ⟨h.1, ?_⟩
  rcases h.2 with h | ⟨g, cap, cur, h1, h2, h3, h4⟩
  · exact .inl h
  · exact .inr ⟨g, cap, cur, h1, h2, Ext.heap hx h3, h4⟩

/-- 'append' onto a row of the call's own. -/
theorem app_own {P : Program} {w : World} {base : Nat} {t e : TypeId} {i : TypeInfo} {z : Value} {size bytes : Nat} {s x : Sl} {xs news : List Value} {K : Sl → World → Prop}
    (ht : P.underlying t = some (.slice e)) (hi : P.info? e = some i) (hz : i.zero = some z) (hsize : i.size = size) (hby : i.bytes = bytes) (hzs : z.cells.size = size) (hsz : 0 < size)
    (hown : Own w base e size s xs) (hl : news.length = x.len * size) (hx : AtO w x.a news) (h1 : ∀ u ∈ news, u.oneCell' = true)
    (h63 : s.len + x.len ≤ maxLen) (hb : (s.len + x.len) * bytes ≤ 140737488355328) (hbase : base ≤ w.heap.size)
    (h : ∀ (s' : Sl) (w' : World), s'.len = s.len + x.len → Own w' base e size s' (xs ++ news) → w.grownBy w' s.v.ownBlock → (∀ B a, Below B a w → B ≤ base → B ≤ w.heap.size → Below B a w') → K s' w') : app P t s x w K := by
  have hB : ∀ w', w.grownBy w' s.v.ownBlock → ∀ B a, Below B a w → B ≤ base → B ≤ w.heap.size → Below B a w' := fun w' hg B a hba hB1 hB2 =>
    Below.grown hba hg hB2 fun k hk => Nat.le_trans hB1 (World.ownsRow.lt hown k hk).1
  obtain ⟨xa, xl, xc⟩ := x
  cases xa with
  | none =>
    have hn : news = [] := hx
    subst hn
    simp only [List.length_nil] at hl
    have hxl : xl = 0 := by
      rcases Nat.eq_zero_or_pos xl with h | h
      · exact h
      · have := Nat.mul_pos h hsz; omega
    subst hxl
    have hgr : w.grownBy w s.v.ownBlock := ⟨rfl, rfl, rfl, Nat.le_refl _, fun _ _ _ => rfl⟩
    refine ⟨s, w, ?_, h s w rfl (by simpa using hown) hgr (hB w hgr)⟩
    obtain ⟨sa, sl, sc⟩ := s
    have hle : sl ≤ sc := by
      rcases hown.2 with ⟨h1, h2⟩ | ⟨g, cap, cur, h1, _, _, h4, _⟩
      · simp only at h2; omega
      · simp only [Value.slice.injEq] at h1; simp only at h4; omega
    cases sa <;> simp [Builtin.append_, run_underlying ht, sizeOf, typeInfo, hi, Builtin.lenOf, Builtin.firstCells, hle, storeCells]
  | some a =>
    obtain ⟨v', w', hr, ho, hg, _⟩ := run_append_own (P := P) w base t t e i z size bytes ht hi hz hsize hby hzs hsz s.v s.len xs hown a xl xc news hl hx h1 h63 hb hbase
    -- the value is a slice
    have hv : ∃ s' : Sl, v' = s'.v ∧ s'.len = s.len + xl := by
      rcases ho.2 with ⟨h1, h2⟩ | ⟨g, cap, cur, h1, _⟩
      · exact ⟨nilSl, h1, h2.symm⟩
      · exact ⟨⟨some ⟨g, 0, none⟩, s.len + xl, cap⟩, h1, rfl⟩
    obtain ⟨s', rfl, hl'⟩ := hv
    refine ⟨s', w', hr, h s' w' hl' ?_ hg (hB w' hg)⟩
    unfold Own
    rw [hl']
    exact ho

theorem AtO.some_of {w : World} {a : Option Addr} {cs : List Value} {j : Nat} {v : Value} (h : AtO w a cs) (hj : cs[j]? = some v) : ∃ b, a = some b ∧ w.cell? (b.add j) = some v := by
  cases a with
  | none =>
    have : cs = [] := h
    subst this
    simp at hj
  | some b => exact ⟨b, rfl, h j v hj⟩
/-- A slice of slices of bytes. -/
def Parts (w : World) (p : Sl) (l : List (List UInt8)) : Prop :=
  ∃ ss : List Sl, ss.length = p.len ∧ ss.length = l.length ∧ AtO w p.a (ss.map Sl.v) ∧ ∀ (k : Nat) (s : Sl) (b : List UInt8), ss[k]? = some s → l[k]? = some b → Bytes w s b
theorem Parts.ext {w w' : World} {p : Sl} {l : List (List UInt8)} (h : Ext w w') (hp : Parts w p l) : Parts w' p l := by
  obtain ⟨ss, h1, h2, h3, h4⟩ := hp
  exact ⟨ss, h1, h2, Ext.atO h h3, fun k s b hs hb => (h4 k s b hs hb).ext h⟩
theorem Parts.len {w : World} {p : Sl} {l : List (List UInt8)} (hp : Parts w p l) : p.len = l.length := by
  obtain ⟨ss, h1, h2, _⟩ := hp
  omega
theorem Parts.get {w : World} {p : Sl} {l : List (List UInt8)} (hp : Parts w p l) {k : Nat} (hk : k < l.length) : ∃ a s, p.a = some a ∧ w.cell? (a.add k) = some s.v ∧ Bytes w s l[k] := by
  obtain ⟨ss, h1, h2, h3, h4⟩ := hp
  have hks : k < ss.length := by omega
  obtain ⟨a, ha, hc⟩ := h3.some_of (j := k) (v := ss[k].v) (by simp [hks])
  exact ⟨a, ss[k], ha, hc, h4 k _ _ (List.getElem?_eq_getElem hks) (List.getElem?_eq_getElem hk)⟩
theorem Bytes.get {w : World} {s : Sl} {bs : List UInt8} (h : Bytes w s bs) {k : Nat} (hk : k < bs.length) : ∃ a, s.a = some a ∧ w.cell? (a.add k) = some (.int .u8 bs[k].toNat) :=
  AtO.some_of h.2 (u8s_get (List.getElem?_eq_getElem hk))

theorem mkCells_eq {P : Program} {t e : TypeId} {size bytes : Nat} {zs : List Value} (h : mkCells P t = some (e, size, bytes, zs)) :
    P.underlying t = some (.slice e) ∧ ∃ i z, P.info? e = some i ∧ i.zero = some z ∧ i.size = size ∧ i.bytes = bytes ∧ z.cells.toList = zs := by
  unfold mkCells at h
  split at h
  · rename_i e' hu
    split at h
    · rename_i i hi
      split at h
      · rename_i z hz
        simp only [Option.some.injEq, Prod.mk.injEq] at h
        obtain ⟨rfl, h1, h2, h3⟩ := h
        exact ⟨hu, i, z, hi, hz, h1, h2, h3⟩
      · simp at h
    · simp at h
  · simp at h
/-- The same, from the one closed fact on the type. -/
theorem app_ok {P : Program} {w : World} {base : Nat} {t e : TypeId} {zs : List Value} {size bytes : Nat} {s x : Sl} {xs news : List Value} {K : Sl → World → Prop}
    (ht : mkCells P t = some (e, size, bytes, zs)) (hzs : zs.length = size) (hsz : 0 < size)
    (hown : Own w base e size s xs) (hl : news.length = x.len * size) (hx : AtO w x.a news) (h1 : ∀ u ∈ news, u.oneCell' = true)
    (h63 : s.len + x.len ≤ maxLen) (hb : (s.len + x.len) * bytes ≤ 140737488355328) (hbase : base ≤ w.heap.size)
    (h : ∀ (s' : Sl) (w' : World), s'.len = s.len + x.len → Own w' base e size s' (xs ++ news) → w.grownBy w' s.v.ownBlock → (∀ B a, Below B a w → B ≤ base → B ≤ w.heap.size → Below B a w') → K s' w') : app P t s x w K := by
  obtain ⟨hu, i, z, hi, hz, hs, hby, hc⟩ := mkCells_eq ht
  exact app_own hu hi hz hs hby (by rw [← hzs, ← hc]; simp) hsz hown hl hx h1 h63 hb hbase h

/-! ### cuts -/
theorem AtO.nil (w : World) (a : Option Addr) : AtO w a [] := by
  cases a with
  | none => rfl
  | some a => exact fun j v h => by simp at h
theorem AtO.cut {w : World} {s : Sl} {cs : List Value} (h : AtO w s.a cs) (n : Nat) {l e m : Nat} (h1 : l ≤ e) (h2 : e ≤ m) : AtO w (s.cut n l e m).a ((cs.take (e * n)).drop (l * n)) := by
  obtain ⟨a, len, cap⟩ := s
  cases a with
  | none =>
    have : cs = [] := h
    subst this
    simp only [List.take_nil, List.drop_nil]
    exact AtO.nil _ _
  | some a =>
    have h' : At w a cs := h
    unfold Sl.cut
    simp only [Int.toNat_natCast]
    split
    · rename_i hml
      have : e = l := by omega
      subst this
      rw [List.drop_eq_nil_of_le (by simp; omega)]
      exact AtO.nil _ _
    · show At w (a.add (l * n)) _
      have := h'.sub (l * n) (e * n - l * n)
      rwa [← List.drop_take] at this
theorem Bytes.cut {w : World} {s : Sl} {bs : List UInt8} (h : Bytes w s bs) {l e m : Nat} (h1 : l ≤ e) (h2 : e ≤ m) (h3 : e ≤ bs.length) : Bytes w (s.cut 1 l e m) ((bs.take e).drop l) := by
  refine ⟨?_, ?_⟩
  · simp [Sl.cut]; omega
  · have := h.2.cut 1 h1 h2
    rw [Nat.mul_one, Nat.mul_one, u8s_take, u8s_drop] at this
    exact this

/-! ### rows that are marked -/
theorem heap_freeze_ne (w : World) (a : Addr) (n k : Nat) (h : k ≠ a.block) : (w.freeze a n).heap[k]? = w.heap[k]? := by
  unfold World.freeze
  split
  · rfl
  · simp only [Array.getElem?_modify]
    rw [if_neg (by omega)]
theorem freeze_size (w : World) (a : Addr) (n : Nat) : (w.freeze a n).heap.size = w.heap.size := by
  unfold World.freeze
  split <;> simp
theorem cell_freeze (w : World) (a : Addr) (n : Nat) (b : Addr) : (w.freeze a n).cell? b = w.cell? b := by
  unfold World.freeze
  split
  · rfl
  · unfold World.cell?
    simp only [Array.getElem?_modify]
    by_cases h : a.block = b.block
    · rw [if_pos h]
      cases hb : w.heap[b.block]? with
      | none => rfl
      | some o => cases o <;> rfl
    · rw [if_neg h]
theorem Ext.freeze {w0 w : World} (h : Ext w0 w) {a : Addr} (n : Nat) (hb : w0.heap.size ≤ a.block) : Ext w0 (w.freeze a n) :=
  ⟨by unfold World.freeze; split <;> exact h.os, by unfold World.freeze; split <;> exact h.tape, by unfold World.freeze; split <;> exact h.output, by rw [freeze_size]; exact h.size,
    fun k hk => by rw [heap_freeze_ne _ _ _ _ (by omega)]; exact h.block k hk⟩
theorem At.freeze {w : World} {a : Addr} {cs : List Value} (h : At w a cs) (b : Addr) (n : Nat) : At (w.freeze b n) a cs := fun j v hj => by rw [cell_freeze]; exact h j v hj

/-! ### a place of an own row is written -/
theorem Own.place {w : World} {base : Nat} {e : TypeId} {size : Nat} {s : Sl} {xs : List Value} (h : Own w base e size s xs) {j : Nat} (hj : j < s.len * size) :
    ∃ g, s.a = some ⟨g, 0, none⟩ ∧ base ≤ g ∧ g < w.heap.size ∧ w.cell? ⟨g, j, none⟩ = xs[j]? ∧ w.frozen? ⟨g, j, none⟩ = false ∧
      ∀ (v : Value), Own (w.setCell ⟨g, j, none⟩ v) base e size s (xs.set j v) ∧ ∀ B a, Below B a w → B ≤ base → Below B a (w.setCell ⟨g, j, none⟩ v) := by
  obtain ⟨a, l, c⟩ := s
  rcases h.2 with ⟨h1, h2⟩ | ⟨g, cap, cur, h1, h2, h3, _⟩
  · simp only at h2 hj; subst h2; rw [Nat.zero_mul] at hj; omega
  · simp only [Value.slice.injEq] at h1
    obtain ⟨rfl, _, rfl⟩ := h1
    have hg : g < w.heap.size := by
      rcases Nat.lt_or_ge g w.heap.size with h' | h'
      · exact h'
      · rw [Array.getElem?_eq_none h'] at h3; cases h3
    refine ⟨g, rfl, h2, hg, World.ownsRow.cellAt h j hj, World.ownsRow.frozenAt h j, fun v => ⟨(World.ownsRow.stored h j v).1, fun B a hb hB => Below.setCell hb (Nat.le_trans hB h2) v⟩⟩
theorem Own.below {w : World} {base : Nat} {e : TypeId} {size : Nat} {s : Sl} {xs : List Value} (h : Own w base e size s xs) {a : Addr} (ha : a.block < base) (v : Value) : Own (w.setCell a v) base e size s xs := ownsRow_setCell_below h ha v
theorem ix_own {w : World} {base : Nat} {e : TypeId} {size : Nat} {s : Sl} {xs : List Value} {i : Int} {j : Nat} {K : Addr → Prop} (h : Own w base e size s xs) (hs : 0 < size) (hi : i = (j : Int)) (hj : j < s.len)
    (hk : ∀ g, s.a = some ⟨g, 0, none⟩ → base ≤ g → g < w.heap.size → K ⟨g, j * size, none⟩) : ix s size i K := by
  subst hi
  have hj2 : j * size < s.len * size := Nat.mul_lt_mul_of_pos_right hj hs
  obtain ⟨g, hg, hb, hsz, _⟩ := h.place hj2
  refine ⟨⟨g, 0, none⟩, _, hg, by omega, by omega, rfl, ?_⟩
  rw [add_plain, Nat.zero_add, Int.toNat_natCast]
  exact hk g hg hb hsz
theorem st1_own {w : World} {base g : Nat} {e : TypeId} {size : Nat} {s : Sl} {xs : List Value} {v : Value} {j : Nat} {K : World → Prop} (h : Own w base e size s xs) (ha : s.a = some ⟨g, 0, none⟩) (hj : j < s.len * size)
    (hk : ∀ w', w' = w.setCell ⟨g, j, none⟩ v → Own w' base e size s (xs.set j v) → (∀ B a, Below B a w → B ≤ base → Below B a w') → K w') : st1 ⟨g, j, none⟩ v w K := by
  obtain ⟨g', hg, hb, hsz, hc, hf, hv⟩ := h.place hj
  rw [ha] at hg
  cases hg
  have hl : j < xs.length := by have := h.length; omega
  refine ⟨xs[j], by rw [hc, List.getElem?_eq_getElem hl], hf, fun w' hw => hk w' hw (by rw [hw]; exact (hv v).1) (by rw [hw]; exact (hv v).2)⟩

/-! ### numbers -/
theorem w64_eq {x : Int} (h0 : -9223372036854775808 ≤ x) (h1 : x ≤ 9223372036854775807) : IntKind.i64.wrap x = x := by
  simp [IntKind.wrap, IntKind.signed, IntKind.bits]; omega
theorem wu64_eq {x : Int} (h0 : 0 ≤ x) (h1 : x < 18446744073709551616) : IntKind.u64.wrap x = x := by
  simp [IntKind.wrap, IntKind.signed, IntKind.bits]; omega
theorem wu32_eq {x : Int} (h0 : 0 ≤ x) (h1 : x < 4294967296) : IntKind.u32.wrap x = x := by
  simp [IntKind.wrap, IntKind.signed, IntKind.bits]; omega
theorem wu8_eq {x : Int} (h0 : 0 ≤ x) (h1 : x < 256) : IntKind.u8.wrap x = x := by
  simp [IntKind.wrap, IntKind.signed, IntKind.bits]; omega
theorem wu8_mod (x : Int) : IntKind.u8.wrap x = x % 256 := by simp [IntKind.wrap, IntKind.signed, IntKind.bits]
theorem wu32_mod (x : Int) : IntKind.u32.wrap x = x % 4294967296 := by simp [IntKind.wrap, IntKind.signed, IntKind.bits]
theorem wu64_mod (x : Int) : IntKind.u64.wrap x = x % 18446744073709551616 := by simp [IntKind.wrap, IntKind.signed, IntKind.bits]

/-! ### ways -/
theorem ifB_t {b : Bool} {x y : Prop} (hb : b = true) (h : x) : ifB b x y := ⟨fun _ => h, fun h' => by rw [hb] at h'; cases h'⟩
theorem ifB_f {b : Bool} {x y : Prop} (hb : b = false) (h : y) : ifB b x y := ⟨fun h' => absurd h' (by simp [hb]), fun _ => h⟩
theorem ifB_dt {p : Prop} [Decidable p] {x y : Prop} (hp : p) (h : x) : ifB (decide p) x y := ifB_t (decide_eq_true hp) h
theorem ifB_df {p : Prop} [Decidable p] {x y : Prop} (hp : ¬ p) (h : y) : ifB (decide p) x y := ifB_f (decide_eq_false hp) h
theorem ifB_nt {p : Prop} [Decidable p] {x y : Prop} (hp : ¬ p) (h : x) : ifB (!decide p) x y := ifB_t (by simp [hp]) h
theorem ifB_nf {p : Prop} [Decidable p] {x y : Prop} (hp : p) (h : y) : ifB (!decide p) x y := ifB_f (by simp [hp]) h
theorem nd_t {p : Prop} [Decidable p] (h : (!decide p) = true) : ¬ p := by simpa using h
theorem nd_f {p : Prop} [Decidable p] (h : (!decide p) = false) : p := by simpa using h
/-- A call by its contract. -/
theorem cR_of {α : Type} {P : Program} {f : FuncId} {mk : α → Value} {args : Array Value} {w : World} {K K' : α → World → Prop} (h : Calls P f args w (Ret mk K')) (hk : ∀ x w', K' x w' → K x w') : cR P f mk args w K := by
  refine Calls.mono h fun e w' hh => ?_
  obtain ⟨x, he, hx⟩ := hh
  exact ⟨x, he, hk x w' hx⟩
theorem Ret.mono {α : Type} {P : Program} {f : FuncId} {mk : α → Value} {args : Array Value} {w : World} {K K' : α → World → Prop} (h : Calls P f args w (Ret mk K')) (hk : ∀ x w', K' x w' → K x w') : Calls P f args w (Ret mk K) := cR_of h hk
end Go.Lift
