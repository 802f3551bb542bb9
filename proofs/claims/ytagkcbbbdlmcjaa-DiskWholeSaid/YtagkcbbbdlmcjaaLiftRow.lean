/- Blocks that are written: what stays, what a store, a copy and an append leave. -/
import Derived.Test.YtagkcbbbdlmcjaaLiftUse
import Derived.Laws.CopyRow
set_option linter.unusedVariables false
set_option linter.unusedSimpArgs false
namespace Go.Lift
open Go.RowKit
/-- All that was there is as it was, but for some blocks. -/
structure Fr (X : Nat → Prop) (w w' : World) : Prop where
  os : w'.os = w.os
  tape : w'.tape = w.tape
  output : w'.output = w.output
  size : w.heap.size ≤ w'.heap.size
  block : ∀ k, k < w.heap.size → ¬ X k → w'.heap[k]? = w.heap[k]?
theorem Fr.of {X : Nat → Prop} {w w' : World} (h : Ext w w') : Fr X w w' := ⟨h.os, h.tape, h.output, h.size, fun k hk _ => h.block k hk⟩
theorem Fr.refl {X : Nat → Prop} (w : World) : Fr X w w := Fr.of (Ext.refl w)
theorem Fr.trans {X : Nat → Prop} {a b c : World} (h : Fr X a b) (k : Fr X b c) : Fr X a c :=
  ⟨k.os.trans h.os, k.tape.trans h.tape, k.output.trans h.output, Nat.le_trans h.size k.size, fun i hi hx => (k.block i (Nat.lt_of_lt_of_le hi h.size) hx).trans (h.block i hi hx)⟩
theorem Fr.mono {X Y : Nat → Prop} {a b : World} (h : Fr X a b) (hxy : ∀ k, k < a.heap.size → X k → Y k) : Fr Y a b := ⟨h.os, h.tape, h.output, h.size, fun i hi hx => h.block i hi fun hx' => hx (hxy i hi hx')⟩
theorem Fr.below {X : Nat → Prop} {B : Nat} {a w w' : World} (h : Fr X w w') (hb : Below B a w) (hX : ∀ k, k < w.heap.size → X k → B ≤ k) (hB : B ≤ w.heap.size) : Below B a w' :=
  ⟨h.os.trans hb.os, h.tape.trans hb.tape, h.output.trans hb.output, Nat.le_trans hb.size h.size, fun k hk => (h.block k (Nat.lt_of_lt_of_le hk hB) fun hx => Nat.lt_irrefl _ (Nat.lt_of_lt_of_le hk (hX k (Nat.lt_of_lt_of_le hk hB) hx))).trans (hb.block k hk)⟩
theorem Fr.ext {X : Nat → Prop} {w0 w w' : World} (h : Fr X w w') (hb : Ext w0 w) (hX : ∀ k, k < w.heap.size → X k → w0.heap.size ≤ k) : Ext w0 w' := h.below hb hX hb.size
theorem Fr.cell {X : Nat → Prop} {w w' : World} (h : Fr X w w') {a : Addr} {v : Value} (hx : ¬ X a.block) (hc : w.cell? a = some v) : w'.cell? a = some v :=
  (World.cell?_of_block (h.block a.block (World.block_lt_of_cell? w a hc) hx)).trans hc
theorem Fr.at {X : Nat → Prop} {w w' : World} (h : Fr X w w') {a : Addr} {cs : List Value} (hx : ¬ X a.block) (hc : At w a cs) : At w' a cs := fun j v hj => h.cell (by rw [add_block]; exact hx) (hc j v hj)
theorem Fr.atO {X : Nat → Prop} {w w' : World} (h : Fr X w w') {a : Option Addr} {cs : List Value} (hx : ∀ b, a = some b → ¬ X b.block) (hc : AtO w a cs) : AtO w' a cs := by
  cases a with
  | none => exact hc
  | some a => exact h.at (hx a rfl) hc
theorem Fr.bytes {X : Nat → Prop} {w w' : World} (h : Fr X w w') {s : Sl} {bs : List UInt8} (hx : ∀ b, s.a = some b → ¬ X b.block) (hc : Bytes w s bs) : Bytes w' s bs := ⟨hc.1, h.atO hx hc.2⟩
theorem Fr.own {X : Nat → Prop} {w w' : World} (h : Fr X w w') {base : Nat} {e : TypeId} {size : Nat} {s : Sl} {xs : List Value} (hx : ∀ b, s.a = some b → ¬ X b.block) (hc : Own w base e size s xs) : Own w' base e size s xs := by
  obtain ⟨a, l, c⟩ := s
  refine ⟨hc.1, ?_⟩
  rcases hc.2 with h0 | ⟨g, cap, cur, h1, h2, h3, h4⟩
  · exact .inl h0
  · simp only [Value.slice.injEq] at h1
    obtain ⟨rfl, _, rfl⟩ := h1
    refine .inr ⟨g, c, cur, rfl, h2, ?_, h4⟩
    have hg : g < w.heap.size := (Array.getElem?_eq_some_iff.1 h3).1
    rw [h.block g hg (hx _ rfl)]
    exact h3

/-! ### blocks -/
def Blk (w : World) (g : Nat) (e : TypeId) (cs : List Value) : Prop := w.heap[g]? = some (.cells cs.toArray e (0, 0))
theorem Blk.lt {w : World} {g : Nat} {e : TypeId} {cs : List Value} (h : Blk w g e cs) : g < w.heap.size := (Array.getElem?_eq_some_iff.1 h).1
theorem Blk.new {w w' : World} {b : Nat} {e : TypeId} {cs : List Value} (hb : b = w.heap.size) (hw : w' = w.alloc (.cells cs.toArray e)) : Blk w' b e cs := by subst hb; subst hw; exact heap_new _ _
theorem Blk.fr {X : Nat → Prop} {w w' : World} {g : Nat} {e : TypeId} {cs : List Value} (h : Blk w g e cs) (hf : Fr X w w') (hx : ¬ X g) : Blk w' g e cs := (hf.block g h.lt hx).trans h
theorem Blk.ext {w w' : World} {g : Nat} {e : TypeId} {cs : List Value} (h : Blk w g e cs) (hf : Ext w w') : Blk w' g e cs := Ext.heap hf h
theorem Blk.at {w : World} {g o : Nat} {e : TypeId} {cs ds : List Value} (h : Blk w g e cs) (hd : (cs.drop o).take ds.length = ds) : At w ⟨g, o, none⟩ ds := At.block h (by simpa using hd)
theorem Blk.cell {w : World} {g o : Nat} {e : TypeId} {cs : List Value} {v : Value} (h : Blk w g e cs) (hv : cs[o]? = some v) : w.cell? ⟨g, o, none⟩ = some v := by
  rw [cell_of_row w g o cs.toArray e (0, 0) h]; simpa using hv
theorem Blk.unfrozen {w : World} {g o : Nat} {e : TypeId} {cs : List Value} (h : Blk w g e cs) : w.frozen? ⟨g, o, none⟩ = false := by
  have h' : w.heap[g]? = some (.cells cs.toArray e (0, 0)) := h
  unfold World.frozen?
  simp [h']
theorem setCell_fr (w : World) (g o : Nat) (v : Value) : Fr (· = g) w (w.setCell ⟨g, o, none⟩ v) :=
  ⟨rfl, rfl, rfl, by simp [World.setCell], fun k _ hk => Below.heap_setCell w _ v k hk⟩
theorem setRow_fr (w : World) (g : Nat) (cs : Array Value) : Fr (· = g) w (w.setRow g cs) := by
  refine ⟨rfl, rfl, rfl, by simp [World.setRow], fun k _ hk => ?_⟩
  unfold World.setRow
  simp only [Array.getElem?_modify]
  rw [if_neg (fun e => hk e.symm)]
theorem Blk.setCell {w : World} {g o : Nat} {e : TypeId} {cs : List Value} (h : Blk w g e cs) (v : Value) : Blk (w.setCell ⟨g, o, none⟩ v) g e (cs.set o v) := by
  have h' : w.heap[g]? = some (.cells cs.toArray e (0, 0)) := h
  unfold Blk World.setCell
  simp only [Array.getElem?_modify, if_true, h', Option.map_some, Option.isSome_none, Bool.false_eq_true, if_false]
  simp
theorem st1_blk {w : World} {g o : Nat} {e : TypeId} {cs : List Value} {v : Value} {K : World → Prop} (h : Blk w g e cs) (ho : o < cs.length) (hk : ∀ w', Blk w' g e (cs.set o v) → Fr (· = g) w w' → K w') : st1 ⟨g, o, none⟩ v w K := by
  refine ⟨cs[o], h.cell (List.getElem?_eq_getElem ho), h.unfrozen, fun w' hw => ?_⟩
  subst hw
  exact hk _ (h.setCell v) (setCell_fr w g o v)
/-- cells among cells -/
def splice (xs : List Value) (o : Nat) (cs : List Value) : List Value := xs.take o ++ cs ++ xs.drop (o + cs.length)
theorem stA_blk {w : World} {g o n : Nat} {e : TypeId} {xs cs : List Value} {K : World → Prop} (h : Blk w g e xs) (hl : cs.length = n) (ho : o + n ≤ xs.length) (h1 : ∀ v ∈ cs, v.oneCell' = true)
    (hk : ∀ w', Blk w' g e (splice xs o cs) → Fr (· = g) w w' → K w') : stA n ⟨g, o, none⟩ cs w K := by
  refine ⟨g, o, e, xs.toArray, rfl, hl, h, by simp; omega, h1, fun w' hw => ?_⟩
  subst hw
  refine hk _ ?_ (setRow_fr _ _ _)
  have := setRow_heap w g xs.toArray (splice xs o cs).toArray e (0, 0) h
  exact this
theorem byteSl_size {P : Program} {t e : TypeId} {bytes : Nat} {z : Value} (h : mkCells P t = some (e, 1, bytes, [z])) : P.underlying t = some (.slice e) ∧ (P.info? e).map (·.size) = some 1 := by
  obtain ⟨hu, i, z, hi, _, hs, _⟩ := mkCells_eq h
  exact ⟨hu, by rw [hi]; simpa using hs⟩
/-- 'copy' into a block -/
theorem cpy_blk {P : Program} {w : World} {t e5 e : TypeId} {ty : TypeId} {ts : TypeId} {bytes : Nat} {z : Value} {g o dLen dCap : Nat} {s : Sl} {xs cs : List Value} {K : Int → World → Prop} (ht : mkCells P t = some (e5, 1, bytes, [z]))
    (h : Blk w g e xs) (hn : cs.length = min s.len dLen) (hc : AtO w s.a cs) (ho : o + cs.length ≤ xs.length) (h1 : ∀ v ∈ cs, v.oneCell' = true)
    (hs : s.a = none → s.len = 0 ∧ s.cap = 0)
    (hk : ∀ w', Blk w' g e (splice xs o cs) → Fr (· = g) w w' → K cs.length w') : cpy P #[t, ts] ty #[.slice (some ⟨g, o, none⟩) dLen dCap, s.v] w K := by
  obtain ⟨hu, hsz⟩ := byteSl_size ht
  obtain ⟨sa, sl, sc⟩ := s
  cases sa with
  | none =>
    obtain ⟨h2, h3⟩ := hs rfl
    simp only at h2 h3
    subst h2; subst h3
    have hcs : cs = [] := hc
    subst hcs
    refine ⟨0, w, ?_, ?_⟩
    · exact run_copy_nil P w t ts ty e5 ⟨g, o, none⟩ dLen dCap hu (by rw [hsz]; rfl)
    · have := hk w (by simpa [splice] using h) (Fr.refl w)
      simpa using this
  | some a =>
    refine ⟨cs.length, _, run_copy_row (P := P) w t ts ty e5 g o dLen dCap a sl sc xs.toArray e cs hu hsz h (by simpa using hn) hc (by simpa using ho) h1, ?_⟩
    refine hk _ ?_ (setRow_fr _ _ _)
    exact setRow_heap w g xs.toArray (splice xs o cs).toArray e (0, 0) h
/-- 'copy' of a text into a block -/
theorem cpy_blk_str {P : Program} {w : World} {t e5 e : TypeId} {ty : TypeId} {ts : TypeId} {bytes : Nat} {z : Value} {g o dLen dCap : Nat} {bs : List UInt8} {xs : List Value} {K : Int → World → Prop} (ht : mkCells P t = some (e5, 1, bytes, [z]))
    (h : Blk w g e xs) (ho : o + min bs.length dLen ≤ xs.length)
    (hk : ∀ w', Blk w' g e (splice xs o (u8s (bs.take (min bs.length dLen)))) → Fr (· = g) w w' → K (min bs.length dLen : Nat) w') : cpy P #[t, ts] ty #[.slice (some ⟨g, o, none⟩) dLen dCap, str bs] w K := by
  obtain ⟨hu, hsz⟩ := byteSl_size ht
  have hlen : (u8s (bs.take (min bs.length dLen))).length = min bs.length dLen := by rw [u8s_length, List.length_take]; omega
  have hst := run_storeCells_at P g o e (u8s (bs.take (min bs.length dLen))) 0 xs.toArray w h (by simp [hlen]; omega) (u8s_one _)
  simp only [Nat.add_zero] at hst
  refine ⟨(min bs.length dLen : Nat), _, ?_, hk _ (setRow_heap w g xs.toArray (splice xs o (u8s (bs.take (min bs.length dLen)))).toArray e (0, 0) h) (setRow_fr _ _ _)⟩
  cases hq : P.info? e5 with
  | none => simp [hq] at hsz
  | some i =>
    have hi : i.size = 1 := by simpa [hq] using hsz
    have hx : (Builtin.firstCells i.size (min bs.length dLen) (str bs)).run P w = .ok (u8s (bs.take (min bs.length dLen))).toArray w := by
      simp only [Builtin.firstCells, Sem.run_pure]
      congr 1
      apply Array.ext'
      simp [u8s, List.map_take]
    simp only [hi] at hx
    simp [Builtin.copy_, run_underlying hu, Builtin.lenOf, sizeOf, typeInfo, hq, hi, hx, hst, splice, goInt, List.length_take, ByteArray.size]
/-- an own row's block -/
theorem Own.blk {w : World} {base : Nat} {e : TypeId} {size : Nat} {s : Sl} {xs : List Value} (h : Own w base e size s xs) (hl : 0 < s.len) :
    ∃ g rest, s.a = some ⟨g, 0, none⟩ ∧ base ≤ g ∧ Blk w g e (xs ++ rest) ∧ s.len ≤ s.cap := by
  have hc := h.cap
  obtain ⟨a, l, c⟩ := s
  rcases h.2 with ⟨h1, h2⟩ | ⟨g, cap, cur, h1, h2, h3, h4, h5, h6, h7⟩
  · simp only at h2 hl; omega
  · simp only [Value.slice.injEq] at h1
    obtain ⟨rfl, _, rfl⟩ := h1
    refine ⟨g, cur.toList.drop (l * size), rfl, h2, ?_, hc⟩
    have h7 : cur.toList.take (l * size) = xs := h7
    unfold Blk
    rw [← h7, List.take_append_drop]
    exact h3
/-- 'append' onto a slice that is full: a new row -/
theorem app_full {P : Program} {w : World} {base : Nat} {t e : TypeId} {zs : List Value} {size bytes : Nat} {s x : Sl} {olds news : List Value} {K : Sl → World → Prop}
    (ht : mkCells P t = some (e, size, bytes, zs)) (hzs : zs.length = size)
    (hfull : s.cap = s.len) (hnil : s.a = none → s.len = 0) (hlo : olds.length = s.len * size) (hol : AtO w s.a olds) (hl : news.length = x.len * size) (hx : AtO w x.a news) (hxn : x.a ≠ none) (h0 : 0 < x.len)
    (h63 : s.len + x.len ≤ maxLen) (hb : (s.len + x.len) * bytes ≤ 140737488355328) (hbase : base ≤ w.heap.size)
    (h : ∀ (s' : Sl) (w' : World), s'.len = s.len + x.len → Own w' base e size s' (olds ++ news) → Ext w w' → K s' w') : app P t s x w K := by
  obtain ⟨hu, i, z, hi, hz, hs, hby, hc⟩ := mkCells_eq ht
  subst hs; subst hby
  have hzc : z.cells.size = i.size := by rw [← hzs, ← hc]; simp
  obtain ⟨xa, xl, xc⟩ := x
  obtain ⟨sa, sl, sc⟩ := s
  simp only at hfull hlo hl h0 h63 hb hnil hol hx h hxn
  subst hfull
  cases xa with
  | none => exact absurd rfl hxn
  | some a =>
    cases sa with
    | none =>
      obtain rfl := hnil rfl
      have ho : olds = [] := hol
      subst ho
      simp only [Nat.zero_add] at hb h63 h
      have hr := run_append_nil (P := P) (w := w) t t e i z hu hi hz a xl xc news hl hx h0 (by simp only [maxLen] at h63; omega) (by omega)
      refine ⟨⟨some ⟨w.heap.size, 0, none⟩, xl, grownCap w xl 0 e⟩, _, hr, h _ _ rfl ?_ ?_⟩
      · refine ⟨by simpa using hl, .inr ⟨w.heap.size, grownCap w xl 0 e, _, rfl, hbase, heap_new _ _, grownCap_ge w xl 0 e, grownCap_le_maxLen w xl 0 e h63, ?_, ?_⟩⟩
        · have := grownCap_ge w xl 0 e
          simp only [Array.size_append, List.size_toArray, size_zeroCells, hzc, hl]
          rw [← Nat.add_mul]; congr 1; omega
        · simp only [Array.toList_append, List.nil_append]
          rw [List.take_append_of_le_length (by simp [hl]), List.take_of_length_le (by simp [hl])]
      · exact (Ext.drew w).trans (Ext.alloc (Ext.refl _) _)
    | some b =>
      have hr := run_append_grow (P := P) (w := w) t t e i z hu hi hz b sc sc olds hlo hol a xl xc news hl hx (by omega) (by simp only [maxLen] at h63; omega)
        (growslice_fits (by omega) hb)
      refine ⟨⟨some ⟨w.heap.size, 0, none⟩, sc + xl, grownCap w (sc + xl) sc e⟩, _, hr, h _ _ rfl ?_ ?_⟩
      · refine ⟨by simp [hl, hlo, Nat.add_mul], .inr ⟨w.heap.size, grownCap w (sc + xl) sc e, _, rfl, hbase, heap_new _ _, grownCap_ge w _ _ e, grownCap_le_maxLen w _ _ e h63, ?_, ?_⟩⟩
        · have := grownCap_ge w (sc + xl) sc e
          simp only [Array.size_append, List.size_toArray, size_zeroCells, hzc, hl, hlo]
          rw [← Nat.add_mul, ← Nat.add_mul]; congr 1; omega
        · simp only [Array.toList_append]
          rw [List.take_append_of_le_length (by simp [hl, hlo, Nat.add_mul]), List.take_of_length_le (by simp [hl, hlo, Nat.add_mul])]
      · exact (Ext.drew w).trans (Ext.alloc (Ext.refl _) _)
end Go.Lift
