/- Operations that cut slices, build values and make memory, over typed values: one law for each. -/
import Derived.Test.YtagkcbbbdlmcjaaLiftOps
set_option linter.unusedVariables false
set_option linter.unusedSimpArgs false
namespace Go.Lift
/-- A slice of a slice, or of an array's variable. -/
def Sl.cut (s : Sl) (n : Nat) (l h m : Int) : Sl := ⟨if m.toNat = l.toNat then s.a else s.a.map (·.add (l.toNat * n)), h.toNat - l.toNat, m.toNat - l.toNat⟩
def optI (ρ : Env) (o : Option Operand) (d l : Int) : Prop := match o with
  | none => l = d
  | some x => ∃ k, ev ρ x = .int k l

def byteSl (P : Program) (t : TypeId) : Bool := match P.underlying t with
  | some (.slice e) => match P.underlying e with
    | some (.int .u8) => true
    | _ => false
  | _ => false
def strT (P : Program) (t : TypeId) : Bool := match P.underlying t with
  | some .string => true
  | _ => false
theorem strT_eq {P : Program} {t : TypeId} (h : strT P t = true) : P.underlying t = some .string := by
  unfold strT at h; split at h <;> simp_all
theorem byteSl_eq {P : Program} {t : TypeId} (h : byteSl P t = true) : ∃ e, P.underlying t = some (.slice e) ∧ P.underlying e = some (.int .u8) := by
  unfold byteSl at h
  split at h
  · rename_i e he
    split at h
    · rename_i h2; exact ⟨e, he, h2⟩
    · simp at h
  · simp at h

/-- What 'make' of a slice gives: its cells. -/
def mkCells (P : Program) (t : TypeId) : Option (TypeId × Nat × Nat × List Value) := match P.underlying t with
  | some (.slice e) => match P.info? e with
    | some i => match i.zero with
      | some z => some (e, i.size, i.bytes, z.cells.toList)
      | none => none
    | none => none
  | _ => none
def fillCells (P : Program) (t : TypeId) (len : Nat) (parts : List (Nat × Value)) : Option (TypeId × Array Value) := match P.underlying t with
  | some (.slice e) => match P.info? e with
    | some i => match i.zero with
      | some z => if len * i.size > 2 ^ 24 then none else
        let zero := if len * i.size = 0 then #[] else z.cells
        (Instr.fill (fun k => some (k * i.size, i.size)) ((Array.range (len * i.size)).map (zero[· % zero.size]!)) parts).map (e, ·)
      | none => none
    | none => none
  | _ => none
theorem foldl_set (l : List Value) : ∀ (k : Nat) (cells : Array Value), k + l.length ≤ cells.size →
    ((l.zipIdx k).foldl (fun (cs : Array Value) (p : Value × Nat) => cs.setIfInBounds (0 + p.2) p.1) cells).toList = cells.toList.take k ++ l ++ cells.toList.drop (k + l.length) := by
  induction l with
  | nil => intro k cells h; simp
  | cons c l ih =>
    intro k cells h
    simp only [List.length_cons] at h
    rw [List.zipIdx_cons, List.foldl_cons, ih (k + 1) _ (by simp; omega)]
    simp only [Nat.zero_add, Array.toList_setIfInBounds, List.length_cons]
    rw [List.take_set, List.drop_set_of_lt (by omega)]
    have hk : k < cells.toList.length := by simp; omega
    rw [List.take_succ_eq_append_getElem hk, List.set_append]
    have hlk : (List.take k cells.toList).length = k := by simp; omega
    rw [hlk, if_neg (by omega), Nat.sub_self]
    simp only [List.set_cons_zero, List.append_assoc, List.cons_append, List.nil_append]
    rw [show k + 1 + l.length = k + (l.length + 1) by omega]
theorem fillOne {P : Program} {t e : TypeId} {size bytes : Nat} {zs cs : List Value} (h : mkCells P t = some (e, size, bytes, zs)) (hz : zs.length = size) (hs : size ≤ 16777216) (h0 : 0 < size) (hl : cs.length = size) : fillCells P t 1 [(0, .agg cs.toArray)] = some (e, cs.toArray) := by
  unfold mkCells at h
  unfold fillCells
  split at h
  · rename_i e' hu
    split at h
    · rename_i i hi
      split at h
      · rename_i z hzz
        simp only [Option.some.injEq, Prod.mk.injEq] at h
        obtain ⟨rfl, hsz, hby, hzs⟩ := h
        simp only [hu, hi, hzz, hsz]
        rw [if_neg (by omega)]
        have hzc : z.cells.size = size := by rw [← hz, ← hzs]; simp
        have hv : (Value.agg cs.toArray).cells = cs.toArray := rfl
        generalize z.cells = zc at hzc
        have hn : ¬ (1 * size = 0) := by omega
        have hg : ¬ (cs.toArray.size ≠ size ∨ 0 * size + cs.toArray.size > ((Array.range (1 * size)).map (fun x => zc[x % zc.size]!)).size) := by simp; omega
        simp only [Instr.fill, hv, hn, if_false, hzc] at hg ⊢
        rw [if_neg (by simpa using hg)]
        simp only [Option.map_some, Option.some.injEq, Prod.mk.injEq, true_and]
        apply Array.ext'
        have := foldl_set cs 0 ((Array.range (1 * size)).map (fun x => zc[x % size]!)) (by simp; omega)
        rw [← Array.foldl_toList]
        simp only [Array.toList_zipIdx, Nat.zero_mul]
        rw [this]
        simp [hl]
      · simp at h
    · simp at h
  · simp at h
def structPlaces (P : Program) (fs : Array Field) : Option (List (Nat × Nat)) :=
  fs.toList.foldr (fun f acc => match acc, P.info? f.type with
    | some l, some i => some ((f.offset, i.size) :: l)
    | _, _ => none) (some [])

section
variable {P : Program} {ty : TypeId} {ρ : Env} {K : Value → World → Prop} {w : World} {x y z : Operand} {v : Value}

theorem OpW.b2s {s d : TypeId} {sl : Sl} {bs : List UInt8} (hs : byteSl P s = true) (hd : strT P d = true) (hx : ev ρ x = sl.v) (hl : bs.length = sl.len) (hc : AtO w sl.a (u8s bs)) (h : K (str bs) w) :
    OpW P (.convert s d x) ty ρ K w := by
  refine OpW.val (w' := w) ?_ h
  obtain ⟨e, h1, h2⟩ := byteSl_eq hs
  have h3 := strT_eq hd
  obtain ⟨a, l, c⟩ := sl
  simp only at hl hc
  subst hl
  cases a with
  | none =>
    have : bs = [] := by
      have : u8s bs = [] := hc
      simpa [u8s] using this
    subst this
    simp only [execOp, hx, convert, Sem.run_bind, run_underlying h1, run_underlying h2, run_underlying h3, Result.andThen_ok]
    rfl
  | some a =>
    have hr := run_convert_bytes_back (P := P) w s d e a c bs h1 h2 h3 (fun j hj => hc j _ (by simp [u8s, List.getElem?_eq_getElem hj]))
    simp only [execOp, hx, Sem.run_bind, hr, Result.andThen_ok]
    rfl

theorem OpW.s2b {s d : TypeId} {bs : List UInt8} (hs : strT P s = true) (hd : byteSl P d = true) (hx : ev ρ x = str bs)
    (h : ∀ (e : TypeId) (n : Nat), bs.length ≤ n → n ≤ maxLen ∨ maxLen < bs.length → K (.slice (some ⟨w.heap.size, 0, none⟩) bs.length n) (w.drew.alloc (.cells (u8s bs ++ List.replicate (n - bs.length) (Value.int .u8 0)).toArray e (n, n + 1)))) :
    OpW P (.convert s d x) ty ρ K w := by
  obtain ⟨e, h1, h2⟩ := byteSl_eq hd
  have h3 := strT_eq hs
  have hr := run_bytes_of_string (P := P) w s d e ⟨bs.toArray⟩ h3 h1 h2
  have hge := grownCap_ge w bs.length 0 e
  have hrow : bytesRow ⟨bs.toArray⟩ (grownCap w bs.length 0 e) = (u8s bs ++ List.replicate (grownCap w bs.length 0 e - bs.length) (Value.int .u8 0)).toArray := by
    simp [bytesRow, u8s, size_mk]
  have hsz : (u8s bs ++ List.replicate (grownCap w bs.length 0 e - bs.length) (Value.int .u8 0)).toArray.size = grownCap w bs.length 0 e := by
    simp [u8s]; omega
  simp only [size_mk] at hr
  rw [hrow, hsz] at hr
  refine OpW.val (w' := _) ?_ (h e (grownCap w bs.length 0 e) hge ?_)
  · simp only [execOp, hx, Sem.run_bind, hr, Result.andThen_ok]
    rfl
  · by_cases hm : bs.length ≤ maxLen
    · exact .inl (grownCap_le_maxLen w _ _ _ hm)
    · exact .inr (by omega)

/-- '[]byte("..")' as the translation has it: the row, marked. -/
theorem OpW.mark {t : TypeId} {sl : Sl} {b o : Nat} {c : Array Value} {e : TypeId} {fr : Nat × Nat} (ht : byteSl P t = true) (hx : ev ρ x = sl.v) (ha : sl.a = some ⟨b, o, none⟩) (hg : w.heap[b]? = some (.cells c e fr))
    (h : K sl.v (w.freeze ⟨b, c.size, none⟩ 1)) : OpW P (.convert t t x) ty ρ K w := by
  refine OpW.val (w' := w.freeze ⟨b, c.size, none⟩ 1) ?_ h
  obtain ⟨e', h1, h2⟩ := byteSl_eq ht
  obtain ⟨a, l, cp⟩ := sl
  simp only at ha
  subst ha
  have hsh : w.shape? b = some (e, c.size) := by simp [World.shape?, hg]
  simp [execOp, hx, convert, run_underlying h1, run_underlying h2, markStringish, hsh]

theorem OpW.sliceSl {t e : TypeId} {n : Nat} {s : Sl} {lo hi : Option Operand} {l h : Int} (ht : sliceT P t = some (e, n)) (hx : ev ρ x = s.v) (hlo : optI ρ lo 0 l) (hhi : optI ρ hi s.len h)
    (h0 : 0 ≤ l) (h1 : l ≤ h) (h2 : hi = none ∨ h ≤ s.cap) (hk : K (s.cut n l h s.cap).v w) : OpW P (.slice t x lo hi none) ty ρ K w := by
  refine OpW.val (w' := w) ?_ hk
  obtain ⟨a, len, cap⟩ := s
  obtain ⟨h, rfl⟩ := Int.eq_ofNat_of_zero_le (show 0 ≤ h by omega)
  obtain ⟨l, rfl⟩ := Int.eq_ofNat_of_zero_le h0
  have h1' : l ≤ h := by omega
  unfold sliceT at ht
  split at ht
  · rename_i e' hu
    split at ht
    · rename_i j hi'
      simp only [Option.some.injEq, Prod.mk.injEq] at ht
      obtain ⟨rfl, rfl⟩ := ht
      cases lo with
      | none =>
        have hl0 : l = 0 := by simpa [optI] using hlo
        subst hl0
        cases hi with
        | none =>
          have hh0 : h = len := by simp only [optI] at hhi; exact Int.ofNat.inj hhi
          subst hh0
          simp [execOp, hx, Instr.sliceAt, Instr.slice, run_underlying hu, Instr.sliceBounds, sizeOf, typeInfo, hi', Sl.cut]
        | some o =>
          obtain ⟨k, hk'⟩ := hhi
          have h2' : h ≤ cap := by have := h2.resolve_left (by simp); simp only at this; omega
          simp [execOp, hx, hk', Instr.sliceAt, Instr.slice, run_underlying hu, Instr.sliceBounds, Instr.sliceBound, asIntOf, sizeOf, typeInfo, hi', Sl.cut, h2']
      | some q =>
        obtain ⟨k, hq⟩ := hlo
        cases hi with
        | none =>
          have hh0 : h = len := by simp only [optI] at hhi; exact Int.ofNat.inj hhi
          subst hh0
          simp [execOp, hx, hq, Instr.sliceAt, Instr.slice, run_underlying hu, Instr.sliceBounds, Instr.sliceBound, asIntOf, sizeOf, typeInfo, hi', Sl.cut, h1']
        | some o =>
          obtain ⟨k, hk'⟩ := hhi
          have h2' : h ≤ cap := by have := h2.resolve_left (by simp); simp only at this; omega
          simp [execOp, hx, hk', hq, Instr.sliceAt, Instr.slice, run_underlying hu, Instr.sliceBounds, Instr.sliceBound, asIntOf, sizeOf, typeInfo, hi', Sl.cut, h2', h1']
    · simp at ht
  · simp at ht

theorem OpW.slice3 {t e : TypeId} {n : Nat} {s : Sl} {lo : Option Operand} {hi mx : Operand} {l h m : Int} {k1 k2 : IntKind} (ht : sliceT P t = some (e, n)) (hx : ev ρ x = s.v) (hlo : optI ρ lo 0 l) (hhi : ev ρ hi = .int k1 h) (hmx : ev ρ mx = .int k2 m)
    (h0 : 0 ≤ l) (h1 : l ≤ h) (h2 : h ≤ m) (h3 : m ≤ s.cap) (hk : K (s.cut n l h m).v w) : OpW P (.slice t x lo (some hi) (some mx)) ty ρ K w := by
  refine OpW.val (w' := w) ?_ hk
  obtain ⟨a, len, cap⟩ := s
  simp only at h3
  obtain ⟨m, rfl⟩ := Int.eq_ofNat_of_zero_le (show 0 ≤ m by omega)
  obtain ⟨h, rfl⟩ := Int.eq_ofNat_of_zero_le (show 0 ≤ h by omega)
  obtain ⟨l, rfl⟩ := Int.eq_ofNat_of_zero_le h0
  have h1' : l ≤ h := by omega
  have h2' : h ≤ m := by omega
  have h3' : m ≤ cap := by omega
  unfold sliceT at ht
  split at ht
  · rename_i e' hu
    split at ht
    · rename_i j hi'
      simp only [Option.some.injEq, Prod.mk.injEq] at ht
      obtain ⟨rfl, rfl⟩ := ht
      cases lo with
      | none =>
        have hl0 : l = 0 := by simpa [optI] using hlo
        subst hl0
        simp [execOp, hx, hhi, hmx, Instr.sliceAt, Instr.slice, run_underlying hu, Instr.sliceBounds, Instr.sliceBound, asIntOf, sizeOf, typeInfo, hi', Sl.cut, h2', h3']
      | some q =>
        obtain ⟨k, hq⟩ := hlo
        simp [execOp, hx, hhi, hmx, hq, Instr.sliceAt, Instr.slice, run_underlying hu, Instr.sliceBounds, Instr.sliceBound, asIntOf, sizeOf, typeInfo, hi', Sl.cut, h1', h2', h3']
    · simp at ht
  · simp at ht

theorem OpW.sliceArr {t : TypeId} {len n : Nat} {a : Addr} {lo hi : Option Operand} {l h : Int} (ht : arrT P t = some (len, n)) (hx : ev ρ x = .pointer (some a)) (hlo : optI ρ lo 0 l) (hhi : optI ρ hi len h)
    (h0 : 0 ≤ l) (h1 : l ≤ h) (h2 : h ≤ len) (hk : K (Sl.cut ⟨some a, len, len⟩ n l h len).v w) : OpW P (.slice t x lo hi none) ty ρ K w := by
  refine OpW.val (w' := w) ?_ hk
  obtain ⟨h, rfl⟩ := Int.eq_ofNat_of_zero_le (show 0 ≤ h by omega)
  obtain ⟨l, rfl⟩ := Int.eq_ofNat_of_zero_le h0
  have h1' : l ≤ h := by omega
  have h2' : h ≤ len := by omega
  have hif : ∀ (c : Prop) [Decidable c] (a b : Addr), some (if c then a else b) = if c then some a else some b := fun c _ a b => by split <;> rfl
  unfold arrT at ht
  split at ht
  · rename_i m e' hu
    split at ht
    · rename_i j hi'
      simp only [Option.some.injEq, Prod.mk.injEq] at ht
      obtain ⟨rfl, rfl⟩ := ht
      cases lo with
      | none =>
        have hl0 : l = 0 := by simpa [optI] using hlo
        subst hl0
        cases hi with
        | none =>
          have hh0 : h = m := by simp only [optI] at hhi; exact Int.ofNat.inj hhi
          subst hh0
          simp [execOp, hx, Instr.sliceAt, Instr.sureAddr, run_underlying hu, Instr.sliceBounds, sizeOf, typeInfo, hi', Sl.cut, hif]
        | some o =>
          obtain ⟨k, hk'⟩ := hhi
          simp [execOp, hx, hk', Instr.sliceAt, Instr.sureAddr, run_underlying hu, Instr.sliceBounds, Instr.sliceBound, asIntOf, sizeOf, typeInfo, hi', Sl.cut, h2', hif]
      | some q =>
        obtain ⟨k, hq⟩ := hlo
        cases hi with
        | none =>
          have hh0 : h = m := by simp only [optI] at hhi; exact Int.ofNat.inj hhi
          subst hh0
          simp [execOp, hx, hq, Instr.sliceAt, Instr.sureAddr, run_underlying hu, Instr.sliceBounds, Instr.sliceBound, asIntOf, sizeOf, typeInfo, hi', Sl.cut, h1', hif]
        | some o =>
          obtain ⟨k, hk'⟩ := hhi
          simp [execOp, hx, hk', hq, Instr.sliceAt, Instr.sureAddr, run_underlying hu, Instr.sliceBounds, Instr.sliceBound, asIntOf, sizeOf, typeInfo, hi', Sl.cut, h1', h2', hif]
    · simp at ht
  · simp at ht

theorem extract_mk (xs : List UInt8) (l h : Nat) (hh : h ≤ xs.length) : (ByteArray.mk xs.toArray).extract l h = ByteArray.mk ((xs.take h).drop l).toArray := by
  apply ByteArray.ext
  rw [ByteArray.data_extract]
  simp only [List.extract_toArray, List.extract_eq_take_drop]
  congr 1
  rw [List.drop_take]

theorem OpW.sliceStr {t : TypeId} {xs : List UInt8} {lo hi : Option Operand} {l h : Int} (ht : strT P t = true) (hx : ev ρ x = str xs) (hlo : optI ρ lo 0 l) (hhi : optI ρ hi xs.length h)
    (h0 : 0 ≤ l) (h1 : l ≤ h) (h2 : h ≤ xs.length) (hk : K (str ((xs.take h.toNat).drop l.toNat)) w) : OpW P (.slice t x lo hi none) ty ρ K w := by
  refine OpW.val (w' := w) ?_ hk
  have hu := strT_eq ht
  obtain ⟨h, rfl⟩ := Int.eq_ofNat_of_zero_le (show 0 ≤ h by omega)
  obtain ⟨l, rfl⟩ := Int.eq_ofNat_of_zero_le h0
  have h1' : l ≤ h := by omega
  have h2' : h ≤ xs.length := by omega
  have he := extract_mk xs l h h2'
  simp only [Int.toNat_natCast]
  rw [show str ((xs.take h).drop l) = .string ((ByteArray.mk xs.toArray).extract l h) from by rw [he]]
  cases lo with
  | none =>
    have hl0 : l = 0 := by simpa [optI] using hlo
    subst hl0
    cases hi with
    | none =>
      have hh0 : h = xs.length := by simp only [optI] at hhi; exact Int.ofNat.inj hhi
      subst hh0
      rw [he]
      simp [execOp, hx, Instr.sliceAt, Instr.slice, run_underlying hu, Instr.sliceBounds, size_mk]
    | some o =>
      obtain ⟨k, hk'⟩ := hhi
      simp [execOp, hx, hk', Instr.sliceAt, Instr.slice, run_underlying hu, Instr.sliceBounds, Instr.sliceBound, asIntOf, size_mk, h2']
  | some q =>
    obtain ⟨k, hq⟩ := hlo
    cases hi with
    | none =>
      have hh0 : h = xs.length := by simp only [optI] at hhi; exact Int.ofNat.inj hhi
      subst hh0
      simp [execOp, hx, hq, Instr.sliceAt, Instr.slice, run_underlying hu, Instr.sliceBounds, Instr.sliceBound, asIntOf, size_mk, h1']
    | some o =>
      obtain ⟨k, hk'⟩ := hhi
      simp [execOp, hx, hk', hq, Instr.sliceAt, Instr.slice, run_underlying hu, Instr.sliceBounds, Instr.sliceBound, asIntOf, size_mk, h2', h1']

/-! ### building -/
theorem OpW.buildSlice {t e : TypeId} {len : Nat} {parts : Array (Nat × Operand)} {vs : List (Nat × Value)} {cs : List Value} (hv : (parts.map fun (i, q) => (i, ev ρ q)).toList = vs)
    (hf : fillCells P t len vs = some (e, cs.toArray)) (h : K (.slice (some ⟨w.heap.size, 0, none⟩) len len) (w.alloc (.cells cs.toArray e))) : OpW P (.buildSlice t len parts) ty ρ K w := by
  refine OpW.val (w' := w.alloc (.cells cs.toArray e)) ?_ h
  unfold fillCells at hf
  split at hf
  · rename_i e' hu
    split at hf
    · rename_i i hi
      split at hf
      · rename_i z hz
        split at hf
        · simp at hf
        · rename_i hle
          simp only [Option.map_eq_some_iff, Prod.mk.injEq] at hf
          obtain ⟨cells, hfill, rfl, rfl⟩ := hf
          by_cases h00 : len * i.size = 0
          · simp only [h00, if_true] at hfill
            simp only [execOp, Instr.buildSlice, Sem.run_bind, Sem.run_pure, run_underlying hu, Result.andThen_ok, sizeOf, typeInfo, program, Sem.run, hi, if_false, h00, if_true, show ¬ (0 > 2 ^ 24) from by decide]
            rw [hv, hfill]
            simp [newRow, newObj, Sem.run]
          · simp only [h00, if_false] at hfill
            have hzr : (zeroValue e').run P w = .ok z w := by simp [zeroValue, typeInfo, hi, hz]
            simp only [execOp, Instr.buildSlice, Sem.run_bind, Sem.run_pure, run_underlying hu, Result.andThen_ok, sizeOf, typeInfo, program, Sem.run, hi, hle, if_false, h00, hzr]
            rw [hv, hfill]
            simp [newRow, newObj, Sem.run]
      · simp at hf
    · simp at hf
  · simp at hf

theorem OpW.buildRun {t : TypeId} {parts : Array (Nat × Operand)} {vs : List (Nat × Value)} {cs : List Value} (hv : (parts.map fun (i, q) => (i, ev ρ q)).toList = vs)
    (hf : ∀ w, (Instr.build t vs.toArray).run P w = .ok (aggv cs) w) (h : K (aggv cs) w) : OpW P (.build t parts) ty ρ K w := by
  refine OpW.val (w' := w) ?_ h
  subst hv
  simp only [Array.toArray_toList] at hf
  simp [execOp, hf]

theorem range_map_replicate {size : Nat} (hs : 0 < size) (z : Value) (n : Nat) : (Array.range n).map (fun k => (List.replicate size z).toArray[k % (List.replicate size z).toArray.size]!) = (List.replicate n z).toArray := by
  apply Array.ext
  · simp
  · intro i h1 h2
    simp at h1
    have : i % size < size := Nat.mod_lt _ hs
    simp [this]

theorem OpW.makeSlice {t e : TypeId} {size bytes : Nat} {z : Value} {k1 k2 : IntKind} {l c : Int} (ht : mkCells P t = some (e, size, bytes, List.replicate size z)) (hs : 0 < size) (hx : ev ρ x = .int k1 l) (hy : ev ρ y = .int k2 c)
    (h0 : 0 ≤ l) (h1 : l ≤ c) (h2 : bytes * c ≤ 140737488355328) (h3 : c ≤ 9223372036854775807)
    (h : K (.slice (some ⟨w.heap.size, 0, none⟩) l.toNat c.toNat) (w.alloc (.cells (List.replicate (c.toNat * size) z).toArray e))) : OpW P (.makeSlice t x y) ty ρ K w := by
  refine OpW.val (w' := w.alloc (.cells (List.replicate (c.toNat * size) z).toArray e)) ?_ h
  unfold mkCells at ht
  split at ht
  · rename_i e' hu
    split at ht
    · rename_i i hi
      split at ht
      · rename_i zv hz
        simp only [Option.some.injEq, Prod.mk.injEq] at ht
        obtain ⟨rfl, rfl, rfl, hzc⟩ := ht
        have hl : IntKind.i64.wrap l = l := by simp [IntKind.wrap, IntKind.signed, IntKind.bits]; omega
        have hc : IntKind.i64.wrap c = c := by simp [IntKind.wrap, IntKind.signed, IntKind.bits]; omega
        have hzc' : zv.cells = (List.replicate i.size z).toArray := by rw [← hzc]
        have hroom : ¬ (c.toNat * i.bytes > roomBytes) := by
          have : ((c.toNat * i.bytes : Nat) : Int) = i.bytes * c := by rw [Int.natCast_mul, Int.toNat_of_nonneg (by omega), Int.mul_comm]
          simp only [roomBytes]; omega
        have hz0 : (if c.toNat * i.size = 0 then (pure #[] : Sem (Array Value)) else do pure (← zeroValue e').cells).run P w = .ok (if c.toNat * i.size = 0 then #[] else zv.cells) w := by
          split
          · rfl
          · simp [zeroValue, typeInfo, hi, hz]
        have hcells : (Array.range (c.toNat * i.size)).map (fun k => (if c.toNat * i.size = 0 then #[] else zv.cells)[k % (if c.toNat * i.size = 0 then #[] else zv.cells).size]!) = (List.replicate (c.toNat * i.size) z).toArray := by
          split
          · rename_i h0; rw [h0]; simp
          · rw [hzc', range_map_replicate hs]
        have hbig : ¬ ((decide (c < 0) || decide (i.bytes * c > 2 ^ 48) || decide (l < 0) || decide (l > c)) = true) := by
          simp; omega
        simp only [execOp, hx, hy, Instr.makeSlice, Sem.run_bind, Sem.run_pure, run_underlying hu, Result.andThen_ok, asInt, asIntOf, typeInfo, program, Sem.run, hi, hl, hc]
        rw [if_neg (by simp; omega)]
        simp only [Sem.run_bind, Sem.run_pure, Result.andThen_ok, askRoom, if_neg hroom, sizeOf, typeInfo, program, Sem.run, hi, hz0, hcells]
        simp [newRow, newObj, Sem.run]
        split
        · rename_i h00
          have e1 : ∀ f : Nat → Value, Array.map f (Array.range 0) = Array.replicate 0 z := fun f => by apply Array.ext <;> simp
          rw [h00, e1]
        · rename_i h00
          have hzr : (zeroValue e').run P w = .ok zv w := by simp [zeroValue, typeInfo, hi, hz]
          rw [hzr]
          simp only [Result.andThen_ok, hzc', range_map_replicate hs]
          simp
      · simp at ht
    · simp at ht
  · simp at ht
end
end Go.Lift
