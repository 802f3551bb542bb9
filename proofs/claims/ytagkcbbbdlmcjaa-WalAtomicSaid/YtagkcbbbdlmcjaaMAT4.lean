/- Parts of a proof, one behind the other: readings of functions, what they do, and what follows. -/
import Derived.Test.YtagkcbbbdlmcjaaMAT3
set_option linter.unusedVariables false
set_option linter.unusedSimpArgs false
section
/- Frames that are parsed are the records again; heads that are read are what was written. No program here. -/
namespace Go.Proofs.Ytagkcbbbdlmcjaa
open Go.Lift Go.Lift.Disk Go.Lift.Crc Go.Lift.Wal Go.RowKit
theorem takeAux_numB : ∀ (k m : Nat) (i acc : Nat) (rest : List UInt8), m < 128 ^ (k + 1) → i + k ≤ 9 → (0 < m ∨ i = 0) → m * 128 ^ i < 18446744073709551616 → takeAux i acc (numB m ++ rest) = some (acc + m * 128 ^ i, rest) := by
 intro k
 induction k with
 | zero =>
  intro m i acc rest hm hi h0 hs
  have hlt : m < 128 := by omega
  have e : numB m = [UInt8.ofNat m] := by unfold numB; rw [if_pos hlt]
  have hc : (UInt8.ofNat m).toNat = m := by simp; omega
  rw [e]
  show takeAux i acc (UInt8.ofNat m :: rest) = _
  unfold takeAux
  rw [hc, if_neg (by omega), if_neg ?_, if_neg (by omega), if_neg (by omega)]
  rintro ⟨h9, h1⟩
  subst h9
  have : 2 * 128 ^ 9 ≤ m * 128 ^ 9 := Nat.mul_le_mul_right _ (by omega)
  have h2 : (2 * 128 ^ 9 : Nat) = 18446744073709551616 := by decide
  omega
 | succ k ih =>
  intro m i acc rest hm hi h0 hs
  by_cases hlt : m < 128
  ·exact (by
    have e : numB m = [UInt8.ofNat m] := by unfold numB; rw [if_pos hlt]
    have hc : (UInt8.ofNat m).toNat = m := by simp; omega
    rw [e]
    show takeAux i acc (UInt8.ofNat m :: rest) = _
    unfold takeAux
    rw [hc, if_neg (by omega), if_neg (by omega), if_neg (by omega), if_neg (by omega)])
  ·have e : numB m = UInt8.ofNat (m % 128 + 128) :: numB (m / 128) := by
    conv => lhs; rw [numB]
    rw [if_neg hlt]
   have hc : (UInt8.ofNat (m % 128 + 128)).toNat = m % 128 + 128 := by simp; omega
   rw [e]
   show takeAux i acc (UInt8.ofNat (m % 128 + 128) :: (numB (m / 128) ++ rest)) = _
   unfold takeAux
   have hp : 128 ^ (i + 1) = 128 ^ i * 128 := Nat.pow_succ ..
   have hmul : m / 128 * 128 ^ (i + 1) + m % 128 * 128 ^ i = m * 128 ^ i := by
    rw [hp, ← Nat.mul_assoc, Nat.mul_right_comm, ← Nat.add_mul]
    congr 1
    omega
   rw [hc, if_neg (by omega), if_neg (by omega), if_pos (by omega)]
   rw [ih (m / 128) (i + 1) _ rest (by rw [Nat.div_lt_iff_lt_mul (by decide), ← Nat.pow_succ]; exact hm) (by omega) (.inl (by omega)) (by omega)]
   congr 2
   have : (m % 128 + 128) % 128 = m % 128 := by omega
   rw [this, ← hmul]
   omega
theorem takeNum_numB (m : Nat) (hm : m < 18446744073709551616) (rest : List UInt8) : takeNum (numB m ++ rest) = some (m, rest) := by
 have := takeAux_numB 9 m 0 0 rest (Nat.lt_of_lt_of_le hm (by decide)) (by decide) (.inr rfl) (by simpa using hm)
 simpa [takeNum] using this
theorem parseF_frames : ∀ (l : List (List UInt8)) (f : Nat) (out : List (List UInt8)), (l.flatMap frameB).length ≤ f → (∀ s ∈ l, s.length < 18446744073709551616) → parseF f (l.flatMap frameB) out = (out ++ l, 0)
 | [], f, out, _, _ => by cases f <;> simp [parseF]
 | s :: l, f, out, hf, hs => by
  have hfl := frameB_len s
  have hnl := (numB_len s.length (hs s (by simp))).1
  rw [List.flatMap_cons] at hf ⊢
  rw [List.length_append] at hf
  obtain ⟨f, rfl⟩ : ∃ f', f = f' + 1 := ⟨f - 1, by omega⟩
  have e1 : frameB s ++ l.flatMap frameB = numB s.length ++ (le4 (crc s) ++ (s ++ l.flatMap frameB)) := by unfold frameB; simp only [List.append_assoc]
  have ht : takeNum (frameB s ++ l.flatMap frameB) = some (s.length, le4 (crc s) ++ (s ++ l.flatMap frameB)) := by rw [e1]; exact takeNum_numB _ (hs s (by simp)) _
  have h4 : (le4 (crc s)).length = 4 := rfl
  have hne : frameB s ++ l.flatMap frameB ≠ [] := by
   intro e
   have := congrArg List.length e
   rw [List.length_append, List.length_nil] at this
   omega
  have hrl : (le4 (crc s) ++ (s ++ l.flatMap frameB)).length = 4 + s.length + (l.flatMap frameB).length := by simp only [List.length_append, h4]; omega
  have hsl : sliceB (le4 (crc s) ++ (s ++ l.flatMap frameB)) 4 (4 + s.length) = s := by
   unfold sliceB
   rw [← List.append_assoc, List.take_left' (by rw [List.length_append, h4]), List.drop_left' h4]
  have hd : (le4 (crc s) ++ (s ++ l.flatMap frameB)).drop (4 + s.length) = l.flatMap frameB := by
   rw [← List.append_assoc, List.drop_left' (by rw [List.length_append, h4])]
  have htk : (frameB s ++ l.flatMap frameB).take ((frameB s ++ l.flatMap frameB).length - (le4 (crc s) ++ (s ++ l.flatMap frameB)).length + 4 + s.length) = frameB s := by
   refine List.take_left' ?_
   rw [hrl, List.length_append]
   omega
  rw [parseF, if_neg hne, ht]
  simp only
  rw [if_neg (by rw [hrl]; omega), hsl, htk, if_pos rfl, hd, parseF_frames l f (out ++ [s]) (by omega) fun t h => hs t (by simp [h])]
  simp
theorem parse_frames (l : List (List UInt8)) (hs : ∀ s ∈ l, s.length < 18446744073709551616) : parse (l.flatMap frameB) = (l, 0) := by
 have := parseF_frames l _ [] (Nat.le_refl _) hs
 simpa [parse] using this
theorem gather_eq : ∀ (l : List (List UInt8)) (room : Nat) (all : List UInt8) {A : List UInt8}, gather l room all = some A → A = all ++ l.flatMap frameB
 | [], room, all, A, h => by
  unfold gather at h
  split at h
  ·cases h
  ·simp only [Option.some.injEq] at h
   rw [h]; simp
 | s :: l, room, all, A, h => by
  unfold gather at h
  split at h
  ·cases h
  ·have := gather_eq l room _ h
   rw [this, List.flatMap_cons, List.append_assoc]

/-! ### heads -/
theorem beB_low : ∀ (k a n : Nat), k ≤ 8 → a * 256 ^ k + n % 256 ^ k < 18446744073709551616 → (beB k n).foldl lowStep a = a * 256 ^ k + n % 256 ^ k
 | 0, a, n, _, h => by simp [beB, Nat.mod_one]
 | k + 1, a, n, hk, h => by
  have hp : 256 ^ (k + 1) = 256 ^ k * 256 := Nat.pow_succ ..
  have hc : (UInt8.ofNat (n / 256 ^ k)).toNat = n / 256 ^ k % 256 := by simp
  have hm : n % 256 ^ (k + 1) = n / 256 ^ k % 256 * 256 ^ k + n % 256 ^ k := by
   rw [hp, Nat.mod_mul]
   rw [Nat.mul_comm (256 ^ k)]
   omega
  have hpos : 0 < 256 ^ k := Nat.pow_pos (by decide)
  have e : (a * 256 + n / 256 ^ k % 256) * 256 ^ k + n % 256 ^ k = a * 256 ^ (k + 1) + n % 256 ^ (k + 1) := by
   rw [hm, hp, Nat.add_mul, Nat.mul_assoc, Nat.mul_comm 256 (256 ^ k)]
   omega
  have hlt : a * 256 + n / 256 ^ k % 256 < 18446744073709551616 := by
   have : (a * 256 + n / 256 ^ k % 256) * 1 ≤ (a * 256 + n / 256 ^ k % 256) * 256 ^ k := Nat.mul_le_mul_left _ hpos
   omega
  rw [beB, List.foldl_cons]
  have es : lowStep a (UInt8.ofNat (n / 256 ^ k)) = a * 256 + n / 256 ^ k % 256 := by
   unfold lowStep
   rw [hc, Nat.mod_eq_of_lt hlt]
  rw [es, beB_low k _ n (by omega) (by rw [e]; exact h), e]
theorem low_high {n : Nat} (h : n < 18446744073709551616) : lowB (beB 8 n) = n := by
 have h8 : (256 : Nat) ^ 8 = 18446744073709551616 := by decide
 have := beB_low 8 0 n (by decide) (by rw [h8]; omega)
 rw [h8] at this
 unfold lowB
 rw [this]
 omega
theorem sliceB_len {b : List UInt8} {i j : Nat} (h : j ≤ b.length) : (sliceB b i j).length = j - i := by unfold sliceB; simp; omega
theorem half_parts (a b : Nat) : sliceB (halfB a b) 8 16 = beB 8 a ∧ sliceB (halfB a b) 16 24 = beB 8 b := by
 have hm : magic.length = 8 := rfl
 constructor
 ·unfold sliceB halfB
  rw [← List.append_assoc, List.take_left' (by rw [List.length_append, hm, beB_len]), List.drop_left' hm]
 ·unfold sliceB halfB
  rw [List.take_of_length_le (by simp only [List.length_append, hm, beB_len]; omega), ← List.append_assoc, List.drop_left' (by rw [List.length_append, hm, beB_len])]
theorem slice_slice (b : List UInt8) (i j k m : Nat) (h : i + m ≤ j) : sliceB (sliceB b i j) k m = sliceB b (i + k) (i + m) := by
 unfold sliceB
 rw [List.take_drop, List.take_take, List.drop_drop, Nat.min_eq_left (by omega)]
/-- what a half says -/
theorem half_inj {a b c d : Nat} (ha : a < 18446744073709551616) (hb : b < 18446744073709551616) (hc : c < 18446744073709551616) (hd : d < 18446744073709551616) (h : halfB a b = halfB c d) : a = c ∧ b = d := by
 have h1 := (half_parts a b).1
 have h2 := (half_parts a b).2
 rw [h, (half_parts c d).1] at h1
 rw [h, (half_parts c d).2] at h2
 have e1 := congrArg lowB h1
 have e2 := congrArg lowB h2
 rw [low_high ha, low_high hc] at e1
 rw [low_high hb, low_high hd] at e2
 exact ⟨e1.symm, e2.symm⟩
/-- what is read of bytes whose first half is a head's -/
theorem right_of_half {b : List UInt8} {s n room : Nat} (h : sliceB b 0 24 = halfB s n) (hs : s < 18446744073709551616) (hn : n < 18446744073709551616) : lowB (sliceB b 8 16) = s ∧ lowB (sliceB b 16 24) = n := by
 have h1 : sliceB b 8 16 = sliceB (sliceB b 0 24) 8 16 := by rw [slice_slice _ _ _ _ _ (by decide)]
 have h2 : sliceB b 16 24 = sliceB (sliceB b 0 24) 16 24 := by rw [slice_slice _ _ _ _ _ (by decide)]
 rw [h1, h2, h, (half_parts s n).1, (half_parts s n).2, low_high hs, low_high hn]
 exact ⟨rfl, rfl⟩
theorem head_halves (s n : Nat) : sliceB (headB s n) 0 24 = halfB s n ∧ sliceB (headB s n) 24 48 = halfB n s := by
 constructor
 ·unfold sliceB headB
  rw [List.take_left' (halfB_len _ _), List.drop_zero]
 ·unfold sliceB headB
  rw [← List.append_assoc, List.take_left' (by rw [List.length_append, halfB_len, halfB_len]), List.drop_left' (halfB_len _ _)]
theorem right_head {s n room : Nat} (h1 : 1 ≤ s) (h2 : s ≤ last) (h3 : n ≤ room) (hr : room < 18446744073709551616) : right (headB s n) room = (s, n) := by
 have hl : last = 4611686018427387904 := rfl
 obtain ⟨a, b⟩ := head_halves s n
 obtain ⟨c, d⟩ := right_of_half (room := room) a (by omega) (by omega)
 unfold right
 simp only [c, d]
 rw [if_pos ⟨a, b, h1, h2, h3⟩]
/-- a block of which no half can be a head's that is as young -/
def El (s : Nat) (b : List UInt8) : Prop := ∀ x y, x < 18446744073709551616 → y < 18446744073709551616 → sliceB b 24 48 = halfB x y → y < s
theorem right_some {b : List UInt8} {room : Nat} : right b room = (0, 0) ∨ (sliceB b 0 24 = halfB (lowB (sliceB b 8 16)) (lowB (sliceB b 16 24)) ∧ sliceB b 24 48 = halfB (lowB (sliceB b 16 24)) (lowB (sliceB b 8 16)) ∧ right b room = (lowB (sliceB b 8 16), lowB (sliceB b 16 24))) := by
 unfold right
 simp only
 split
 ·rename_i h; exact .inr ⟨h.1, h.2.1, rfl⟩
 ·exact .inl rfl
theorem El.right {s : Nat} {b : List UInt8} {room : Nat} (h : El s b) (hs : 0 < s) : (right b room).1 < s := by
 rcases right_some (b := b) (room := room) with e | ⟨_, e2, e3⟩
 ·rw [e]; exact hs
 ·rw [e3]
  exact h _ _ (lowB_lt _) (lowB_lt _) e2
theorem El_zeros {s : Nat} {m : Nat} : El s (List.replicate m 0) := by
 intro x y _ _ h
 unfold sliceB halfB magic at h
 rw [List.take_replicate, List.drop_replicate] at h
 have h0 := congrArg (fun l : List UInt8 => l[0]?) h
 rw [List.getElem?_replicate] at h0
 split at h0 <;> simp at h0
theorem El_head {s s0 n0 : Nat} (h : s0 < s) (h1 : s0 < 18446744073709551616) (h2 : n0 < 18446744073709551616) : El s (headB s0 n0) := by
 intro x y hx hy e
 rw [(head_halves s0 n0).2] at e
 rw [← (half_inj h2 h1 hx hy e).2]
 exact h
/-- a head that is torn: it is another one's, or none, or the new one -/
theorem torn_head {s n t room : Nat} {b : List UInt8} (hb : El s b) (hl : b.length = 512) (ht : t ≤ 512) (hs : 0 < s) (hs2 : s + 1 < 18446744073709551616) (hn : n < 18446744073709551616) :
  (right ((headB (s + 1) n).take t ++ b.drop t) room).1 < s ∨ right ((headB (s + 1) n).take t ++ b.drop t) room = (s + 1, n) := by
 have hH := headB_len (s + 1) n
 have hmix : ∀ i j, t ≤ i → j ≤ 512 → sliceB ((headB (s + 1) n).take t ++ b.drop t) i j = sliceB b i j := by
  intro i j hi hj
  unfold sliceB
  rw [List.drop_take, List.drop_take, List.drop_append, List.length_take, hH, Nat.min_eq_left ht, List.drop_of_length_le (by rw [List.length_take, hH]; omega), List.nil_append, List.drop_drop]
  congr 2
  omega
 have hnew : ∀ i j, j ≤ t → sliceB ((headB (s + 1) n).take t ++ b.drop t) i j = sliceB (headB (s + 1) n) i j := by
  intro i j hj
  unfold sliceB
  rw [List.take_append_of_le_length (by rw [List.length_take, hH]; omega), List.take_take, Nat.min_eq_left hj]
 rcases right_some (b := (headB (s + 1) n).take t ++ b.drop t) (room := room) with e | ⟨e1, e2, e3⟩
 ·rw [e]; exact .inl hs
 by_cases h24 : 24 ≤ t
 ·right
  have h0 : sliceB ((headB (s + 1) n).take t ++ b.drop t) 0 24 = halfB (s + 1) n := by rw [hnew 0 24 h24]; exact (head_halves _ _).1
  obtain ⟨c, d⟩ := right_of_half (room := room) h0 hs2 hn
  rw [e3, c, d]
 ·left
  rw [e3]
  rw [hmix 24 48 (by omega) (by decide)] at e2
  exact hb _ _ (lowB_lt _) (lowB_lt _) e2
/-- which head counts -/
theorem headOf_eq {D : Dk} {frm room s n : Nat} (hs : 0 < s) (h1 : right (nowAt D (frm + s % 2)) room = (s, n)) (h2 : (right (nowAt D (frm + (s + 1) % 2)) room).1 < s) : headOf D frm room = (s, n) := by
 show headStep D frm room (headStep D frm room (0, 0) 0) 1 = _
 rcases Nat.mod_two_eq_zero_or_one s with e | e
 ·have e' : (s + 1) % 2 = 1 := by omega
  rw [e] at h1
  rw [e'] at h2
  have a : headStep D frm room (0, 0) 0 = (s, n) := by
   unfold headStep
   rw [h1]
   exact if_pos hs
  rw [a]
  unfold headStep
  exact if_neg (by simp only; omega)
 ·have e' : (s + 1) % 2 = 0 := by omega
  rw [e] at h1
  rw [e'] at h2
  have a : (headStep D frm room (0, 0) 0).1 < s := by
   unfold headStep
   split
   ·exact h2
   ·exact hs
  generalize headStep D frm room (0, 0) 0 = z at a
  unfold headStep
  rw [h1]
  exact if_pos a

/-! ### the bytes behind the heads -/
def DataP (D : Dk) (frm : Nat) (A : List UInt8) : Prop := ∀ j, 512 * j < A.length → (nowAt D (frm + 2 + j)).length = 512 ∧ (nowAt D (frm + 2 + j)).take (A.length - 512 * j) = (A.drop (512 * j)).take 512
theorem blocks_take {D : Dk} {frm : Nat} {A : List UInt8} (h : DataP D frm A) : ∀ k, 512 * k < A.length + 512 → (blocksOf D frm k).length = 512 * k ∧ (blocksOf D frm k).take A.length = A.take (512 * k)
 | 0, _ => ⟨rfl, by simp [blocksOf]⟩
 | k + 1, hk => by
  obtain ⟨h1, h2⟩ := blocks_take h k (by omega)
  obtain ⟨h3, h4⟩ := h k (by omega)
  rw [blocksOf_succ]
  refine ⟨by rw [List.length_append, h1, h3]; omega, ?_⟩
  rw [List.take_append, h1, h2, h4, Nat.mul_succ, List.take_add]
theorem data_of {D : Dk} {frm : Nat} {A : List UInt8} (h : DataP D frm A) : dataOf D frm A.length = A := by
 unfold dataOf
 rw [(blocks_take h _ (by omega)).2, List.take_of_length_le (by omega)]
end Go.Proofs.Ytagkcbbbdlmcjaa
end
section
/- What an adding leaves on the disk, wherever the power fails. No program here. -/
namespace Go.Proofs.Ytagkcbbbdlmcjaa
open Go.Lift Go.Lift.Disk Go.Lift.Crc Go.Lift.Wal Go.RowKit
theorem torn_le (f : Fall) : torn f ≤ 512 := by
 unfold torn mx mn
 split <;> split <;> omega
theorem mix_take {u v : List UInt8} {m t : Nat} (h : u.take m = v.take m) (hu : u.length = 512) (hv : v.length = 512) (ht : t ≤ 512) : (u.take t ++ v.drop t).take m = v.take m := by
 rcases Nat.le_total t m with htm | hmt
 ·have e1 : u.take t = v.take t := by
   have := congrArg (List.take t) h
   rw [List.take_take, List.take_take, Nat.min_eq_left htm] at this
   exact this
  rw [e1, List.take_append_drop]
 ·rw [List.take_append_of_le_length (by rw [List.length_take]; omega), List.take_take, Nat.min_eq_left hmt, h]
theorem crashStep_wf {f : Fall} {lst : Int} {l : List Bl} {k : Nat} {p : Nat × List UInt8} (h : WfB l) (hp : p.1 < l.length ∧ p.2.length = 512) : WfB (crashStep f lst l k p) := by
 have ht := torn_le f
 have hb := (bAt_len h hp.1).2
 unfold crashStep
 split
 ·exact setSure_wf h hp.1 hp.2
 ·split
  ·exact setSure_wf h hp.1 (by rw [List.length_append, List.length_take, List.length_drop]; omega)
  ·exact h
theorem crashStep_sure {f : Fall} {lst : Int} {l : List Bl} {k : Nat} {p : Nat × List UInt8} (h : WfB l) (hp : p.1 < l.length ∧ p.2.length = 512) :
  ∃ t, t ≤ 512 ∧ ∀ i, i < l.length → (bAt (crashStep f lst l k p) i).2 = if p.1 = i then p.2.take t ++ (bAt l i).2.drop t else (bAt l i).2 := by
 have ht := torn_le f
 have hb := (bAt_len h hp.1).2
 unfold crashStep
 split
 ·refine ⟨512, Nat.le_refl _, fun i hi => ?_⟩
  rw [bAt_setSure _ hi]
  by_cases e : p.1 = i
  ·subst e
   rw [if_pos rfl, if_pos rfl, List.take_of_length_le (by omega), List.drop_of_length_le (by omega), List.append_nil]
  ·rw [if_neg e, if_neg e]
 ·split
  ·refine ⟨torn f, ht, fun i hi => ?_⟩
   rw [bAt_setSure _ hi]
   by_cases e : p.1 = i
   ·subst e
    rw [if_pos rfl, if_pos rfl]
   ·rw [if_neg e, if_neg e]
  ·refine ⟨0, by omega, fun i hi => ?_⟩
   by_cases e : p.1 = i
   ·rw [if_pos e, List.take_zero, List.drop_zero, List.nil_append]
   ·rw [if_neg e]
theorem crashL_keeps (Q : Nat → List UInt8 → Prop) (f : Fall) (lst : Int) : ∀ (ps : List (Nat × List UInt8)) (k : Nat) (l : List Bl), WfB l → (∀ p ∈ ps, p.1 < l.length ∧ p.2.length = 512) →
  (∀ p ∈ ps, ∀ b t, Q p.1 b → b.length = 512 → t ≤ 512 → Q p.1 (p.2.take t ++ b.drop t)) → (∀ i, i < l.length → Q i (bAt l i).2) → WfB (crashL f lst k ps l) ∧ ∀ i, i < l.length → Q i (bAt (crashL f lst k ps l) i).2
 | [], k, l, hw, _, _, h => ⟨hw, h⟩
 | p :: ps, k, l, hw, hp, hq, h => by
  have hp0 := hp p (by simp)
  obtain ⟨t, ht, he⟩ := crashStep_sure (f := f) (lst := lst) (k := k) hw hp0
  have hl := crashStep_len f lst l k p
  have := crashL_keeps Q f lst ps (k + 1) (crashStep f lst l k p) (crashStep_wf hw hp0) (fun q hq => by rw [hl]; exact hp q (by simp [hq])) (fun q hq' => hq q (by simp [hq'])) (fun i hi => by
   rw [hl] at hi
   rw [he i hi]
   split
   ·rename_i e
    subst e
    exact hq p (by simp) _ t (h _ hi) (bAt_len hw hi).2 ht
   ·exact h i hi)
  rw [hl] at this
  exact this
/-- a disk behind a loss of power -/
theorem crash_keeps (Q : Nat → List UInt8 → Prop) {D : Dk} {n : Nat} (hd : D.down = false) (hn : D.bl.length = n) (hw : WfB D.bl) (hp : ∀ p ∈ D.pend, p.1 < n ∧ p.2.length = 512)
  (hq : ∀ p ∈ D.pend, ∀ b t, Q p.1 b → b.length = 512 → t ≤ 512 → Q p.1 (p.2.take t ++ b.drop t)) (h : ∀ i, i < n → Q i (bAt D.bl i).2) (f : Fall) :
  (D.crash f).down = true ∧ (D.crash f).bl.length = n ∧ (∀ i, i < n → Q i (nowAt (D.crash f) i) ∧ (nowAt (D.crash f) i).length = 512) := by
 subst hn
 rw [crash_up hd]
 obtain ⟨h1, h2⟩ := crashL_keeps Q f ((D.pend.length : Int) - 1) D.pend 0 D.bl hw hp hq h
 have hl := crashL_len' f ((D.pend.length : Int) - 1) D.pend 0 D.bl
 refine ⟨rfl, by show (List.map _ _).length = _; rw [List.length_map, hl], fun i hi => ?_⟩
 have e : nowAt { D with bl := (crashL f ((D.pend.length : Int) - 1) 0 D.pend D.bl).map fun p => (p.2, p.2), pend := [], down := true } i = (bAt (crashL f ((D.pend.length : Int) - 1) 0 D.pend D.bl) i).2 := by
  show (bAt (List.map _ _) i).1 = _
  rw [bAt_map (by rw [hl]; exact hi)]
 rw [e]
 exact ⟨h2 i hi, (bAt_len h1 (by rw [hl]; exact hi)).2⟩
/-- a change: it is done, or the power fails -/
theorem strike_cases (D : Dk) : D.strike = (Dk.tick D, 0) ∨ ∃ f, D.strike = ((Dk.tick D).crash f, 6) := by
 cases hf : D.falls.find? (fun f => f.1 == (D.changes : Int)) with
 | none => exact .inl (strike_none hf)
 | some f => exact .inr ⟨f, strike_some hf⟩
theorem write_strike {D : Dk} (hd : D.down = false) {i : Nat} (hi : i < D.bl.length) {b : List UInt8} (hb : b.length = 512) : D.write (i : Int) b = (D.put i b).strike := by
 have hw : D.why (i : Int) = 0 := by unfold Dk.why; rw [if_neg (by rw [hd]; simp), if_neg (by omega)]
 unfold Dk.write
 rw [if_neg (by rw [hw]; simp), if_neg (by omega), Int.toNat_natCast]
theorem flush_cases {D : Dk} (hd : D.down = false) : D.flush = (flushed D, 0) ∨ ∃ f, D.flush = ((Dk.tick D).crash f, 6) := by
 unfold Dk.flush
 rw [if_neg (by rw [hd]; simp)]
 rcases strike_cases D with e | ⟨f, e⟩
 ·left
  rw [e]
  simp only [ne_eq, not_true, if_false]
  rfl
 ·right
  refine ⟨f, ?_⟩
  rw [e]
  rfl
/-- what can be found: a head's number, and the bytes -/
structure Found (n frm room : Nat) (D : Dk) (s : Nat) (A : List UInt8) : Prop where
 len : D.bl.length = n
 pos : 0 < s
 head : headOf D frm room = (s, A.length)
 data : DataP D frm A
/-- the disk between two calls: all is sure -/
structure Rest (n frm room : Nat) (D : Dk) (L : Lg) : Prop where
 down : D.down = false
 len : D.bl.length = n
 wfb : WfB D.bl
 pend : D.pend = []
 same : ∀ i, i < n → (bAt D.bl i).2 = nowAt D i
 pos : 0 < L.seq
 old : L.seq ≤ last
 head : right (nowAt D (frm + L.seq % 2)) room = (L.seq, L.data.length)
 elder : El L.seq (nowAt D (frm + (L.seq + 1) % 2))
 data : DataP D frm L.data
 fit : frm * 512 + room + 1024 ≤ n * 512
 room : L.data.length ≤ room
theorem Rest.found {n frm room : Nat} {D : Dk} {L : Lg} (h : Rest n frm room D L) : Found n frm room D L.seq L.data :=
 ⟨h.len, h.pos, headOf_eq h.pos h.head (h.elder.right h.pos), h.data⟩
structure Lay (n frm i0 : Nat) (D : Dk) (A : List UInt8) (E : Dk) (i : Nat) : Prop where
 down : E.down = false
 len : E.bl.length = n
 wfb : WfB E.bl
 sure : ∀ k, k < n → (bAt E.bl k).2 = nowAt D k
 pend : ∀ p ∈ E.pend, ∃ j, i0 ≤ j ∧ frm + 2 + j < n ∧ j * 512 < A.length ∧ p = (frm + 2 + j, padB A j)
 now : ∀ k, k < n → nowAt E k = lastOf E.pend k (nowAt D k)
 laid : ∀ j, i0 ≤ j → j < i → frm + 2 + j < n → nowAt E (frm + 2 + j) = padB A j
 rest : ∀ k, k < n → (∀ j, i0 ≤ j → j < i → k ≠ frm + 2 + j) → nowAt E k = nowAt D k
theorem padB_take {A : List UInt8} {j : Nat} (h : j * 512 < A.length) : (padB A j).take (A.length - 512 * j) = (A.drop (512 * j)).take 512 := by
 unfold padB sliceB zeros
 rw [List.drop_take, Nat.mul_comm j 512, List.take_append, List.length_take, List.length_drop, List.take_replicate, List.take_take]
 have e : (512 * j + 512 - 512 * j) = 512 := by omega
 rw [e]
 have e2 : min (A.length - 512 * j - min 512 (A.length - 512 * j)) (512 - (A.length - 512 * j)) = 0 := by omega
 rw [e2, List.replicate_zero, List.append_nil]
 rcases Nat.le_total (A.length - 512 * j) 512 with h5 | h5
 ·rw [Nat.min_eq_left h5, List.take_of_length_le (by rw [List.length_drop]; exact Nat.le_refl _), List.take_of_length_le (by rw [List.length_drop]; exact h5)]
 ·rw [Nat.min_eq_right h5]
theorem DataP.front {D : Dk} {frm : Nat} {B x : List UInt8} (h : DataP D frm (B ++ x)) : DataP D frm B := by
 intro j hj
 obtain ⟨h1, h2⟩ := h j (by rw [List.length_append]; omega)
 refine ⟨h1, ?_⟩
 have := congrArg (List.take (B.length - 512 * j)) h2
 rw [List.take_take, List.take_take, List.length_append, Nat.min_eq_left (by omega), List.drop_append_of_le_length (by omega)] at this
 rw [this]
 rcases Nat.le_total (B.length - 512 * j) 512 with h5 | h5
 ·rw [Nat.min_eq_left h5, List.take_append_of_le_length (by rw [List.length_drop]; exact Nat.le_refl _), List.take_of_length_le (by rw [List.length_drop]; exact Nat.le_refl _), List.take_of_length_le (by rw [List.length_drop]; exact h5)]
 ·rw [Nat.min_eq_right h5, List.take_append_of_le_length (by rw [List.length_drop]; exact h5)]
section
variable {n frm room : Nat} {D : Dk} {L : Lg} {x : List UInt8}
/-- the power fails while blocks are laid: what was there is there -/
theorem lay_crash (h : Rest n frm room D L) {A : List UInt8} (hA : A = L.data ++ x) {E : Dk} {i : Nat} (hl : Lay n frm (L.data.length / 512) D A E i) (f : Fall) :
  (E.crash f).down = true ∧ Found n frm room (E.crash f) L.seq L.data := by
 have hAl : L.data.length ≤ A.length := by rw [hA, List.length_append]; omega
 obtain ⟨c1, c2, c3⟩ := crash_keeps (fun k b => b = nowAt D k ∨ ∃ j, L.data.length / 512 ≤ j ∧ k = frm + 2 + j ∧ (512 * j < L.data.length → b.take (L.data.length - 512 * j) = (nowAt D k).take (L.data.length - 512 * j)))
  hl.down hl.len hl.wfb (fun p hp => by
   obtain ⟨j, h1, h2, h3, rfl⟩ := hl.pend p hp
   exact ⟨h2, padB_len A j h3⟩) (fun p hp b t hb hbl ht => by
   obtain ⟨j, h1, h2, h3, rfl⟩ := hl.pend p hp
   simp only at hb ⊢
   refine .inr ⟨j, h1, rfl, fun hj => ?_⟩
   obtain ⟨d1, d2⟩ := h.data j hj
   have hbt : b.take (L.data.length - 512 * j) = (nowAt D (frm + 2 + j)).take (L.data.length - 512 * j) := by
    rcases hb with rfl | ⟨j', q1, q2, q3⟩
    ·rfl
    ·obtain rfl : j' = j := by omega
     exact q3 hj
   have hpt : (padB A j).take (L.data.length - 512 * j) = b.take (L.data.length - 512 * j) := by
    rw [hbt, d2]
    have := congrArg (List.take (L.data.length - 512 * j)) (padB_take h3)
    rw [List.take_take, List.take_take, Nat.min_eq_left (by omega)] at this
    rw [this, hA, List.drop_append_of_le_length (by omega), List.take_append_of_le_length (by rw [List.length_drop]; omega)]
    have hm : L.data.length - 512 * j ≤ 512 := by omega
    rw [Nat.min_eq_left hm, List.take_of_length_le (by rw [List.length_drop]; exact Nat.le_refl _), List.take_of_length_le (by rw [List.length_drop]; exact hm)]
   rw [mix_take hpt (padB_len A j h3) hbl ht, hbt]) (fun k hk => .inl (hl.sure k hk)) f
 have hfit := h.fit
 have hro := h.room
 have hk0 : ∀ k, k < frm + 2 → nowAt (E.crash f) k = nowAt D k := by
  intro k hk
  rcases (c3 k (by omega)).1 with e | ⟨j, _, e, _⟩
  ·exact e
  ·omega
 refine ⟨c1, c2, h.pos, headOf_eq h.pos (by rw [hk0 _ (by omega)]; exact h.head) (by rw [hk0 _ (by omega)]; exact h.elder.right h.pos), fun j hj => ?_⟩
 obtain ⟨d1, d2⟩ := h.data j hj
 obtain ⟨q, ql⟩ := c3 (frm + 2 + j) (by omega)
 refine ⟨ql, ?_⟩
 rcases q with e | ⟨j', _, e, q3⟩
 ·rw [e]; exact d2
 ·obtain rfl : j' = j := by omega
  rw [q3 hj]; exact d2
theorem lay_next {A : List UInt8} {i0 : Nat} {E : Dk} {i : Nat} (hl : Lay n frm i0 D A E i) (h0 : i0 ≤ i) (hi : frm + 2 + i < n) (hA : i * 512 < A.length) : Lay n frm i0 D A (Dk.tick (E.put (frm + 2 + i) (padB A i))) (i + 1) := by
 have hin : frm + 2 + i < E.bl.length := by rw [hl.len]; exact hi
 have hnow : ∀ k, k < n → nowAt (Dk.tick (E.put (frm + 2 + i) (padB A i))) k = if frm + 2 + i = k then padB A i else nowAt E k := by
  intro k hk
  show (bAt (setNow E.bl _ _) k).1 = _
  rw [bAt_setNow _ (by rw [hl.len]; exact hk)]
  split <;> rfl
 refine ⟨hl.down, (setNow_len _ _ _).trans hl.len, setNow_wf hl.wfb hin (padB_len A i hA), fun k hk => ?_, fun p hp => ?_, fun k hk => ?_, fun j h1 h2 h3 => ?_, fun k hk hne => ?_⟩
 ·show (bAt (setNow E.bl _ _) k).2 = _
  rw [bAt_setNow _ (by rw [hl.len]; exact hk), ← hl.sure k hk]
  split <;> rfl
 ·rcases List.mem_append.1 (show p ∈ E.pend ++ [(frm + 2 + i, padB A i)] from hp) with hp | hp
  ·exact hl.pend p hp
  ·exact ⟨i, h0, hi, hA, List.mem_singleton.1 hp⟩
 ·rw [hnow k hk]
  show _ = lastOf (E.pend ++ [(frm + 2 + i, padB A i)]) k _
  rw [lastOf_append, hl.now k hk]
 ·rw [hnow _ h3]
  by_cases e : frm + 2 + i = frm + 2 + j
  ·rw [if_pos e]
   obtain rfl : i = j := by omega
   rfl
  ·rw [if_neg e]
   exact hl.laid j h1 (by omega) h3
 ·rw [hnow k hk, if_neg (fun e => hne i h0 (by omega) e.symm)]
  exact hl.rest k hk fun j h1 h2 => hne j h1 (by omega)
theorem lay_all (h : Rest n frm room D L) {A : List UInt8} (hA : A = L.data ++ x) (hr : A.length ≤ room) : ∀ (f : Nat) (E : Dk) (i : Nat), Lay n frm (L.data.length / 512) D A E i → L.data.length / 512 ≤ i → A.length < (i + f) * 512 →
  (∃ E' i', layF f E frm A i = (E', 0) ∧ Lay n frm (L.data.length / 512) D A E' i' ∧ A.length ≤ i' * 512) ∨ ∃ E', layF f E frm A i = (E', 6) ∧ E'.down = true ∧ Found n frm room E' L.seq L.data := by
 have hfit := h.fit
 intro f
 induction f with
 | zero => exact fun E i hl h0 hf => .inl ⟨E, i, rfl, hl, Nat.le_of_lt hf⟩
 | succ f ih =>
  intro E i hl h0 hf
  unfold layF
  split
  ·rename_i hle
   exact .inl ⟨E, i, rfl, hl, hle⟩
  ·rename_i hlt
   have hlt : i * 512 < A.length := Nat.lt_of_not_le hlt
   have hi : frm + 2 + i < n := by clear hf; omega
   have hn := lay_next hl h0 hi hlt
   rw [write_strike hl.down (by rw [hl.len]; exact hi) (padB_len A i hlt)]
   rcases strike_cases (E.put (frm + 2 + i) (padB A i)) with e | ⟨fl, e⟩
   ·rw [e]
    simp only [if_true]
    exact ih _ (i + 1) hn (Nat.le_succ_of_le h0) (by rw [Nat.add_assoc, Nat.add_comm 1 f]; exact hf)
   ·rw [e]
    right
    refine ⟨(Dk.tick (E.put (frm + 2 + i) (padB A i))).crash fl, ?_, lay_crash h hA hn fl⟩
    simp
/-- all that was laid is made sure -/
theorem lay_flushed (h : Rest n frm room D L) {A : List UInt8} (hA : A = L.data ++ x) {E : Dk} {i : Nat} (hl : Lay n frm (L.data.length / 512) D A E i) (hi : A.length ≤ i * 512) (hr : A.length ≤ room) :
  Rest n frm room (flushed E) L ∧ DataP (flushed E) frm A := by
 have hfit := h.fit
 have hAl : L.data.length ≤ A.length := by rw [hA, List.length_append]; omega
 have hat : ∀ k, k < n → bAt (flushed E).bl k = (nowAt E k, nowAt E k) := by
  intro k hk
  show bAt (flushL E.bl E.pend) k = _
  rw [flushL_at _ _ _ (by rw [hl.len]; exact hk), hl.sure k hk, ← hl.now k hk]
  rfl
 have hnow : ∀ k, k < n → nowAt (flushed E) k = nowAt E k := fun k hk => by unfold nowAt; rw [hat k hk]; rfl
 have hlen : (flushed E).bl.length = n := (flushL_len' _ _).trans hl.len
 have hnl : ∀ k, k < n → (nowAt E k).length = 512 := fun k hk => (bAt_len hl.wfb (by rw [hl.len]; exact hk)).1
 have hwf : WfB (flushed E).bl := by
  intro p hp
  obtain ⟨k, hk, e⟩ := List.getElem_of_mem hp
  have := hat k (by rw [← hlen]; exact hk)
  rw [bAt_lt hk] at this
  rw [← e, this]
  exact ⟨hnl k (by rw [← hlen]; exact hk), hnl k (by rw [← hlen]; exact hk)⟩
 have hk0 : ∀ k, k < frm + 2 → nowAt (flushed E) k = nowAt D k := fun k hk => by
  rw [hnow k (by omega)]
  exact hl.rest k (by omega) fun j _ _ => by omega
 have hD : DataP (flushed E) frm A := by
  intro j hj
  have hjn : frm + 2 + j < n := by omega
  rw [hnow _ hjn]
  refine ⟨hnl _ hjn, ?_⟩
  by_cases hj0 : L.data.length / 512 ≤ j
  ·rw [hl.laid j hj0 (by omega) hjn]
   exact padB_take (by omega)
  ·rw [hl.rest _ hjn fun j' h1 h2 e => by omega]
   obtain ⟨d1, d2⟩ := h.data j (by omega)
   have h5 : 512 * j + 512 ≤ L.data.length := by omega
   rw [List.take_of_length_le (by omega)]
   rw [List.take_of_length_le (by omega)] at d2
   rw [d2, hA, List.drop_append_of_le_length (by omega), List.take_append_of_le_length (by rw [List.length_drop]; omega)]
 refine ⟨⟨hl.down, hlen, hwf, rfl, fun k hk => ?_, h.pos, h.old, by rw [hk0 _ (by omega)]; exact h.head, by rw [hk0 _ (by omega)]; exact h.elder, ?_, h.fit, h.room⟩, hD⟩
 ·unfold nowAt; rw [hat k hk]
 ·rw [hA] at hD
  exact hD.front
/-- the head that is written -/
theorem head_all (h : Rest n frm room D L) {A : List UInt8} (hA : A = L.data ++ x) (hD : DataP D frm A) (hr : A.length ≤ room) (hs : L.seq < last) (c : Nat) (hroom : room < 18446744073709551616) :
  (∃ D', headW D frm (L.seq + 1) A.length = (D', 0) ∧ Rest n frm room D' ⟨L.seq + 1, A, c, false⟩) ∨ ∃ D', headW D frm (L.seq + 1) A.length = (D', 6) ∧ D'.down = true ∧ (Found n frm room D' L.seq L.data ∨ Found n frm room D' (L.seq + 1) A) := by
 have hfit := h.fit
 have hpos := h.pos
 have hll : last = 4611686018427387904 := rfl
 obtain ⟨b, hb⟩ : ∃ b, b = frm + (L.seq + 1) % 2 := ⟨_, rfl⟩
 obtain ⟨H, hH⟩ : ∃ H, H = headB (L.seq + 1) A.length := ⟨_, rfl⟩
 have hHl : H.length = 512 := by rw [hH]; exact headB_len _ _
 have hbn : b < n := by omega
 have hne : frm + L.seq % 2 ≠ b := by omega
 have hbl : (nowAt D b).length = 512 := (bAt_len h.wfb (by rw [h.len]; exact hbn)).1
 obtain ⟨E, hE⟩ : ∃ E, E = Dk.tick (D.put b H) := ⟨_, rfl⟩
 have hEd : E.down = false := by rw [hE]; exact h.down
 have hEl : E.bl.length = n := by rw [hE]; exact (setNow_len _ _ _).trans h.len
 have hEw : WfB E.bl := by rw [hE]; exact setNow_wf h.wfb (by rw [h.len]; exact hbn) hHl
 have hEp : E.pend = [(b, H)] := by
  rw [hE]
  show D.pend ++ [(b, H)] = _
  rw [h.pend]; rfl
 have hEs : ∀ k, k < n → (bAt E.bl k).2 = nowAt D k := by
  intro k hk
  rw [hE, ← h.same k hk]
  show (bAt (setNow D.bl _ _) k).2 = _
  rw [bAt_setNow _ (by rw [h.len]; exact hk)]
  split <;> rfl
 -- the power fails
 have fall : ∀ (G : Dk) (f : Fall), G.bl = E.bl → G.pend = E.pend → G.down = false → (G.crash f).down = true ∧ (Found n frm room (G.crash f) L.seq L.data ∨ Found n frm room (G.crash f) (L.seq + 1) A) := by
  intro G f g1 g2 g3
  rw [crash_up g3, g1, g2, hEp]
  have e1 : ∀ lst, crashL f lst 0 [(b, H)] E.bl = crashStep f lst E.bl 0 (b, H) := fun _ => rfl
  rw [e1]
  obtain ⟨t, ht, hst⟩ := crashStep_sure (f := f) (lst := (([(b, H)] : List (Nat × List UInt8)).length : Int) - 1) (k := 0) (p := (b, H)) hEw ⟨by rw [hEl]; exact hbn, hHl⟩
  have hwf := crashStep_wf (f := f) (lst := (([(b, H)] : List (Nat × List UInt8)).length : Int) - 1) (k := 0) (p := (b, H)) hEw ⟨by rw [hEl]; exact hbn, hHl⟩
  have hcl := crashStep_len f ((([(b, H)] : List (Nat × List UInt8)).length : Int) - 1) E.bl 0 (b, H)
  generalize crashStep f ((([(b, H)] : List (Nat × List UInt8)).length : Int) - 1) E.bl 0 (b, H) = l at hst hwf hcl
  rw [hEl] at hcl hst
  refine ⟨rfl, ?_⟩
  have hnow : ∀ k, k < n → nowAt ({ G with bl := l.map fun p => (p.2, p.2), pend := [], down := true } : Dk) k = if b = k then H.take t ++ (nowAt D k).drop t else nowAt D k := by
   intro k hk
   show (bAt (List.map _ _) k).1 = _
   rw [bAt_map (by rw [hcl]; exact hk)]
   show (bAt l k).2 = _
   rw [hst k hk, hEs k hk]
  have hnl : ∀ k, k < n → (nowAt ({ G with bl := l.map fun p => (p.2, p.2), pend := [], down := true } : Dk) k).length = 512 := by
   intro k hk
   show (bAt (List.map _ _) k).1.length = _
   rw [bAt_map (by rw [hcl]; exact hk)]
   exact (bAt_len hwf (by rw [hcl]; exact hk)).2
  have hlen : ({ G with bl := l.map fun p => (p.2, p.2), pend := [], down := true } : Dk).bl.length = n := by show (List.map _ _).length = _; rw [List.length_map, hcl]
  generalize ({ G with bl := l.map fun p => (p.2, p.2), pend := [], down := true } : Dk) = C at hnow hnl hlen
  have hdat : ∀ B, DataP D frm B → B.length ≤ room → DataP C frm B := by
   intro B hB hBr j hj
   have hjn : frm + 2 + j < n := by omega
   refine ⟨hnl _ hjn, ?_⟩
   rw [hnow _ hjn, if_neg (by omega)]
   exact (hB j hj).2
  have hcur : right (nowAt C (frm + L.seq % 2)) room = (L.seq, L.data.length) := by
   rw [hnow _ (by omega), if_neg (fun e => hne e.symm)]
   exact h.head
  have hoth : (right (nowAt C b) room).1 < L.seq ∨ right (nowAt C b) room = (L.seq + 1, A.length) := by
   rw [hnow b hbn, if_pos rfl, hH]
   exact torn_head (by rw [hb]; exact h.elder) hbl ht hpos (by have := h.old; omega) (by omega)
  rcases hoth with ho | ho
  ·exact .inl ⟨hlen, hpos, headOf_eq hpos hcur (by rw [← hb]; exact ho), hdat _ h.data h.room⟩
  ·refine .inr ⟨hlen, by omega, headOf_eq (by omega) (by rw [← hb]; exact ho) ?_, hdat _ hD hr⟩
   have e2 : (L.seq + 1 + 1) % 2 = L.seq % 2 := by omega
   rw [e2, hcur]
   exact Nat.lt_succ_self _
 have hcast : ((frm + (L.seq + 1) % 2 : Nat) : Int) = (b : Int) := by rw [hb]
 unfold headW
 rw [hcast, ← hH, write_strike h.down (by rw [h.len]; exact hbn) hHl]
 rcases strike_cases (D.put b H) with e | ⟨f, e⟩
 ·rw [e]
  simp only [if_true]
  rw [← hE]
  rcases flush_cases hEd with e2 | ⟨f, e2⟩
  ·left
   refine ⟨flushed E, e2, ?_⟩
   have hat : ∀ k, k < n → (bAt (flushed E).bl k).1 = (if b = k then H else nowAt D k) ∧ (bAt (flushed E).bl k).2 = (if b = k then H else nowAt D k) := by
    intro k hk
    have : bAt (flushed E).bl k = ((bAt E.bl k).1, lastOf E.pend k (bAt E.bl k).2) := flushL_at _ _ _ (by rw [hEl]; exact hk)
    rw [this, hEp, hEs k hk]
    refine ⟨?_, ?_⟩
    ·rw [hE]
     show (bAt (setNow D.bl _ _) k).1 = _
     rw [bAt_setNow _ (by rw [h.len]; exact hk)]
     split <;> rfl
    ·rfl
   have hnow : ∀ k, k < n → nowAt (flushed E) k = (if b = k then H else nowAt D k) := fun k hk => (hat k hk).1
   have hlen : (flushed E).bl.length = n := (flushL_len' _ _).trans hEl
   have hnl : ∀ k, k < n → (if b = k then H else nowAt D k).length = 512 := by
    intro k hk
    split
    ·exact hHl
    ·exact (bAt_len h.wfb (by rw [h.len]; exact hk)).1
   refine ⟨hEd, hlen, ?_, rfl, fun k hk => ?_, by show 0 < L.seq + 1; omega, by show L.seq + 1 ≤ last; omega, ?_, ?_, ?_, h.fit, hr⟩
   ·intro p hp
    obtain ⟨k, hk, e⟩ := List.getElem_of_mem hp
    have hkn : k < n := by rw [← hlen]; exact hk
    obtain ⟨a1, a2⟩ := hat k hkn
    rw [bAt_lt hk, e] at a1 a2
    rw [a1, a2]
    exact ⟨hnl k hkn, hnl k hkn⟩
   ·rw [(hat k hk).2, hnow k hk]
   ·show right (nowAt (flushed E) (frm + (L.seq + 1) % 2)) room = (L.seq + 1, A.length)
    rw [← hb, hnow b hbn, if_pos rfl, hH]
    exact right_head (by omega) (by omega) hr hroom
   ·show El (L.seq + 1) (nowAt (flushed E) (frm + (L.seq + 1 + 1) % 2))
    have e3 : (L.seq + 1 + 1) % 2 = L.seq % 2 := by omega
    rw [e3, hnow _ (by omega), if_neg (fun e => hne e.symm)]
    intro x y hx hy he
    rcases right_some (b := nowAt D (frm + L.seq % 2)) (room := room) with r | ⟨_, r2, r3⟩
    ·rw [h.head] at r
     simp only [Prod.mk.injEq] at r
     omega
    ·rw [he] at r2
     rw [h.head] at r3
     simp only [Prod.mk.injEq] at r3
     have := half_inj hx hy (lowB_lt _) (lowB_lt _) r2
     rw [← r3.1] at this
     omega
   ·intro j hj
    have hjn : frm + 2 + j < n := by
     have hj' : 512 * j < A.length := hj
     omega
    rw [hnow _ hjn, if_neg (by omega)]
    exact hD j hj
  ·right
   exact ⟨(Dk.tick E).crash f, e2, fall (Dk.tick E) f rfl rfl hEd⟩
 ·right
  refine ⟨(Dk.tick (D.put b H)).crash f, ?_, ?_⟩
  ·rw [e]
   simp
  ·rw [← hE]
   exact fall E f rfl rfl hEd
/-- what an adding leaves: all is done, or the power failed, and what is found is what was there, or all -/
theorem add_falls (h : Rest n frm room D L) {A : List UInt8} (hA : A = L.data ++ x) (hr : A.length ≤ room) (hs : L.seq < last) (c : Nat) (hroom : room < 18446744073709551616) :
  (∃ D', addHead (layF (A.length / 512 + 1) D frm A (L.data.length / 512)) frm (L.seq + 1) A.length = (D', 0) ∧ Rest n frm room D' ⟨L.seq + 1, A, c, false⟩) ∨
   ∃ D', addHead (layF (A.length / 512 + 1) D frm A (L.data.length / 512)) frm (L.seq + 1) A.length = (D', 6) ∧ D'.down = true ∧ (Found n frm room D' L.seq L.data ∨ Found n frm room D' (L.seq + 1) A) := by
 have hAl : L.data.length ≤ A.length := by rw [hA, List.length_append]; omega
 have h0 : Lay n frm (L.data.length / 512) D A D (L.data.length / 512) := by
  refine ⟨h.down, h.len, h.wfb, h.same, ?_, fun k hk => ?_, fun j h1 h2 => by omega, fun k hk _ => rfl⟩
  ·intro p hp
   rw [h.pend] at hp
   cases hp
  ·rw [h.pend]; rfl
 rcases lay_all h hA hr (A.length / 512 + 1) D (L.data.length / 512) h0 (Nat.le_refl _) (by omega) with ⟨E, i, e, hl, hi⟩ | ⟨E, e, hd, hf⟩
 ·rw [e]
  unfold addHead
  simp only [ne_eq, not_true, if_false]
  rcases flush_cases hl.down with e2 | ⟨f, e2⟩
  ·obtain ⟨hR, hDA⟩ := lay_flushed h hA hl hi hr
   rw [e2]
   simp only [not_true, if_false]
   exact head_all hR hA hDA hr hs c hroom
  ·right
   rw [e2]
   have := lay_crash h hA (E := Dk.tick E) (i := i) ⟨hl.down, hl.len, hl.wfb, hl.sure, hl.pend, hl.now, hl.laid, hl.rest⟩ f
   exact ⟨(Dk.tick E).crash f, by simp, this.1, .inl this.2⟩
 ·right
  rw [e]
  refine ⟨E, ?_, hd, .inl hf⟩
  unfold addHead
  simp
end
end Go.Proofs.Ytagkcbbbdlmcjaa
end
section
/- The typed readings of the functions, and that the program meets each: written by gen.py (a program of this session). -/
namespace Go.Proofs.Ytagkcbbbdlmcjaa
open Go.Lift
set_option maxRecDepth 100000 in
set_option maxHeartbeats 4000000 in
theorem s44_calls (K : Sl → World → Prop) (p0 : Sl) (w : World) (h : s44 K p0 w) :
  Calls Try.prog 44 #[Sl.v p0] w (Ret r44 K) := by
 unfold s44 at h
 refine calls_of_CW (n := 19) Try.func44 rfl rfl rfl ?_
 refine CW.seq ?_
 refine CW.region ?_
 refine RL.opS trivial rfl (OpW.assign (v := Sl.v nilSl) rfl ?_)
 refine RL.nil ?_
 refine CW.seq ?_
 refine CW.region ?_
 refine RL.opS trivial rfl (OpW.assign (v := Sl.v nilSl) rfl ?_)
 refine RL.nil ?_
 refine CW.seq ?_
 refine CW.seq ?_
 refine CW.region ?_
 refine RL.opS trivial rfl (OpW.move (v := Sl.v p0) rfl ?_)
 refine RL.opS trivial rfl (OpW.len (s := p0) slice_22 rfl ?_)
 refine RL.opS trivial rfl (OpW.move (v := .int .i64 0) rfl ?_)
 refine RL.nil ?_
 refine CW.block ?_
 obtain ⟨I17, mu18, hI, hs⟩ := h
 refine CW.loop (σ := Sl × Int) (fun s1 ρ => ρ 3 = Sl.v s1.1 ∧ ρ 8 = .int .i64 s1.2 ∧ ρ 6 = Sl.v p0 ∧ ρ 7 = .int .i64 (p0.len : Int)) I17 mu18 (nilSl, 0) ⟨rfl, rfl, rfl, rfl⟩ hI ?_
 rintro s1 ρ w2 ⟨e4, e5, e6, e7⟩ hI
 have h := hs s1 w2 hI
 clear hs hI
 refine CW.seq ?_
 refine CW.region ?_
 refine RL.opS trivial rfl (OpW.bin (k := .i64) (a := s1.2) (b := (p0.len : Int)) (v := .bool (decide (s1.2 < (p0.len : Int)))) e5 e7 rfl ?_)
 refine RL.nil ?_
 refine CW.seq ?_
 obtain ⟨ha, hc⟩ := h
 refine CW.cond (b := (decide (s1.2 < (p0.len : Int)))) rfl (fun hb8 => ?_) (fun hb8 => ?_)
 ·have h := ha hb8; clear ha hc
  refine CW.skip ?_
  refine CW.seq ?_
  refine CW.block ?_
  refine CW.seq ?_
  refine CW.region ?_
  obtain ⟨a9_, a9, h1, h2, h3, h4, h⟩ := h
  refine RL.opS trivial rfl (OpW.indexE (a' := a9) slice_22 e6 e5 h1 h2 h3 h4 ?_)
  obtain ⟨x11, h1, h⟩ := h
  refine RL.opS trivial rfl (OpW.load1 (v := Sl.v x11) one_39 rfl h1 ?_)
  refine RL.opS trivial rfl (OpW.assign (v := Sl.v x11) rfl ?_)
  refine RL.nil ?_
  refine CW.region ?_
  refine RL.opS trivial rfl (OpW.move (v := Sl.v s1.1) e4 ?_)
  refine RL.opS trivial rfl (OpW.move (v := Sl.v x11) rfl ?_)
  obtain ⟨x12, h1, h2, h⟩ := h
  refine RL.opS trivial rfl (OpW.b2s bsl_39 str_9 rfl h1 h2 ?_)
  obtain ⟨b13, hb13_⟩ : ∃ b_, b_ = w2.heap.size := ⟨_, rfl⟩
  obtain ⟨w14, hw14_⟩ : ∃ w_, w_ = w2.alloc (.cells (List.toArray [str x12]) 9) := ⟨_, rfl⟩
  have h := h b13 w14 hb13_ hw14_
  refine RL.opS trivial rfl (OpW.buildSliceE (vs := [(0, str x12)]) (cs := [str x12]) (by rfl) (by kernel_rfl) hb13_ hw14_ ?_)
  obtain ⟨x15, w16, hr_, h⟩ := h
  refine RL.opS trivial rfl (OpW.appendL (v := Sl.v x15) rfl hr_ ?_)
  refine RL.opS trivial rfl (OpW.assign (v := Sl.v x15) rfl ?_)
  refine RL.nil ?_
  refine CW.region ?_
  refine RL.opS trivial rfl (OpW.bin (k := .i64) (a := s1.2) (b := 1) (v := .int .i64 (IntKind.i64.wrap (s1.2 + 1))) e5 rfl rfl ?_)
  refine RL.opS trivial rfl (OpW.move (v := .int .i64 (IntKind.i64.wrap (s1.2 + 1))) rfl ?_)
  refine RL.nil ?_
  exact ⟨(x15, (IntKind.i64.wrap (s1.2 + 1))), ⟨rfl, rfl, e6, e7⟩, h⟩
 ·have h := hc hb8; clear ha hc
  refine CW.exit ?_
  refine CW.seq ?_
  refine CW.region ?_
  refine RL.opS trivial rfl (OpW.move (v := Sl.v s1.1) e4 ?_)
  refine RL.opS trivial rfl (OpW.assign (v := Sl.v s1.1) rfl ?_)
  refine RL.nil ?_
  refine CW.ret ?_
  exact ret_intro (res1 rfl rfl) ⟨s1.1, rfl, h⟩
end Go.Proofs.Ytagkcbbbdlmcjaa
end
section
/- The typed readings of the functions, and that the program meets each: written by gen.py (a program of this session). -/
namespace Go.Proofs.Ytagkcbbbdlmcjaa
open Go.Lift
set_option maxRecDepth 100000 in
set_option maxHeartbeats 4000000 in
theorem s45_calls (K : Bool → World → Prop) (p0 : Sl) (p1 : Sl) (w : World) (h : s45 K p0 p1 w) :
  Calls Try.prog 45 #[Sl.v p0, Sl.v p1] w (Ret r45 K) := by
 unfold s45 at h
 refine calls_of_CW (n := 27) Try.func45 rfl rfl rfl ?_
 refine CW.seq ?_
 refine CW.region ?_
 refine RL.opS trivial rfl (OpW.assign (v := .bool false) rfl ?_)
 refine RL.nil ?_
 refine CW.seq ?_
 refine CW.seq ?_
 refine CW.region ?_
 refine RL.opS trivial rfl (OpW.move (v := Sl.v p0) rfl ?_)
 refine RL.opS trivial rfl (OpW.len (s := p0) slice_22 rfl ?_)
 refine RL.opS trivial rfl (OpW.move (v := Sl.v p1) rfl ?_)
 refine RL.opS trivial rfl (OpW.len (s := p1) slice_45 rfl ?_)
 refine RL.opS trivial rfl (OpW.bin (k := .i64) (a := (p0.len : Int)) (b := (p1.len : Int)) (v := .bool (!decide ((p0.len : Int) = (p1.len : Int)))) rfl rfl rfl ?_)
 refine RL.nil ?_
 obtain ⟨ha, hc⟩ := h
 refine CW.cond (b := (!decide ((p0.len : Int) = (p1.len : Int)))) rfl (fun hb1 => ?_) (fun hb1 => ?_)
 ·have h := ha hb1; clear ha hc
  refine CW.seq ?_
  refine CW.region ?_
  refine RL.opS trivial rfl (OpW.assign (v := .bool false) rfl ?_)
  refine RL.nil ?_
  refine CW.ret ?_
  exact ret_intro (res1 rfl rfl) ⟨false, rfl, h⟩
 ·have h := hc hb1; clear ha hc
  refine CW.skip ?_
  refine CW.seq ?_
  refine CW.seq ?_
  refine CW.region ?_
  refine RL.opS trivial rfl (OpW.move (v := Sl.v p1) rfl ?_)
  refine RL.opS trivial rfl (OpW.len (s := p1) slice_45 rfl ?_)
  refine RL.opS trivial rfl (OpW.move (v := .int .i64 0) rfl ?_)
  refine RL.nil ?_
  refine CW.block ?_
  obtain ⟨I18, mu19, hI, hs⟩ := h
  refine CW.loop (σ := Int) (fun s2 ρ => ρ 14 = .int .i64 s2 ∧ ρ 0 = Sl.v p0 ∧ ρ 12 = Sl.v p1 ∧ ρ 13 = .int .i64 (p1.len : Int)) I18 mu19 0 ⟨rfl, rfl, rfl, rfl⟩ hI ?_
  rintro s2 ρ w3 ⟨e5, e6, e7, e8⟩ hI
  have h := hs s2 w3 hI
  clear hs hI
  refine CW.seq ?_
  refine CW.region ?_
  refine RL.opS trivial rfl (OpW.bin (k := .i64) (a := s2) (b := (p1.len : Int)) (v := .bool (decide (s2 < (p1.len : Int)))) e5 e8 rfl ?_)
  refine RL.nil ?_
  refine CW.seq ?_
  obtain ⟨ha, hc⟩ := h
  refine CW.cond (b := (decide (s2 < (p1.len : Int)))) rfl (fun hb9 => ?_) (fun hb9 => ?_)
  ·have h := ha hb9; clear ha hc
   refine CW.skip ?_
   refine CW.seq ?_
   refine CW.block ?_
   refine CW.seq ?_
   refine CW.region ?_
   refine RL.opS trivial rfl (OpW.move (v := .int .i64 s2) e5 ?_)
   obtain ⟨a10_, a10, h1, h2, h3, h4, h⟩ := h
   refine RL.opS trivial rfl (OpW.indexE (a' := a10) slice_45 e7 e5 h1 h2 h3 h4 ?_)
   obtain ⟨x12, h1, h⟩ := h
   refine RL.opS trivial rfl (OpW.load1 (v := str x12) one_9 rfl h1 ?_)
   refine RL.opS trivial rfl (OpW.assign (v := .int .i64 s2) rfl ?_)
   refine RL.opS trivial rfl (OpW.assign (v := str x12) rfl ?_)
   refine RL.nil ?_
   refine CW.seq ?_
   refine CW.region ?_
   refine RL.opS trivial rfl (OpW.move (v := Sl.v p0) e6 ?_)
   refine RL.opS trivial rfl (OpW.move (v := .int .i64 s2) rfl ?_)
   obtain ⟨a13_, a13, h1, h2, h3, h4, h⟩ := h
   refine RL.opS trivial rfl (OpW.indexE (a' := a13) slice_22 rfl rfl h1 h2 h3 h4 ?_)
   obtain ⟨x15, h1, h⟩ := h
   refine RL.opS trivial rfl (OpW.load1 (v := Sl.v x15) one_39 rfl h1 ?_)
   obtain ⟨x16, h1, h2, h⟩ := h
   refine RL.opS trivial rfl (OpW.b2s bsl_39 str_9 rfl h1 h2 ?_)
   refine RL.opS trivial rfl (OpW.move (v := str x12) rfl ?_)
   refine RL.opS trivial rfl (OpW.strCmp (b := !decide (x16 = x12)) rfl rfl rfl ?_)
   refine RL.nil ?_
   obtain ⟨ha, hc⟩ := h
   refine CW.cond (b := (!decide (x16 = x12))) rfl (fun hb17 => ?_) (fun hb17 => ?_)
   ·have h := ha hb17; clear ha hc
    refine CW.seq ?_
    refine CW.region ?_
    refine RL.opS trivial rfl (OpW.assign (v := .bool false) rfl ?_)
    refine RL.nil ?_
    refine CW.ret ?_
    exact ret_intro (res1 rfl rfl) ⟨false, rfl, h⟩
   ·have h := hc hb17; clear ha hc
    refine CW.skip ?_
    refine CW.region ?_
    refine RL.opS trivial rfl (OpW.bin (k := .i64) (a := s2) (b := 1) (v := .int .i64 (IntKind.i64.wrap (s2 + 1))) e5 rfl rfl ?_)
    refine RL.opS trivial rfl (OpW.move (v := .int .i64 (IntKind.i64.wrap (s2 + 1))) rfl ?_)
    refine RL.nil ?_
    exact ⟨(IntKind.i64.wrap (s2 + 1)), ⟨rfl, e6, e7, e8⟩, h⟩
  ·have h := hc hb9; clear ha hc
   refine CW.exit ?_
   refine CW.seq ?_
   refine CW.region ?_
   refine RL.opS trivial rfl (OpW.assign (v := .bool true) rfl ?_)
   refine RL.nil ?_
   refine CW.ret ?_
   exact ret_intro (res1 rfl rfl) ⟨true, rfl, h⟩
end Go.Proofs.Ytagkcbbbdlmcjaa
end
section
/- Texts of bytes; are records these texts? -/
namespace Go.Proofs.Ytagkcbbbdlmcjaa
open Go.Lift Go.Lift.Disk Go.Lift.Crc Go.Lift.Wal Go.RowKit
theorem texts_ok (w : World) (p : Sl) (l : List (List UInt8)) (h : Parts w p l) (hl : l.length ≤ 1000000) : Calls Try.prog 44 #[p.v] w (Ret r44 fun x w' => Own w' w.heap.size 9 1 x (txts l) ∧ x.len = l.length ∧ Ext w w') := by
 apply s44_calls
 have hpl := h.len
 refine ⟨fun st w' => ∃ k : Nat, k ≤ l.length ∧ st.2 = (k : Int) ∧ Own w' w.heap.size 9 1 st.1 (txts (l.take k)) ∧ Ext w w', fun st _ => l.length - st.2.toNat, ⟨0, Nat.zero_le _, rfl, Own.nil _ _ _ _, Ext.refl _⟩, ?_⟩
 rintro ⟨s, i⟩ w2 ⟨k, hk, rfl, ho, hx⟩
 simp only at ho ⊢
 have hol := ho.length
 simp only [List.length_map, List.length_take] at hol
 refine ⟨fun hlt => ?_, fun hge => ?_⟩
 ·have hlt : k < l.length := by have := of_decide_eq_true hlt; omega
  obtain ⟨a, sl, ha, hc, hb⟩ := (h.ext hx).get hlt
  refine ⟨a, _, ha, by omega, by omega, rfl, sl, by rw [Int.toNat_natCast, Nat.mul_one]; exact hc, _, hb.1, hb.2, ?_⟩
  intro b13 w14 hb13 hw14
  have hx14 : Ext w2 w14 := Ext.new hw14
  refine app_ok (base := w.heap.size) mkz_45 rfl (by decide) (ho.ext hx14) (news := txts [l[k]]) rfl (At.new hb13 hw14) (txts_one _) (by simp only [maxLen]; omega) (by first | omega | (simp only; omega)) (hx.trans hx14).size ?_
  intro s' w' hl' ho' _ hB'
  rw [w64_eq (by omega) (by omega)]
  refine ⟨⟨k + 1, by omega, by omega, ?_, hB' _ _ (hx.trans hx14) (Nat.le_refl _) (hx.trans hx14).size⟩, by omega⟩
  rw [List.take_succ_eq_append_getElem hlt, txts, List.map_append]
  exact ho'
 ·have hge : k = l.length := by have := of_decide_eq_false hge; omega
  subst hge
  rw [List.take_length] at ho
  exact ⟨ho, by omega, hx⟩
theorem same_ok (w : World) (p q : Sl) (a b : List (List UInt8)) (h : Parts w p a) (hq : StrsAt w q b) (hl : b.length ≤ 4000000) : Calls Try.prog 45 #[p.v, q.v] w (Ret r45 fun x w' => x = decide (a = b) ∧ w = w') := by
 apply s45_calls
 have hpl := h.len
 have hql := hq.len
 refine ⟨fun hne => ?_, fun heq => ?_⟩
 ·have hne := nd_t hne
  refine ⟨(decide_eq_false fun e => hne ?_).symm, rfl⟩
  rw [e] at hpl
  omega
 have heq := nd_f heq
 have hlen : a.length = b.length := by omega
 refine ⟨fun st w' => w = w' ∧ ∃ k : Nat, k ≤ b.length ∧ st = (k : Int) ∧ a.take k = b.take k, fun st _ => b.length - st.toNat, ⟨rfl, 0, Nat.zero_le _, rfl, rfl⟩, ?_⟩
 rintro i w2 ⟨rfl, k, hk, rfl, hak⟩
 refine ⟨fun hlt => ?_, fun hge => ?_⟩
 ·have hlt : k < b.length := by have := of_decide_eq_true hlt; omega
  have hla : k < a.length := by omega
  obtain ⟨c, hc, hcell⟩ := hq.get hlt
  obtain ⟨d, sl, hd, hdc, hb⟩ := h.get hla
  refine ⟨c, _, hc, by omega, by omega, rfl, b[k], by rw [Int.toNat_natCast, Nat.mul_one]; exact hcell, d, _, hd, by omega, by omega, rfl, sl, by rw [Int.toNat_natCast, Nat.mul_one]; exact hdc, _, hb.1, hb.2, ?_⟩
  refine ⟨fun hne => ?_, fun he => ?_⟩
  ·refine ⟨(decide_eq_false fun e => nd_t hne ?_).symm, rfl⟩
   subst e
   rfl
  ·have he := nd_f he
   rw [w64_eq (by omega) (by omega)]
   refine ⟨⟨rfl, k + 1, by omega, by omega, ?_⟩, by simp only; omega⟩
   rw [List.take_succ_eq_append_getElem hla, List.take_succ_eq_append_getElem hlt, hak, he]
 ·have hge : k = b.length := by have := of_decide_eq_false hge; omega
  subst hge
  rw [List.take_length, ← hlen, List.take_length] at hak
  exact ⟨(decide_eq_true hak).symm, rfl⟩

end Go.Proofs.Ytagkcbbbdlmcjaa
end
section
/- What is found behind any loss of power. -/
namespace Go.Proofs.Ytagkcbbbdlmcjaa
open Go.Lift Go.Lift.Disk Go.Lift.Crc Go.Lift.Wal Go.RowKit
/-! ### what is found -/
theorem headed_at {D : Dk} {n frm s m : Nat} (hl : D.bl.length = n) (hp : D.pend = []) (hs : ∀ k, k < n → (bAt D.bl k).2 = nowAt D k) (k : Nat) (hk : k < n) :
  bAt (headed D frm s m).bl k = (if frm + s % 2 = k then headB s m else nowAt D k, if frm + s % 2 = k then headB s m else nowAt D k) := by
 have hEl : (Dk.tick (D.put (frm + s % 2) (headB s m))).bl.length = n := (setNow_len _ _ _).trans hl
 have hEp : (Dk.tick (D.put (frm + s % 2) (headB s m))).pend = [(frm + s % 2, headB s m)] := by
  show D.pend ++ _ = _
  rw [hp]; rfl
 have h1 : bAt (headed D frm s m).bl k = ((bAt (Dk.tick (D.put (frm + s % 2) (headB s m))).bl k).1, lastOf (Dk.tick (D.put (frm + s % 2) (headB s m))).pend k (bAt (Dk.tick (D.put (frm + s % 2) (headB s m))).bl k).2) := flushL_at _ _ _ (by rw [hEl]; exact hk)
 have h2 : bAt (Dk.tick (D.put (frm + s % 2) (headB s m))).bl k = if frm + s % 2 = k then (headB s m, (bAt D.bl k).2) else bAt D.bl k := by
  show bAt (setNow D.bl _ _) k = _
  rw [bAt_setNow _ (by rw [hl]; exact hk)]
 rw [h1, hEp, h2]
 have hsk := hs k hk
 by_cases e : frm + s % 2 = k
 ·simp only [e, if_true, lastOf, List.foldl_cons, List.foldl_nil]
 ·simp only [e, if_false, lastOf, List.foldl_cons, List.foldl_nil]
  rw [hsk]
  rfl
theorem rest_new {n frm room : Nat} (hn : frm + 2 < n) (hn2 : n ≤ 4096) (hfit : frm * 512 + room + 1024 ≤ n * 512) : Rest n frm room (headed (fresh n) frm 1 0) ⟨1, [], 0, false⟩ := by
 have hf := (free_fresh n).headed frm 1 0
 have hz : ∀ k, k < n → bAt (fresh n).bl k = (zero512, zero512) := by
  intro k hk
  have e : (fresh n).bl[k]? = some (zero512, zero512) := by simp [fresh, hk]
  simp [bAt, List.getD, e]
 have hat := headed_at (D := fresh n) (n := n) (frm := frm) (s := 1) (m := 0) (by simp [fresh]) rfl (fun k hk => by unfold nowAt; rw [hz k hk])
 have hnow : ∀ k, k < n → nowAt (headed (fresh n) frm 1 0) k = if frm + 1 % 2 = k then headB 1 0 else zero512 := by
  intro k hk
  unfold nowAt
  rw [hat k hk]
  show (if _ then _ else nowAt (fresh n) k) = _
  unfold nowAt
  rw [hz k hk]
 have hzl : zero512.length = 512 := List.length_replicate ..
 refine ⟨hf.down, hf.len, ?_, rfl, fun k hk => ?_, by decide, by decide, ?_, ?_, fun j hj => by simp at hj, hfit, Nat.zero_le _⟩
 ·intro p hp
  obtain ⟨k, hk, e⟩ := List.getElem_of_mem hp
  have hkn : k < n := by rw [← hf.len]; exact hk
  have h1 := hat k hkn
  have h2 := hnow k hkn
  unfold nowAt at h2
  rw [bAt_lt hk, e] at h1 h2
  have hl : p.1.length = 512 := by rw [h2]; split; exact headB_len _ _; exact hzl
  refine ⟨hl, ?_⟩
  have : p.2 = p.1 := by rw [h1]
  rw [this]; exact hl
 ·unfold nowAt
  rw [hat k hk]
 ·show right (nowAt _ (frm + 1 % 2)) room = (1, 0)
  rw [hnow _ (by omega), if_pos rfl]
  exact right_head (by decide) (by decide) (Nat.zero_le _) (by omega)
 ·show El 1 (nowAt _ (frm + 2 % 2))
  rw [hnow _ (by omega), if_neg (by omega)]
  exact El_zeros
theorem Rest.plan {n frm room : Nat} {D : Dk} {L : Lg} (h : Rest n frm room D L) (l : List Fall) : Rest n frm room (Dk.plan D l) L :=
 ⟨h.down, h.len, h.wfb, h.pend, h.same, h.pos, h.old, h.head, h.elder, h.data, h.fit, h.room⟩
theorem Found.congr {n frm room s : Nat} {A : List UInt8} {D E : Dk} (h : Found n frm room D s A) (hl : E.bl.length = n) (hn : ∀ k, k < n → nowAt E k = nowAt D k) (hfit : frm * 512 + room + 1024 ≤ n * 512) (hr : A.length ≤ room) : Found n frm room E s A := by
 refine ⟨hl, h.pos, ?_, fun j hj => ?_⟩
 ·rw [← h.head]
  unfold headOf headStep
  rw [hn (frm + 0) (by omega), hn (frm + 1) (by omega)]
 ·rw [hn _ (by omega)]
  exact h.data j hj
theorem rest_crash {n frm room : Nat} {D : Dk} {L : Lg} (h : Rest n frm room D L) (f : Fall) : Found n frm room (D.crash f) L.seq L.data := by
 have e : D.crash f = { D with bl := D.bl.map fun p => (p.2, p.2), pend := [], down := true } := by
  rw [crash_up h.down, h.pend]
  rfl
 rw [e]
 refine h.found.congr (by show (List.map _ _).length = n; rw [List.length_map, h.len]) (fun k hk => ?_) h.fit h.room
 show (bAt (List.map _ _) k).1 = _
 rw [bAt_map (by rw [h.len]; exact hk)]
 exact h.same k hk
/-- an opening of what is found -/
theorem open_of_found {n frm room s : Nat} {A : List UInt8} {D : Dk} {rs : List (List UInt8)} (h : Found n frm room D s A) (hp : parse A = (rs, 0)) : openD D.up frm room = (D.up, .is ⟨s, A, rs.length, false⟩ rs) := by
 refine open_found (n := A.length) rfl ?_ (by have := h.pos; omega) ?_ hp
 ·show headOf D frm room = _
  exact h.head
 ·show dataOf D frm A.length = A
  exact data_of h.data
/-- records that are added: what is found behind a loss of power -/
theorem add_atomic {n frm room : Nat} {D : Dk} {L : Lg} (h : Rest n frm room D L) (hb : L.broken = false) (hs : L.seq < last) (hroom : room < 18446744073709551616) (l0 l1 : List (List UInt8)) (hL : L.data = l0.flatMap frameB)
  (h0 : ∀ s ∈ l0, s.length ≤ 1000000) (h1 : ∀ s ∈ l1, s.length ≤ 1000000) (he : (addD D L frm room l1).2.2 ≠ 40) (f : Fall) :
  ∃ L' rs, openD ((addD D L frm room l1).1.crash f).up frm room = (((addD D L frm room l1).1.crash f).up, .is L' rs) ∧ ((addD D L frm room l1).1.crash f).up.bl.length = n ∧
   (rs = l0 ++ l1 ∨ ((addD D L frm room l1).2.2 ≠ 0 ∧ rs = l0)) := by
 have hp0 : parse L.data = (l0, 0) := by rw [hL]; exact parse_frames l0 fun s hs => Nat.lt_of_le_of_lt (h0 s hs) (by decide)
 by_cases hl : l1 = []
 ·subst hl
  have e : addD D L frm room [] = (D, L, 0) := by unfold addD; rw [if_neg (by rw [hb]; simp), if_pos rfl]
  rw [e]
  have hF := rest_crash h f
  exact ⟨_, _, open_of_found hF hp0, hF.len, .inl (by simp)⟩
 cases hg : gather l1 room L.data with
 | none =>
  have e : addD D L frm room l1 = (D, L, 40) := by unfold addD; rw [if_neg (by rw [hb]; simp), if_neg hl, hg]
  rw [e] at he
  exact absurd rfl he
 | some A =>
  have hA := gather_eq l1 room L.data hg
  have hAr := (gather_len l1 room L.data hg).2
  have hpA : parse A = (l0 ++ l1, 0) := by
   rw [hA, hL, ← List.flatMap_append]
   refine parse_frames _ fun s hs => ?_
   rcases List.mem_append.1 hs with hs | hs
   ·exact Nat.lt_of_le_of_lt (h0 s hs) (by decide)
   ·exact Nat.lt_of_le_of_lt (h1 s hs) (by decide)
  have e : addD D L frm room l1 = if (addHead (layF (A.length / 512 + 1) D frm A (L.data.length / 512)) frm (L.seq + 1) A.length).2 = 0 then
    ((addHead (layF (A.length / 512 + 1) D frm A (L.data.length / 512)) frm (L.seq + 1) A.length).1, ⟨L.seq + 1, A, L.count + l1.length, false⟩, 0)
    else ((addHead (layF (A.length / 512 + 1) D frm A (L.data.length / 512)) frm (L.seq + 1) A.length).1, { L with broken := true }, (addHead (layF (A.length / 512 + 1) D frm A (L.data.length / 512)) frm (L.seq + 1) A.length).2) := by
   unfold addD
   rw [if_neg (by rw [hb]; simp), if_neg hl, hg]
   simp only
   rw [if_neg (by omega)]
  rw [e]
  rcases add_falls h hA hAr hs (L.count + l1.length) hroom with ⟨D', e2, hR⟩ | ⟨D', e2, hd, hF⟩
  ·rw [e2, if_pos rfl]
   have hF := rest_crash hR f
   exact ⟨_, _, open_of_found hF hpA, hF.len, .inl rfl⟩
  ·rw [e2, if_neg (by simp)]
   have hc : D'.crash f = D' := by unfold Dk.crash; rw [if_pos hd]
   simp only
   rw [hc]
   rcases hF with hF | hF
   ·exact ⟨_, _, open_of_found hF hp0, hF.len, .inr ⟨by simp, rfl⟩⟩
   ·exact ⟨_, _, open_of_found hF hpA, hF.len, .inl rfl⟩
/-- records that are added, and told as done -/
theorem add_rest {n frm room : Nat} {D : Dk} {L : Lg} (h : Rest n frm room D L) (hb : L.broken = false) (hs : L.seq < last) (hroom : room < 18446744073709551616) (l1 : List (List UInt8)) (he : (addD D L frm room l1).2.2 = 0) :
  Rest n frm room (addD D L frm room l1).1 (addD D L frm room l1).2.1 ∧ (addD D L frm room l1).2.1.data = L.data ++ l1.flatMap frameB ∧ (addD D L frm room l1).2.1.broken = false ∧ (addD D L frm room l1).2.1.seq ≤ L.seq + 1 := by
 by_cases hl : l1 = []
 ·subst hl
  have e : addD D L frm room [] = (D, L, 0) := by unfold addD; rw [if_neg (by rw [hb]; simp), if_pos rfl]
  rw [e]
  exact ⟨h, by simp, hb, Nat.le_succ _⟩
 cases hg : gather l1 room L.data with
 | none =>
  have e : addD D L frm room l1 = (D, L, 40) := by unfold addD; rw [if_neg (by rw [hb]; simp), if_neg hl, hg]
  rw [e] at he
  cases he
 | some A =>
  have hA := gather_eq l1 room L.data hg
  have hAr := (gather_len l1 room L.data hg).2
  have e : addD D L frm room l1 = if (addHead (layF (A.length / 512 + 1) D frm A (L.data.length / 512)) frm (L.seq + 1) A.length).2 = 0 then
    ((addHead (layF (A.length / 512 + 1) D frm A (L.data.length / 512)) frm (L.seq + 1) A.length).1, ⟨L.seq + 1, A, L.count + l1.length, false⟩, 0)
    else ((addHead (layF (A.length / 512 + 1) D frm A (L.data.length / 512)) frm (L.seq + 1) A.length).1, { L with broken := true }, (addHead (layF (A.length / 512 + 1) D frm A (L.data.length / 512)) frm (L.seq + 1) A.length).2) := by
   unfold addD
   rw [if_neg (by rw [hb]; simp), if_neg hl, hg]
   simp only
   rw [if_neg (by omega)]
  rw [e] at he ⊢
  rcases add_falls h hA hAr hs (L.count + l1.length) hroom with ⟨D', e2, hR⟩ | ⟨D', e2, hd, hF⟩
  ·rw [e2, if_pos rfl]
   exact ⟨hR, hA, rfl, Nat.le_refl _⟩
  ·rw [e2, if_neg (by simp)] at he
   cases he
end Go.Proofs.Ytagkcbbbdlmcjaa
end
section
/- The typed readings of the functions, and that the program meets each: written by gen.py (a program of this session). -/
namespace Go.Proofs.Ytagkcbbbdlmcjaa
open Go.Lift
set_option maxRecDepth 100000 in
set_option maxHeartbeats 4000000 in
theorem s51_calls (K : List UInt8 → World → Prop) (p0 : Int) (w : World) (h : s51 K p0 w) :
  Calls Try.prog 51 #[.int .u64 p0] w (Ret r51 K) := by
 unfold s51 at h
 refine calls_of_CW (n := 19) Try.func51 rfl rfl rfl ?_
 refine CW.seq ?_
 refine CW.region ?_
 refine RL.opS trivial rfl (OpW.assign (v := str []) rfl ?_)
 refine RL.nil ?_
 refine CW.seq ?_
 refine CW.seq ?_
 refine CW.region ?_
 refine RL.opS trivial rfl (OpW.move (v := .int .u64 p0) rfl ?_)
 refine RL.opS trivial rfl (OpW.bin (k := .u64) (a := p0) (b := 128) (v := .bool (decide (p0 < 128))) rfl rfl rfl ?_)
 refine RL.nil ?_
 obtain ⟨ha, hc⟩ := h
 refine CW.cond (b := (decide (p0 < 128))) rfl (fun hb1 => ?_) (fun hb1 => ?_)
 ·have h := ha hb1; clear ha hc
  refine CW.seq ?_
  refine CW.region ?_
  refine RL.opS trivial rfl (OpW.move (v := .int .u64 p0) rfl ?_)
  refine RL.opS trivial rfl (OpW.convInt (a := p0) int_25 int_5 rfl ?_)
  obtain ⟨b2, hb2_⟩ : ∃ b_, b_ = w.heap.size := ⟨_, rfl⟩
  obtain ⟨w3, hw3_⟩ : ∃ w_, w_ = w.alloc (.cells (List.toArray [.int .u8 (IntKind.u8.wrap p0)]) 5) := ⟨_, rfl⟩
  have h := h b2 w3 hb2_ hw3_
  refine RL.opS trivial rfl (OpW.buildSliceE (vs := [(0, .int .u8 (IntKind.u8.wrap p0))]) (cs := [.int .u8 (IntKind.u8.wrap p0)]) (by rfl) (by kernel_rfl) hb2_ hw3_ ?_)
  obtain ⟨x4, h1, h2, h⟩ := h
  refine RL.opS trivial rfl (OpW.b2s bsl_39 str_9 rfl h1 h2 ?_)
  refine RL.opS trivial rfl (OpW.assign (v := str x4) rfl ?_)
  refine RL.nil ?_
  refine CW.ret ?_
  exact ret_intro (res1 rfl rfl) ⟨x4, rfl, h⟩
 ·have h := hc hb1; clear ha hc
  refine CW.skip ?_
  refine CW.seq ?_
  obtain ⟨w5, hw5_⟩ : ∃ w_, w_ = w.drew := ⟨_, rfl⟩
  have h := h w5 hw5_
  have hx6 : Ext w w5 := by rw [hw5_]; exact Ext.drew _
  refine CW.draws (m := 11) (listed := #[F,F,F,F,F,F,F,F,F,F,F]) mixed [] (Ext w) rfl rfl ?_
  rw [← hw5_]
  refine DL.takeP (listed' := #[T,F,F,F,F,F,F,F,F,F,F]) (v := .int .u64 p0) 0 rfl rfl (by kernel_rfl) rfl trivial rfl (fun w_ K_ h_ => OpW.move (v := .int .u64 p0) rfl h_) ?_
  refine DL.takeP (listed' := #[T,T,F,F,F,F,F,F,F,F,F]) (v := .int .u64 (Int.tmod p0 128)) 1 rfl rfl (by kernel_rfl) rfl trivial rfl (fun w_ K_ h_ => OpW.quo (a := p0) (b := 128) (v := .int .u64 (Int.tmod p0 128)) rfl rfl (by decide) rfl h_) ?_
  refine DL.takeP (listed' := #[T,T,T,F,F,F,F,F,F,F,F]) (v := .int .u8 (IntKind.u8.wrap (Int.tmod p0 128))) 2 rfl rfl (by kernel_rfl) rfl trivial rfl (fun w_ K_ h_ => OpW.convInt (a := (Int.tmod p0 128)) int_25 int_5 rfl h_) ?_
  refine DL.takeP (listed' := #[T,T,T,T,F,F,F,F,F,F,F]) (v := .int .u8 (IntKind.u8.wrap ((IntKind.u8.wrap (Int.tmod p0 128)) + 128))) 3 rfl rfl (by kernel_rfl) rfl trivial rfl (fun w_ K_ h_ => OpW.bin (k := .u8) (a := (IntKind.u8.wrap (Int.tmod p0 128))) (b := 128) (v := .int .u8 (IntKind.u8.wrap ((IntKind.u8.wrap (Int.tmod p0 128)) + 128))) rfl rfl rfl h_) ?_
  refine DL.takeP (listed' := #[T,T,T,T,F,F,T,F,F,F,F]) (v := .int .u64 p0) 6 rfl rfl (by kernel_rfl) rfl trivial rfl (fun w_ K_ h_ => OpW.move (v := .int .u64 p0) rfl h_) ?_
  refine DL.takeP (listed' := #[T,T,T,T,F,F,T,T,F,F,F]) (v := .int .u64 (IntKind.u64.wrap (Int.tdiv p0 128))) 7 rfl rfl (by kernel_rfl) rfl trivial rfl (fun w_ K_ h_ => OpW.quo (a := p0) (b := 128) (v := .int .u64 (IntKind.u64.wrap (Int.tdiv p0 128))) rfl rfl (by decide) rfl h_) ?_
  obtain ⟨F13, st_4, run_4, h⟩ := h
  obtain ⟨F19, st_5, run_5, h⟩ := h
  obtain ⟨F24, st_8, run_8, h⟩ := h
  obtain ⟨c27, h⟩ := h
  refine DL.state (fun ρ_ w28 => ∃ (x7 : Sl) (x8 : List UInt8) (x9 : List UInt8), Ext w5 w28 ∧ F13 () x7 w28 ∧ F19 x7 x8 w28 ∧ F24 () x9 w28 ∧ ρ_ 2 = str (x8 ++ x9)) 0 #[T,T,T,T,T,T,T,T,T,T,T] ?_ ?_
  ·rintro ρ_ w28 ⟨x7, x8, x9, hx_1, f_4, f_5, f_8, e_2⟩
   have h := h x7 x8 x9 w28 hx_1 f_4 f_5 f_8
   have hx29 := Ext.trans hx6 hx_1
   refine DL.done (by kernel_rfl) ?_
   refine CW.ret ?_
   exact ret_intro (res1 rfl e_2) ⟨(x8 ++ x9), rfl, h⟩
  intro hD_4_5_8
  refine DL.state (fun ρ_ w30 => ∃ (x7 : Sl) (x8 : List UInt8), Ext w5 w30 ∧ F13 () x7 w30 ∧ F19 x7 x8 w30 ∧ ρ_ 14 = str x8 ∧ ρ_ 16 = .int .u64 (IntKind.u64.wrap (Int.tdiv p0 128))) 3 #[T,T,T,T,T,T,T,T,F,F,F] ?_ ?_
  ·rintro ρ_ w30 ⟨x7, x8, hx_1, f_4, f_5, e_14, e_16⟩
   refine DL.branch [8] (by kernel_rfl) rfl ?_
   refine all_cons ?_ (all_nil)
   ·clear h
    have h := run_8 () w30 hx_1 trivial
    refine DLop.execS (listed' := #[T,T,T,T,T,T,T,T,T,F,F]) rfl rfl trivial rfl (OpW.callR (al := [.int .u64 (IntKind.u64.wrap (Int.tdiv p0 128))]) Try.func51 fb_51 fn_51 (by simp only [List.map_cons, List.map_nil, ev, upd, Nat.beq, cond_false, cond_true, e_16]) h (fun x31 w32 h => ?_))
    obtain ⟨hx33, f34⟩ := h
    refine ⟨(fun h_ => absurd h_ (by decide)), ?_⟩
    have h_c := c27 x7 x8 x31 _ (Ext.trans hx_1 hx33) (st_4 _ _ _ _ hx33 f_4) (st_5 _ _ _ _ hx33 f_5) f34
    have hq_ := h_c
    refine DL.takeP (listed' := #[T,T,T,T,T,T,T,T,T,T,F]) (v := str (x8 ++ x31)) 9 rfl rfl (by kernel_rfl) rfl trivial rfl (fun w_ K_ h_ => OpW.strAdd e_14 rfl hq_ h_) ?_
    refine DL.takeP (listed' := #[T,T,T,T,T,T,T,T,T,T,T]) (v := str (x8 ++ x31)) 10 rfl rfl (by kernel_rfl) rfl trivial rfl (fun w_ K_ h_ => OpW.assign (v := str (x8 ++ x31)) rfl h_) ?_
    exact hD_4_5_8 _ _ ⟨x7, x8, x31, Ext.trans hx_1 hx33, st_4 _ _ _ _ hx33 f_4, st_5 _ _ _ _ hx33 f_5, f34, rfl⟩

  intro hD_4_5
  refine DL.state (fun ρ_ w35 => ∃ (x7 : Sl) (x9 : List UInt8), Ext w5 w35 ∧ F13 () x7 w35 ∧ F24 () x9 w35 ∧ ρ_ 13 = Sl.v x7 ∧ ρ_ 17 = str x9) 3 #[T,T,T,T,T,F,T,T,T,F,F] ?_ ?_
  ·rintro ρ_ w35 ⟨x7, x9, hx_1, f_4, f_8, e_13, e_17⟩
   refine DL.branch [5] (by kernel_rfl) rfl ?_
   refine all_cons ?_ (all_nil)
   ·clear h
    have h := run_5 x7 w35 hx_1 f_4
    obtain ⟨x36, h1, h2, h⟩ := h
    refine DLop.execS (listed' := #[T,T,T,T,T,T,T,T,T,F,F]) rfl rfl trivial rfl (OpW.b2s bsl_39 str_9 e_13 h1 h2 ?_)
    obtain ⟨hx37, f38⟩ := h
    refine ⟨(fun h_ => absurd h_ (by decide)), ?_⟩
    have h_c := c27 x7 x36 x9 _ (Ext.trans hx_1 hx37) (st_4 _ _ _ _ hx37 f_4) f38 (st_8 _ _ _ _ hx37 f_8)
    have hq_ := h_c
    refine DL.takeP (listed' := #[T,T,T,T,T,T,T,T,T,T,F]) (v := str (x36 ++ x9)) 9 rfl rfl (by kernel_rfl) rfl trivial rfl (fun w_ K_ h_ => OpW.strAdd rfl e_17 hq_ h_) ?_
    refine DL.takeP (listed' := #[T,T,T,T,T,T,T,T,T,T,T]) (v := str (x36 ++ x9)) 10 rfl rfl (by kernel_rfl) rfl trivial rfl (fun w_ K_ h_ => OpW.assign (v := str (x36 ++ x9)) rfl h_) ?_
    exact hD_4_5_8 _ _ ⟨x7, x36, x9, Ext.trans hx_1 hx37, st_4 _ _ _ _ hx37 f_4, f38, st_8 _ _ _ _ hx37 f_8, rfl⟩

  intro hD_4_8
  refine DL.state (fun ρ_ w39 => ∃ (x7 : Sl), Ext w5 w39 ∧ F13 () x7 w39 ∧ ρ_ 13 = Sl.v x7 ∧ ρ_ 16 = .int .u64 (IntKind.u64.wrap (Int.tdiv p0 128))) 4 #[T,T,T,T,T,F,T,T,F,F,F] ?_ ?_
  ·rintro ρ_ w39 ⟨x7, hx_1, f_4, e_13, e_16⟩
   refine DL.branch [5, 8] (by kernel_rfl) rfl ?_
   refine all_cons ?_ (all_cons ?_ (all_nil))
   ·clear h
    have h := run_5 x7 w39 hx_1 f_4
    obtain ⟨x40, h1, h2, h⟩ := h
    refine DLop.execS (listed' := #[T,T,T,T,T,T,T,T,F,F,F]) rfl rfl trivial rfl (OpW.b2s bsl_39 str_9 e_13 h1 h2 ?_)
    obtain ⟨hx41, f42⟩ := h
    refine ⟨(fun h_ => absurd h_ (by decide)), ?_⟩
    exact hD_4_5 _ _ ⟨x7, x40, Ext.trans hx_1 hx41, st_4 _ _ _ _ hx41 f_4, f42, rfl, e_16⟩
   ·clear h
    have h := run_8 () w39 hx_1 trivial
    refine DLop.execS (listed' := #[T,T,T,T,T,F,T,T,T,F,F]) rfl rfl trivial rfl (OpW.callR (al := [.int .u64 (IntKind.u64.wrap (Int.tdiv p0 128))]) Try.func51 fb_51 fn_51 (by simp only [List.map_cons, List.map_nil, ev, upd, Nat.beq, cond_false, cond_true, e_16]) h (fun x43 w44 h => ?_))
    obtain ⟨hx45, f46⟩ := h
    refine ⟨(fun h_ => absurd h_ (by decide)), ?_⟩
    exact hD_4_8 _ _ ⟨x7, x43, Ext.trans hx_1 hx45, st_4 _ _ _ _ hx45 f_4, f46, e_13, rfl⟩

  intro hD_4
  refine DL.state (fun ρ_ w47 => ∃ (x9 : List UInt8), Ext w5 w47 ∧ F24 () x9 w47 ∧ ρ_ 12 = .int .u8 (IntKind.u8.wrap ((IntKind.u8.wrap (Int.tmod p0 128)) + 128)) ∧ ρ_ 17 = str x9) 4 #[T,T,T,T,F,F,T,T,T,F,F] ?_ ?_
  ·rintro ρ_ w47 ⟨x9, hx_1, f_8, e_12, e_17⟩
   refine DL.branch [4] (by kernel_rfl) rfl ?_
   refine all_cons ?_ (all_nil)
   ·clear h
    have h := run_4 () w47 hx_1 trivial
    obtain ⟨b48, hb48_⟩ : ∃ b_, b_ = w47.heap.size := ⟨_, rfl⟩
    obtain ⟨w49, hw49_⟩ : ∃ w_, w_ = w47.alloc (.cells (List.toArray [.int .u8 (IntKind.u8.wrap ((IntKind.u8.wrap (Int.tmod p0 128)) + 128))]) 5) := ⟨_, rfl⟩
    have h := h b48 w49 hb48_ hw49_
    refine DLop.execS (listed' := #[T,T,T,T,T,F,T,T,T,F,F]) rfl rfl trivial rfl (OpW.buildSliceE (vs := [(0, .int .u8 (IntKind.u8.wrap ((IntKind.u8.wrap (Int.tmod p0 128)) + 128)))]) (cs := [.int .u8 (IntKind.u8.wrap ((IntKind.u8.wrap (Int.tmod p0 128)) + 128))]) (by simp only [List.map_cons, List.map_nil, ev, upd, Nat.beq, cond_false, cond_true, e_12]) (by kernel_rfl) hb48_ hw49_ ?_)
    obtain ⟨hx50, f51⟩ := h
    refine ⟨(fun h_ => absurd h_ (by decide)), ?_⟩
    exact hD_4_8 _ _ ⟨⟨some ⟨b48, 0, none⟩, 1, 1⟩, x9, Ext.trans hx_1 hx50, f51, st_8 _ _ _ _ hx50 f_8, rfl, e_17⟩

  intro hD_8
  have hx_0 : Ext w5 w5 := Ext.refl _
  refine DL.branch [4, 8] (by kernel_rfl) rfl ?_
  refine all_cons ?_ (all_cons ?_ (all_nil))
  ·clear h
   have h := run_4 () w5 hx_0 trivial
   obtain ⟨b52, hb52_⟩ : ∃ b_, b_ = w5.heap.size := ⟨_, rfl⟩
   obtain ⟨w53, hw53_⟩ : ∃ w_, w_ = w5.alloc (.cells (List.toArray [.int .u8 (IntKind.u8.wrap ((IntKind.u8.wrap (Int.tmod p0 128)) + 128))]) 5) := ⟨_, rfl⟩
   have h := h b52 w53 hb52_ hw53_
   refine DLop.execS (listed' := #[T,T,T,T,T,F,T,T,F,F,F]) rfl rfl trivial rfl (OpW.buildSliceE (vs := [(0, .int .u8 (IntKind.u8.wrap ((IntKind.u8.wrap (Int.tmod p0 128)) + 128)))]) (cs := [.int .u8 (IntKind.u8.wrap ((IntKind.u8.wrap (Int.tmod p0 128)) + 128))]) (by rfl) (by kernel_rfl) hb52_ hw53_ ?_)
   obtain ⟨hx54, f55⟩ := h
   refine ⟨(fun h_ => absurd h_ (by decide)), ?_⟩
   exact hD_4 _ _ ⟨⟨some ⟨b52, 0, none⟩, 1, 1⟩, Ext.trans hx_0 hx54, f55, rfl, rfl⟩
  ·clear h
   have h := run_8 () w5 hx_0 trivial
   refine DLop.execS (listed' := #[T,T,T,T,F,F,T,T,T,F,F]) rfl rfl trivial rfl (OpW.callR (al := [.int .u64 (IntKind.u64.wrap (Int.tdiv p0 128))]) Try.func51 fb_51 fn_51 rfl h (fun x56 w57 h => ?_))
   obtain ⟨hx58, f59⟩ := h
   refine ⟨(fun h_ => absurd h_ (by decide)), ?_⟩
   exact hD_8 _ _ ⟨x56, Ext.trans hx_0 hx58, f59, rfl, rfl⟩

end Go.Proofs.Ytagkcbbbdlmcjaa
end
section
/- The typed readings of the functions, and that the program meets each: written by gen.py (a program of this session). -/
namespace Go.Proofs.Ytagkcbbbdlmcjaa
open Go.Lift
set_option maxRecDepth 100000 in
set_option maxHeartbeats 4000000 in
theorem s18_calls (K : List UInt8 → World → Prop) (p0 : List UInt8) (w : World) (h : s18 K p0 w) :
  Calls Try.prog 18 #[str p0] w (Ret r18 K) := by
 unfold s18 at h
 refine calls_of_CW (n := 15) Try.func18 rfl rfl rfl ?_
 refine CW.seq ?_
 refine CW.region ?_
 refine RL.opS trivial rfl (OpW.assign (v := str []) rfl ?_)
 refine RL.nil ?_
 refine CW.seq ?_
 refine CW.region ?_
 refine RL.opS trivial rfl (OpW.move (v := str p0) rfl ?_)
 refine RL.opS trivial rfl (OpW.lenStr us_9 rfl ?_)
 refine RL.opS trivial rfl (OpW.convInt (a := (p0.length : Int)) int_3 int_25 rfl ?_)
 refine RL.opS trivial rfl (OpW.callR (al := [.int .u64 (IntKind.u64.wrap (p0.length : Int))]) Try.func51 fb_51 fn_51 rfl h (fun x1 w2 h => ?_))
 refine RL.opS trivial rfl (OpW.move (v := str p0) rfl ?_)
 refine RL.opS trivial rfl (OpW.callR (al := [str p0]) Try.func52 fb_52 fn_52 rfl h (fun x3 w4 h => ?_))
 refine RL.opS trivial rfl (OpW.move (v := str p0) rfl ?_)
 refine RL.opS trivial rfl (OpW.lenStr us_9 rfl ?_)
 obtain ⟨⟨h1, h2, h3⟩, h⟩ := h
 refine RL.opS trivial rfl (OpW.sliceStr (l := (p0.length : Int)) (h := (x3.length : Int)) str_9 rfl ⟨_, rfl⟩ rfl h1 h2 h3 ?_)
 obtain ⟨hq_, h⟩ := h
 refine RL.opS trivial rfl (OpW.strAdd rfl rfl hq_ ?_)
 refine RL.opS trivial rfl (OpW.move (v := str p0) rfl ?_)
 obtain ⟨hq_, h⟩ := h
 refine RL.opS trivial rfl (OpW.strAdd rfl rfl hq_ ?_)
 refine RL.opS trivial rfl (OpW.assign (v := str ((x1 ++ ((x3.take (Int.toNat (x3.length : Int))).drop (Int.toNat (p0.length : Int)))) ++ p0)) rfl ?_)
 refine RL.nil ?_
 refine CW.ret ?_
 exact ret_intro (res1 rfl rfl) ⟨((x1 ++ ((x3.take (Int.toNat (x3.length : Int))).drop (Int.toNat (p0.length : Int)))) ++ p0), rfl, h⟩
end Go.Proofs.Ytagkcbbbdlmcjaa
end
section
/- The document's numbers and frames; records that are added to a disk without falls. -/
namespace Go.Proofs.Ytagkcbbbdlmcjaa
open Go.Lift Go.Lift.Disk Go.Lift.Crc Go.Lift.Wal Go.RowKit
theorem rnum_ok : ∀ (k n : Nat) (w : World), n < 128 ^ (k + 1) → n < 18446744073709551616 → Calls Try.prog 51 #[.int .u64 (n : Int)] w (Ret r51 fun x w' => x = numB n ∧ Ext w w') := by
 intro k
 induction k with
 | zero =>
  intro n w hn _
  apply s51_calls
  refine ⟨fun _ => ?_, fun h => absurd (of_decide_eq_false h) (by omega)⟩
  intro b2 w3 hb2 hw3
  rw [u8n] at hw3
  refine ⟨[UInt8.ofNat n], rfl, At.new hb2 hw3, ?_, Ext.new hw3⟩
  unfold numB
  rw [if_pos (by omega)]
 | succ k ih =>
  intro n w hn h64
  apply s51_calls
  refine ⟨fun hlt => ?_, fun hge => ?_⟩
  ·have hlt := of_decide_eq_true hlt
   intro b2 w3 hb2 hw3
   rw [u8n] at hw3
   refine ⟨[UInt8.ofNat n], rfl, At.new hb2 hw3, ?_, Ext.new hw3⟩
   unfold numB
   rw [if_pos (by omega)]
  ·have hge := of_decide_eq_false hge
   intro w5 hw5
   have hx5 : Ext w w5 := by subst hw5; exact Ext.drew _
   refine ⟨fun _ x v => Bytes v x [UInt8.ofNat (n % 128 + 128)], fun _ _ _ _ hx h => h.ext hx, fun _ v hv _ => ?_, ?_⟩
   ·intro b14 w15 hb14 hw15
    rw [numByte] at hw15
    exact ⟨Ext.new hw15, rfl, At.new hb14 hw15⟩
   refine ⟨fun _ x v => x = [UInt8.ofNat (n % 128 + 128)], fun _ _ _ _ hx h => h, fun d v hv hb => ?_, ?_⟩
   ·exact ⟨_, hb.1, hb.2, Ext.refl _, rfl⟩
   refine ⟨fun _ x v => x = numB (n / 128), fun _ _ _ _ hx h => h, fun _ v hv _ => ?_, ?_⟩
   ·have e : IntKind.u64.wrap (Int.tdiv (n : Int) 128) = ((n / 128 : Nat) : Int) := by
     rw [Int.tdiv_eq_ediv_of_nonneg (by omega), wu64_eq (by omega) (by omega)]; omega
    rw [e]
    refine cR_of (ih (n / 128) v (by rw [Nat.div_lt_iff_lt_mul (by decide), ← Nat.pow_succ]; exact hn) (by omega)) ?_
    rintro x w' ⟨rfl, hx⟩
    exact ⟨hx, rfl⟩
   have hl := (numB_len (n / 128) (by omega)).2
   refine ⟨?_, ?_⟩
   ·rintro x7 x8 x9 v _ _ rfl rfl
    simp only [List.length_singleton]
    omega
   ·rintro x7 x8 x9 v hx _ rfl rfl
    refine ⟨?_, hx5.trans hx⟩
    conv => rhs; rw [numB]
    rw [if_neg (by omega)]
    rfl
theorem rframe_ok (w : World) (s : List UInt8) (hs : s.length ≤ 1000000000) : Calls Try.prog 18 #[str s] w (Ret r18 fun x w' => x = frameB s ∧ Ext w w') := by
 apply s18_calls
 show cR _ _ _ _ _ _
 rw [wu64_eq (by omega) (by omega)]
 refine cR_of (rnum_ok 9 s.length w (Nat.lt_of_le_of_lt hs (by decide)) (by omega)) ?_
 rintro x1 w2 ⟨rfl, hx2⟩
 refine cR_of (refseal_ok w2 s (by omega)) ?_
 rintro x3 w4 ⟨rfl, hx4⟩
 have hl := sealed_len s
 have hn := (numB_len s.length (by omega)).2
 have hd : ((sealed s).take (Int.toNat ((sealed s).length : Int))).drop (Int.toNat (s.length : Int)) = le4 (crc s) := by
  rw [Int.toNat_natCast, Int.toNat_natCast, List.take_length]
  unfold sealed
  exact List.drop_left
 have h4 : (le4 (crc s)).length = 4 := rfl
 refine ⟨⟨by omega, by omega, by omega⟩, ?_⟩
 rw [hd]
 refine ⟨by rw [h4]; omega, by rw [List.length_append, h4]; omega, ?_, hx2.trans hx4⟩
 unfold frameB
 rw [List.append_assoc]

/-! ### a disk without falls -/
theorem lay_free {n frm : Nat} {A : List UInt8} (hA : ∀ j, j * 512 < A.length → frm + 2 + j < n) : ∀ (f : Nat) {c : Nat} {D : Dk} (i : Nat), Free n c D → ∃ D' c', layF f D frm A i = (D', 0) ∧ Free n c' D'
 | 0, c, D, i, h => ⟨D, c, rfl, h⟩
 | f + 1, c, D, i, h => by
  unfold layF
  split
  ·exact ⟨D, c, rfl, h⟩
  ·rename_i hlt
   have hw := write_free h.down h.falls (i := frm + 2 + i) (by rw [h.len]; exact hA i (by omega)) (padB_len A i (by omega))
   rw [hw]
   simp only [if_true]
   exact lay_free hA f (i + 1) (h.put _ _)
theorem flushed_pend (D : Dk) : (flushed D).pend = [] := rfl
theorem addHead_free {n c frm seq k : Nat} {D : Dk} (h : Free n c D) (hf : frm + 1 < n) : addHead (D, 0) frm seq k = (headed (flushed D) frm seq k, 0) := by
 have h2 := h.flushed
 have hfl := flush_free h.down h.falls
 unfold addHead
 simp only [ne_eq, not_true, if_false, hfl]
 exact headW_free h2.down h2.falls (by rw [h2.len]; exact hf)
theorem add_free {n c frm room : Nat} {D : Dk} {L : Lg} {l : List (List UInt8)} {A : List UInt8} (h : Free n c D) (hb : L.broken = false) (hl : l ≠ []) (hs : L.seq ≠ last) (hg : gather l room L.data = some A) (hf : frm + 1 < n) (hr : frm * 512 + room + 1024 ≤ n * 512) :
  ∃ D' c', addD D L frm room l = (D', ⟨L.seq + 1, A, L.count + l.length, false⟩, 0) ∧ Free n c' D' ∧ D'.pend = [] := by
 have hgl := (gather_len l room _ hg).2
 obtain ⟨E, c1, e1, hE⟩ := lay_free (A := A) (frm := frm) (n := n) (fun j hj => by omega) (A.length / 512 + 1) (L.data.length / 512) h
 have e2 := addHead_free (seq := L.seq + 1) (k := A.length) hE hf
 have := add_done (D := D) (frm := frm) hb hl hg hs (by rw [e1, e2])
 rw [e1, e2] at this
 exact ⟨_, _, this, hE.flushed.headed _ _ _, rfl⟩
theorem Bnd.addHead {R : Dk × Int} {k : Nat} (h : Bnd R.1 (k + 3)) (frm seq n : Nat) : Bnd (addHead R frm seq n).1 k := by
 unfold Wal.addHead
 split
 ·exact h.mono (by omega)
 ·have hf := Bnd.flush (k := k + 2) h
  split
  ·exact hf.mono (by omega)
  ·exact hf.head frm seq n
theorem Bnd.addD {D : Dk} {k : Nat} {L : Lg} {frm room : Nat} {l : List (List UInt8)} (h : Bnd D (k + 4200)) (hr : room ≤ 2097152) : Bnd (addD D L frm room l).1 k := by
 unfold Wal.addD
 split
 ·exact h.mono (by omega)
 ·split
  ·exact h.mono (by omega)
  ·split
   ·exact h.mono (by omega)
   ·rename_i A hg
    have hgl := (gather_len l room _ hg).2
    split
    ·exact h.mono (by omega)
    ·have hlay : Bnd (layF (A.length / 512 + 1) D frm A (L.data.length / 512)).1 (k + 3) := Bnd.lay _ frm A _ (h.mono (by omega))
     have := hlay.addHead frm (L.seq + 1) A.length
     split <;> exact this
theorem gather_one (s : List UInt8) (room : Nat) (data : List UInt8) : gather [s] room data = if room < data.length + (frameB s).length then none else some (data ++ frameB s) := by
 have := frameB_len s
 unfold gather
 by_cases h : (room : Int) - data.length < s.length
 ·rw [if_pos h, if_pos (by omega)]
 ·rw [if_neg h]
  unfold gather
  rw [List.length_append]
end Go.Proofs.Ytagkcbbbdlmcjaa
end
section
/- The typed readings of the functions, and that the program meets each: written by gen.py (a program of this session). -/
namespace Go.Proofs.Ytagkcbbbdlmcjaa
open Go.Lift
set_option maxRecDepth 100000 in
set_option maxHeartbeats 4000000 in
theorem s11_calls (K : Bool → World → Prop) (p0 : Sl) (p1 : Sl) (p2 : List Value) (w : World) (h : s11 K p0 p1 p2 w) :
  Calls Try.prog 11 #[Sl.v p0, Sl.v p1, aggv p2] w (Ret r11 K) := by
 unfold s11 at h
 refine calls_of_CW (n := 98) Try.func11 rfl rfl rfl ?_
 refine CW.seq ?_
 refine CW.region ?_
 obtain ⟨b1, hb1_⟩ : ∃ b_, b_ = w.heap.size := ⟨_, rfl⟩
 obtain ⟨w2, hw2_⟩ : ∃ w_, w_ = w.alloc (.cells (List.toArray p2) 27) := ⟨_, rfl⟩
 have h := h b1 w2 hb1_ hw2_
 refine RL.opS trivial rfl (OpW.boxE (cs := p2) (rfl) hb1_ hw2_ ?_)
 refine RL.opS trivial rfl (OpW.assign (v := .bool false) rfl ?_)
 refine RL.nil ?_
 refine CW.seq ?_
 refine CW.seq ?_
 refine CW.region ?_
 refine RL.opS trivial rfl (OpW.callR (al := []) Try.func13 fb_13 fn_13 rfl h (fun x3 w4 h => ?_))
 refine RL.opS trivial rfl (OpW.not rfl ?_)
 refine RL.opS trivial rfl (OpW.move (v := .bool (!x3)) rfl ?_)
 refine jn_elim h ?_; clear h; intro k88 hk89 h
 refine RL.joinAt (A := Bool) 8 (fun s11 ρ => ρ 26 = .bool s11 ∧ ρ 0 = Sl.v p0 ∧ ρ 1 = Sl.v p1 ∧ ρ 5 = .pointer (some ⟨b1, 0, none⟩)) k88 ?_ ?_
 ·rintro s11 ρ w12 ⟨e13, e14, e15, e16⟩ h
  subst hk89
  dsimp only [List.drop]
  refine RL.nil ?_
  obtain ⟨ha, hc⟩ := h
  refine CW.cond (b := s11) e13 (fun hb17 => ?_) (fun hb17 => ?_)
  ·have h := ha hb17; clear ha hc
   refine CW.seq ?_
   refine CW.region ?_
   refine RL.opS trivial rfl (OpW.callR (al := []) Try.func13 fb_13 fn_13 rfl h (fun x18 w19 h => ?_))
   refine RL.opS trivial rfl (OpW.assign (v := .bool x18) rfl ?_)
   refine RL.nil ?_
   refine CW.ret ?_
   exact ret_intro (res1 rfl rfl) ⟨x18, rfl, h⟩
  ·have h := hc hb17; clear ha hc
   refine CW.skip ?_
   refine CW.seq ?_
   refine CW.region ?_
   refine RL.opS trivial rfl (OpW.callR (al := [.int .i64 40]) Try.func15 fb_15 fn_15 rfl h (fun x20 w21 h => ?_))
   refine RL.opS trivial rfl (OpW.move (v := .tuple #[.pointer x20.1, .int .i64 x20.2]) rfl ?_)
   refine RL.opS trivial rfl (OpW.extract (v := .pointer x20.1) rfl rfl ?_)
   refine RL.opS trivial rfl (OpW.extract (v := .int .i64 x20.2) rfl rfl ?_)
   refine RL.opS trivial rfl (OpW.assign (v := .pointer x20.1) rfl ?_)
   refine RL.opS trivial rfl (OpW.assign (v := .int .i64 x20.2) rfl ?_)
   refine RL.nil ?_
   refine CW.seq ?_
   refine CW.region ?_
   refine RL.opS trivial rfl (OpW.move (v := .pointer x20.1) rfl ?_)
   refine RL.opS trivial rfl (OpW.callR (al := [.pointer x20.1, .int .i64 0, .int .i64 40]) Try.func16 fb_16 fn_16 rfl h (fun x22 w23 h => ?_))
   refine RL.opS trivial rfl (OpW.move (v := .tuple #[.pointer x22.1, Sl.v x22.2.1, .int .i64 x22.2.2]) rfl ?_)
   refine RL.opS trivial rfl (OpW.extract (v := .pointer x22.1) rfl rfl ?_)
   refine RL.opS trivial rfl (OpW.extract (v := Sl.v x22.2.1) rfl rfl ?_)
   refine RL.opS trivial rfl (OpW.extract (v := .int .i64 x22.2.2) rfl rfl ?_)
   refine RL.opS trivial rfl (OpW.assign (v := .pointer x22.1) rfl ?_)
   refine RL.opS trivial rfl (OpW.assign (v := Sl.v x22.2.1) rfl ?_)
   refine RL.opS trivial rfl (OpW.assign (v := .int .i64 x22.2.2) rfl ?_)
   refine RL.nil ?_
   refine CW.seq ?_
   refine CW.seq ?_
   refine CW.region ?_
   refine RL.opS trivial rfl (OpW.move (v := .int .i64 x22.2.2) rfl ?_)
   refine RL.opS trivial rfl (OpW.bin (k := .i64) (a := x22.2.2) (b := 0) (v := .bool (!decide (x22.2.2 = 0))) rfl rfl rfl ?_)
   refine RL.nil ?_
   obtain ⟨ha, hc⟩ := h
   refine CW.cond (b := (!decide (x22.2.2 = 0))) rfl (fun hb24 => ?_) (fun hb24 => ?_)
   ·have h := ha hb24; clear ha hc
    refine CW.seq ?_
    refine CW.region ?_
    refine RL.opS trivial rfl (OpW.assign (v := .bool false) rfl ?_)
    refine RL.nil ?_
    refine CW.ret ?_
    exact ret_intro (res1 rfl rfl) ⟨false, rfl, h⟩
   ·have h := hc hb24; clear ha hc
    refine CW.skip ?_
    refine CW.seq ?_
    refine CW.seq ?_
    refine CW.region ?_
    refine RL.opS trivial rfl (OpW.move (v := .pointer x22.1) rfl ?_)
    refine RL.opS trivial rfl (OpW.move (v := Sl.v p0) e14 ?_)
    refine RL.opS trivial rfl (OpW.callR (al := [.pointer x22.1, Sl.v p0]) Try.func20 fb_20 fn_20 rfl h (fun x25 w26 h => ?_))
    refine RL.opS trivial rfl (OpW.bin (k := .i64) (a := x25) (b := 0) (v := .bool (!decide (x25 = 0))) rfl rfl rfl ?_)
    refine RL.nil ?_
    obtain ⟨ha, hc⟩ := h
    refine CW.cond (b := (!decide (x25 = 0))) rfl (fun hb27 => ?_) (fun hb27 => ?_)
    ·have h := ha hb27; clear ha hc
     refine CW.seq ?_
     refine CW.region ?_
     refine RL.opS trivial rfl (OpW.move (v := .pointer x22.1) rfl ?_)
     refine RL.opS trivial rfl (OpW.callR (al := [.pointer x22.1]) Try.func17 fb_17 fn_17 rfl h (fun x28 w29 h => ?_))
     refine RL.opS trivial rfl (OpW.bin (k := .i64) (a := x28) (b := 20480) (v := .bool (decide (x28 < 20480))) rfl rfl rfl ?_)
     refine RL.opS trivial rfl (OpW.assign (v := .bool (decide (x28 < 20480))) rfl ?_)
     refine RL.nil ?_
     refine CW.ret ?_
     exact ret_intro (res1 rfl rfl) ⟨(decide (x28 < 20480)), rfl, h⟩
    ·have h := hc hb27; clear ha hc
     refine CW.skip ?_
     refine CW.seq ?_
     obtain ⟨w30, hw30_⟩ : ∃ w_, w_ = w26.drew := ⟨_, rfl⟩
     have h := h w30 hw30_
     have hx31 : Ext w26 w30 := by rw [hw30_]; exact Ext.drew _
     refine CW.draws (m := 10) (listed := #[F,F,F,F,F,F,F,F,F,F]) mixed [0, 1, 2, 3, 4, 5, 6, 7, 8] (Ext w26) rfl rfl ?_
     rw [← hw30_]
     refine DL.takeP (listed' := #[T,F,F,F,F,F,F,F,F,F]) (v := .pointer x20.1) 0 rfl rfl (by kernel_rfl) rfl trivial rfl (fun w_ K_ h_ => OpW.move (v := .pointer x20.1) rfl h_) ?_
     refine DL.takeP (listed' := #[T,F,T,F,F,F,F,F,F,F]) (v := .pointer (some (Addr.add ⟨b1, 0, none⟩ 0))) 2 rfl rfl (by kernel_rfl) rfl trivial rfl (fun w_ K_ h_ => OpW.fieldAddr (off := 0) field_27_0 e16 h_) ?_
     obtain ⟨x32, h1, h⟩ := h
     refine DL.takeK (listed' := #[T,F,T,T,F,F,F,F,F,F]) (v := .int .i64 x32) 3 rfl rfl (by kernel_rfl) (by kernel_rfl) rfl trivial rfl hx31 (fun w_ hS_ K_ h_ => OpW.load1 (v := .int .i64 x32) one_3 rfl (hS_.cell h1) h_) ?_
     refine DL.takeP (listed' := #[T,F,T,T,T,F,F,F,F,F]) (v := .int .u64 (IntKind.u64.wrap x32)) 4 rfl rfl (by kernel_rfl) rfl trivial rfl (fun w_ K_ h_ => OpW.convInt (a := x32) int_3 int_66 rfl h_) ?_
     refine DL.takeP (listed' := #[T,F,T,T,T,T,F,F,F,F]) (v := .int .u64 (Int.tmod (IntKind.u64.wrap x32) 45)) 5 rfl rfl (by kernel_rfl) rfl trivial rfl (fun w_ K_ h_ => OpW.quo (a := (IntKind.u64.wrap x32)) (b := 45) (v := .int .u64 (Int.tmod (IntKind.u64.wrap x32) 45)) rfl rfl (by decide) rfl h_) ?_
     refine DL.takeP (listed' := #[T,F,T,T,T,T,T,F,F,F]) (v := .int .i64 (IntKind.i64.wrap (Int.tmod (IntKind.u64.wrap x32) 45))) 6 rfl rfl (by kernel_rfl) rfl trivial rfl (fun w_ K_ h_ => OpW.convInt (a := (Int.tmod (IntKind.u64.wrap x32) 45)) int_66 int_3 rfl h_) ?_
     refine DL.execS (listed' := #[T,T,T,T,T,T,T,F,F,F]) 1 rfl (by kernel_rfl) rfl trivial rfl (OpW.callR (al := [.pointer x20.1]) Try.func19 fb_19 fn_19 rfl h (fun x33 w34 h => ?_))
     obtain ⟨hx35, h⟩ := h
     refine ⟨(fun _ _ => hx35), ?_⟩
     refine DL.takeP (listed' := #[T,T,T,T,T,T,T,T,F,F]) (v := .int .i64 (IntKind.i64.wrap (x33 + (IntKind.i64.wrap (Int.tmod (IntKind.u64.wrap x32) 45))))) 7 rfl rfl (by kernel_rfl) rfl trivial rfl (fun w_ K_ h_ => OpW.bin (k := .i64) (a := x33) (b := (IntKind.i64.wrap (Int.tmod (IntKind.u64.wrap x32) 45))) (v := .int .i64 (IntKind.i64.wrap (x33 + (IntKind.i64.wrap (Int.tmod (IntKind.u64.wrap x32) 45))))) rfl rfl rfl h_) ?_
     refine DL.takeP (listed' := #[T,T,T,T,T,T,T,T,T,F]) (v := .pointer (some (Addr.add ⟨b1, 0, none⟩ 0))) 8 rfl rfl (by kernel_rfl) rfl trivial rfl (fun w_ K_ h_ => OpW.fieldAddr (off := 0) field_27_0 e16 h_) ?_
     obtain ⟨u_, h1, h2, h⟩ := h
     obtain ⟨w36, hw36_⟩ : ∃ w_, w_ = w34.setCell (Addr.add ⟨b1, 0, none⟩ 0) (.int .i64 (IntKind.i64.wrap (x33 + (IntKind.i64.wrap (Int.tmod (IntKind.u64.wrap x32) 45))))) := ⟨_, rfl⟩
     have h := h w36 hw36_
     refine DL.execN (listed' := #[T,T,T,T,T,T,T,T,T,T]) 9 rfl (by kernel_rfl) rfl trivial (OpW.store1E (v := .int .i64 (IntKind.i64.wrap (x33 + (IntKind.i64.wrap (Int.tmod (IntKind.u64.wrap x32) 45))))) size_3 rfl rfl rfl h1 h2 hw36_ ?_)
     refine ⟨(fun h_ => absurd h_ (by decide)), ?_⟩
     refine DL.done (by kernel_rfl) ?_
     refine CW.seq ?_
     refine CW.region ?_
     refine RL.opS trivial rfl (OpW.move (v := .pointer x20.1) rfl ?_)
     obtain ⟨x37, h1, h2, h⟩ := h
     refine RL.opS trivial rfl (OpW.loadA agg_27 e16 h1 h2 ?_)
     obtain ⟨hl_, ho_, h⟩ := h
     obtain ⟨b38, hb38_⟩ : ∃ b_, b_ = w36.heap.size := ⟨_, rfl⟩
     obtain ⟨w39, hw39_⟩ : ∃ w_, w_ = w36.alloc (.cells (List.toArray x37) 27) := ⟨_, rfl⟩
     have h := h b38 w39 hb38_ hw39_
     refine RL.opS trivial rfl (OpW.buildSliceE (vs := [(0, aggv x37)]) (cs := x37) (by rfl) (fillOne mkz_47 (by simp) (by decide) (by decide) hl_) hb38_ hw39_ ?_)
     refine RL.opS trivial rfl (OpW.callR (al := [.pointer x20.1, Sl.v ⟨some ⟨b38, 0, none⟩, 1, 1⟩]) Try.func37 fb_37 fn_37 rfl h (fun x40 w41 h => ?_))
     refine RL.nil ?_
     refine CW.seq ?_
     refine CW.region ?_
     refine RL.opS trivial rfl (OpW.move (v := .pointer x22.1) rfl ?_)
     refine RL.opS trivial rfl (OpW.move (v := Sl.v p1) e15 ?_)
     refine RL.opS trivial rfl (OpW.callR (al := [.pointer x22.1, Sl.v p1]) Try.func20 fb_20 fn_20 rfl h (fun x42 w43 h => ?_))
     refine RL.opS trivial rfl (OpW.assign (v := .int .i64 x42) rfl ?_)
     refine RL.nil ?_
     refine CW.seq ?_
     refine CW.seq ?_
     refine CW.region ?_
     refine RL.opS trivial rfl (OpW.move (v := .int .i64 x42) rfl ?_)
     refine RL.opS trivial rfl (OpW.bin (k := .i64) (a := x42) (b := 40) (v := .bool (decide (x42 = 40))) rfl rfl rfl ?_)
     refine RL.nil ?_
     obtain ⟨ha, hc⟩ := h
     refine CW.cond (b := (decide (x42 = 40))) rfl (fun hb44 => ?_) (fun hb44 => ?_)
     ·have h := ha hb44; clear ha hc
      refine CW.seq ?_
      refine CW.region ?_
      refine RL.opS trivial rfl (OpW.assign (v := .bool true) rfl ?_)
      refine RL.nil ?_
      refine CW.ret ?_
      exact ret_intro (res1 rfl rfl) ⟨true, rfl, h⟩
     ·have h := hc hb44; clear ha hc
      refine CW.skip ?_
      refine CW.seq ?_
      refine CW.region ?_
      refine RL.opS trivial rfl (OpW.move (v := .pointer x20.1) rfl ?_)
      obtain ⟨x45, h1, h2, h⟩ := h
      refine RL.opS trivial rfl (OpW.loadA agg_27 e16 h1 h2 ?_)
      refine RL.opS trivial rfl (OpW.callR (al := [.pointer x20.1, aggv x45]) Try.func35 fb_35 fn_35 rfl h (fun x46 w47 h => ?_))
      refine RL.nil ?_
      refine CW.seq ?_
      refine CW.region ?_
      refine RL.opS trivial rfl (OpW.move (v := .pointer x20.1) rfl ?_)
      refine RL.opS trivial rfl (OpW.callR (al := [.pointer x20.1]) Try.func27 fb_27 fn_27 rfl h (fun x48 w49 h => ?_))
      refine RL.nil ?_
      refine CW.seq ?_
      refine CW.region ?_
      refine RL.opS trivial rfl (OpW.move (v := .pointer x20.1) rfl ?_)
      refine RL.opS trivial rfl (OpW.callR (al := [.pointer x20.1, .int .i64 0, .int .i64 40]) Try.func16 fb_16 fn_16 rfl h (fun x50 w51 h => ?_))
      refine RL.opS trivial rfl (OpW.move (v := .tuple #[.pointer x50.1, Sl.v x50.2.1, .int .i64 x50.2.2]) rfl ?_)
      refine RL.opS trivial rfl (OpW.extract (v := .pointer x50.1) rfl rfl ?_)
      refine RL.opS trivial rfl (OpW.extract (v := Sl.v x50.2.1) rfl rfl ?_)
      refine RL.opS trivial rfl (OpW.extract (v := .int .i64 x50.2.2) rfl rfl ?_)
      refine RL.opS trivial rfl (OpW.assign (v := .pointer x50.1) rfl ?_)
      refine RL.opS trivial rfl (OpW.assign (v := Sl.v x50.2.1) rfl ?_)
      refine RL.opS trivial rfl (OpW.assign (v := .int .i64 x50.2.2) rfl ?_)
      refine RL.nil ?_
      refine CW.seq ?_
      refine CW.region ?_
      refine RL.opS trivial rfl (OpW.move (v := Sl.v p0) e14 ?_)
      refine RL.opS trivial rfl (OpW.callR (al := [Sl.v p0]) Try.func44 fb_44 fn_44 rfl h (fun x52 w53 h => ?_))
      refine RL.opS trivial rfl (OpW.move (v := Sl.v p1) e15 ?_)
      refine RL.opS trivial rfl (OpW.callR (al := [Sl.v p1]) Try.func44 fb_44 fn_44 rfl h (fun x54 w55 h => ?_))
      obtain ⟨x56, w57, hr_, h⟩ := h
      refine RL.opS trivial rfl (OpW.appendL (v := Sl.v x56) rfl hr_ ?_)
      refine RL.opS trivial rfl (OpW.assign (v := Sl.v x56) rfl ?_)
      refine RL.nil ?_
      refine CW.seq ?_
      refine CW.region ?_
      refine RL.opS trivial rfl (OpW.move (v := .int .i64 x50.2.2) rfl ?_)
      refine RL.opS trivial rfl (OpW.bin (k := .i64) (a := x50.2.2) (b := 0) (v := .bool (decide (x50.2.2 = 0))) rfl rfl rfl ?_)
      refine RL.opS trivial rfl (OpW.move (v := .bool (decide (x50.2.2 = 0))) rfl ?_)
      refine jn_elim h ?_; clear h; intro k86 hk87 h
      refine RL.joinAt (A := Bool) 14 (fun s83 ρ => ρ 97 = .bool s83) k86 ?_ ?_
      ·rintro s83 ρ w84 e85 h
       subst hk87
       dsimp only [List.drop]
       refine RL.opS trivial rfl (OpW.assign (v := .bool s83) e85 ?_)
       refine RL.nil ?_
       refine CW.ret ?_
       exact ret_intro (res1 rfl rfl) ⟨s83, rfl, h⟩
      ·clear hk87
       dsimp only [List.take]
       obtain ⟨ha, hc⟩ := h
       rcases Bool.eq_false_or_eq_true (decide (x50.2.2 = 0)) with hb58 | hb58
       ·have h := ha hb58; clear ha hc
        refine RL.opS (wanted_of rfl rfl hb58) rfl (OpW.move (v := Sl.v x50.2.1) rfl ?_)
        refine RL.opS (wanted_of rfl rfl hb58) rfl (OpW.move (v := Sl.v x56) rfl ?_)
        refine RL.opS (wanted_of rfl rfl hb58) rfl (OpW.callR (al := [Sl.v x50.2.1, Sl.v x56]) Try.func45 fb_45 fn_45 rfl h (fun x60 w61 h => ?_))
        refine RL.opS (wanted_of rfl rfl hb58) rfl (OpW.move (v := .bool x60) rfl ?_)
        refine jn_elim h ?_; clear h; intro k81 hk82 h
        refine RL.joinAt (A := Bool) 9 (fun s77 ρ => ρ 96 = .bool s77 ∧ ρ 83 = .bool (decide (x50.2.2 = 0))) k81 ?_ ?_
        ·rintro s77 ρ w78 ⟨e79, e80⟩ h
         subst hk82
         dsimp only [List.drop]
         refine RL.opS trivial rfl (OpW.pick (b := true) (v := .bool s77) (e80.trans (congrArg Value.bool hb58)) e79 ?_)
         refine RL.nil ?_
         exact ⟨s77, rfl, h⟩
        ·clear hk82
         dsimp only [List.take]
         obtain ⟨ha, hc⟩ := h
         rcases Bool.eq_false_or_eq_true x60 with hb62 | hb62
         ·have h := ha hb62; clear ha hc
          refine RL.skipS (notWanted_of rfl rfl hb62) rfl ?_
          refine RL.skipS (notWanted_of rfl rfl hb62) rfl ?_
          refine RL.skipS (notWanted_of rfl rfl hb62) rfl ?_
          refine RL.skipS (notWanted_undef rfl rfl) rfl ?_
          refine RL.skipS (notWanted_undef rfl rfl) rfl ?_
          refine RL.skipS (notWanted_undef rfl rfl) rfl ?_
          refine RL.skipS (notWanted_undef rfl rfl) rfl ?_
          refine RL.skipS (notWanted_of rfl rfl hb62) rfl ?_
          refine RL.opS (wanted_of rfl rfl hb58) rfl (OpW.pick (b := true) (v := .bool true) (congrArg Value.bool hb62) rfl ?_)
          refine RL.nil ?_
          exact ⟨true, ⟨rfl, rfl⟩, h⟩
         ·have h := hc hb62; clear ha hc
          refine RL.opS (wanted_of rfl rfl hb62) rfl (OpW.move (v := .int .i64 x42) rfl ?_)
          refine RL.opS (wanted_of rfl rfl hb62) rfl (OpW.bin (k := .i64) (a := x42) (b := 0) (v := .bool (!decide (x42 = 0))) rfl rfl rfl ?_)
          refine RL.opS (wanted_of rfl rfl hb62) rfl (OpW.move (v := .bool (!decide (x42 = 0))) rfl ?_)
          refine jn_elim h ?_; clear h; intro k75 hk76 h
          refine RL.joinAt (A := Bool) 5 (fun s70 ρ => ρ 95 = .bool s70 ∧ ρ 83 = .bool (decide (x50.2.2 = 0)) ∧ ρ 87 = .bool x60) k75 ?_ ?_
          ·rintro s70 ρ w71 ⟨e72, e73, e74⟩ h
           subst hk76
           dsimp only [List.drop]
           refine RL.opS (wanted_of rfl e73 hb58) rfl (OpW.pick (b := false) (v := .bool s70) (e74.trans (congrArg Value.bool hb62)) e72 ?_)
           refine RL.nil ?_
           exact ⟨s70, ⟨rfl, e73⟩, h⟩
          ·clear hk76
           dsimp only [List.take]
           obtain ⟨ha, hc⟩ := h
           rcases Bool.eq_false_or_eq_true (!decide (x42 = 0)) with hb64 | hb64
           ·have h := ha hb64; clear ha hc
            refine RL.opS (wanted_of rfl rfl hb64) rfl (OpW.move (v := Sl.v x50.2.1) rfl ?_)
            refine RL.opS (wanted_of rfl rfl hb64) rfl (OpW.move (v := Sl.v p0) e14 ?_)
            refine RL.opS (wanted_of rfl rfl hb64) rfl (OpW.callR (al := [Sl.v p0]) Try.func44 fb_44 fn_44 rfl h (fun x66 w67 h => ?_))
            refine RL.opS (wanted_of rfl rfl hb64) rfl (OpW.callR (al := [Sl.v x50.2.1, Sl.v x66]) Try.func45 fb_45 fn_45 rfl h (fun x68 w69 h => ?_))
            refine RL.opS (wanted_of rfl rfl hb62) rfl (OpW.pick (b := true) (v := .bool x68) (congrArg Value.bool hb64) rfl ?_)
            refine RL.nil ?_
            exact ⟨x68, ⟨rfl, rfl, rfl⟩, h⟩
           ·have h := hc hb64; clear ha hc
            refine RL.skipS (notWanted_of rfl rfl hb64) rfl ?_
            refine RL.skipS (notWanted_of rfl rfl hb64) rfl ?_
            refine RL.skipS (notWanted_of rfl rfl hb64) rfl ?_
            refine RL.skipS (notWanted_of rfl rfl hb64) rfl ?_
            refine RL.opS (wanted_of rfl rfl hb62) rfl (OpW.pick (b := false) (v := .bool false) (congrArg Value.bool hb64) rfl ?_)
            refine RL.nil ?_
            exact ⟨false, ⟨rfl, rfl, rfl⟩, h⟩
       ·have h := hc hb58; clear ha hc
        refine RL.skipS (notWanted_of rfl rfl hb58) rfl ?_
        refine RL.skipS (notWanted_of rfl rfl hb58) rfl ?_
        refine RL.skipS (notWanted_of rfl rfl hb58) rfl ?_
        refine RL.skipS (notWanted_of rfl rfl hb58) rfl ?_
        refine RL.skipS (notWanted_undef rfl rfl) rfl ?_
        refine RL.skipS (notWanted_undef rfl rfl) rfl ?_
        refine RL.skipS (notWanted_undef rfl rfl) rfl ?_
        refine RL.skipS (notWanted_undef rfl rfl) rfl ?_
        refine RL.skipS (notWanted_undef rfl rfl) rfl ?_
        refine RL.skipS (notWanted_undef rfl rfl) rfl ?_
        refine RL.skipS (notWanted_undef rfl rfl) rfl ?_
        refine RL.skipS (notWanted_undef rfl rfl) rfl ?_
        refine RL.skipS (notWanted_of rfl rfl hb58) rfl ?_
        refine RL.opS trivial rfl (OpW.pick (b := false) (v := .bool false) (congrArg Value.bool hb58) rfl ?_)
        refine RL.nil ?_
        exact ⟨false, rfl, h⟩
 ·clear hk89
  dsimp only [List.take]
  obtain ⟨ha, hc⟩ := h
  rcases Bool.eq_false_or_eq_true (!x3) with hb5 | hb5
  ·have h := ha hb5; clear ha hc
   refine RL.skipS (notWanted_of rfl rfl hb5) rfl ?_
   refine RL.skipS (notWanted_of rfl rfl hb5) rfl ?_
   refine RL.skipS (notWanted_of rfl rfl hb5) rfl ?_
   refine RL.skipS (notWanted_of rfl rfl hb5) rfl ?_
   refine RL.skipS (notWanted_of rfl rfl hb5) rfl ?_
   refine RL.skipS (notWanted_of rfl rfl hb5) rfl ?_
   refine RL.skipS (notWanted_of rfl rfl hb5) rfl ?_
   refine RL.opS trivial rfl (OpW.pick (b := true) (v := .bool true) (congrArg Value.bool hb5) rfl ?_)
   refine RL.nil ?_
   exact ⟨true, ⟨rfl, rfl, rfl, rfl⟩, h⟩
  ·have h := hc hb5; clear ha hc
   refine RL.opS (wanted_of rfl rfl hb5) rfl (OpW.move (v := Sl.v p0) rfl ?_)
   refine RL.opS (wanted_of rfl rfl hb5) rfl (OpW.buildL (vs := [(1, Sl.v p0)]) (cs := [Value.int .i64 0, Sl.v p0, Value.int .i64 0, Value.int .u64 0, Value.int .i64 0]) (by rfl) (fun _ => by kernel_rfl) ?_)
   refine RL.opS (wanted_of rfl rfl hb5) rfl (OpW.move (v := Sl.v p1) rfl ?_)
   refine RL.opS (wanted_of rfl rfl hb5) rfl (OpW.buildL (vs := [(1, Sl.v p1)]) (cs := [Value.int .i64 0, Sl.v p1, Value.int .i64 0, Value.int .u64 0, Value.int .i64 0]) (by rfl) (fun _ => by kernel_rfl) ?_)
   obtain ⟨b7, hb7_⟩ : ∃ b_, b_ = w4.heap.size := ⟨_, rfl⟩
   obtain ⟨w8, hw8_⟩ : ∃ w_, w_ = w4.alloc (.cells (List.toArray ([Value.int .i64 0, Sl.v p0, Value.int .i64 0, Value.int .u64 0, Value.int .i64 0] ++ [Value.int .i64 0, Sl.v p1, Value.int .i64 0, Value.int .u64 0, Value.int .i64 0])) 29) := ⟨_, rfl⟩
   have h := h b7 w8 hb7_ hw8_
   refine RL.opS (wanted_of rfl rfl hb5) rfl (OpW.buildSliceE (vs := [(0, aggv [Value.int .i64 0, Sl.v p0, Value.int .i64 0, Value.int .u64 0, Value.int .i64 0]), (1, aggv [Value.int .i64 0, Sl.v p1, Value.int .i64 0, Value.int .u64 0, Value.int .i64 0])]) (cs := ([Value.int .i64 0, Sl.v p0, Value.int .i64 0, Value.int .u64 0, Value.int .i64 0] ++ [Value.int .i64 0, Sl.v p1, Value.int .i64 0, Value.int .u64 0, Value.int .i64 0])) (by rfl) (by kernel_rfl) hb7_ hw8_ ?_)
   refine RL.opS (wanted_of rfl rfl hb5) rfl (OpW.callR (al := [.int .i64 3, Sl.v ⟨some ⟨b7, 0, none⟩, 2, 2⟩]) Try.func14 fb_14 fn_14 rfl h (fun x9 w10 h => ?_))
   refine RL.opS (wanted_of rfl rfl hb5) rfl (OpW.not rfl ?_)
   refine RL.opS trivial rfl (OpW.pick (b := false) (v := .bool (!x9)) (congrArg Value.bool hb5) rfl ?_)
   refine RL.nil ?_
   exact ⟨(!x9), ⟨rfl, rfl, rfl, rfl⟩, h⟩
end Go.Proofs.Ytagkcbbbdlmcjaa
end
section
/- WalAtomic: wherever the power fails in an Add, and whatever stays, the records found are those ahead of it, with all of its own behind them or none; and with all, if it was told as done: the law answers true and leaves all that was there. -/
namespace Go.Proofs.Ytagkcbbbdlmcjaa
open Go.Lift Go.Lift.Disk Go.Lift.Crc Go.Lift.Wal Go.RowKit
theorem fits_two {w w' : World} {b : Nat} {p q : Sl} {l m : List (List UInt8)} (h : Parts w p l) (k : Parts w q m) (hb : b = w.heap.size)
  (hw : w' = w.alloc (.cells ([Value.int .i64 0, p.v, Value.int .i64 0, Value.int .u64 0, Value.int .i64 0] ++ [Value.int .i64 0, q.v, Value.int .i64 0, Value.int .u64 0, Value.int .i64 0]).toArray 29)) :
  OpsJ w' ⟨some ⟨b, 0, none⟩, 2, 2⟩ [⟨0, p, l, (0, 0, 0)⟩, ⟨0, q, m, (0, 0, 0)⟩] := by
 refine ⟨rfl, At.new hb hw, fun o ho => ?_⟩
 simp only [List.mem_cons, List.not_mem_nil, or_false] at ho
 rcases ho with rfl | rfl
 ·exact ⟨h.ext (Ext.new hw), by show (0 : Int) ≤ 0 ∧ (0 : Int) < 18446744073709551616; decide⟩
 ·exact ⟨k.ext (Ext.new hw), by show (0 : Int) ≤ 0 ∧ (0 : Int) < 18446744073709551616; decide⟩
theorem walAtomic_ok (w : World) (p0 : Sl) (l0 : List (List UInt8)) (h0 : Parts w p0 l0) (hlc0 : p0.len ≤ p0.cap) (hcm0 : p0.cap ≤ maxLen) (hb0 : ∀ b ∈ l0, b.length ≤ maxLen)
  (p1 : Sl) (l1 : List (List UInt8)) (h1 : Parts w p1 l1) (hlc1 : p1.len ≤ p1.cap) (hcm1 : p1.cap ≤ maxLen) (hb1 : ∀ b ∈ l1, b.length ≤ maxLen) (f : Fall) (hf : 0 ≤ f.2.1 ∧ f.2.1 < 18446744073709551616) :
  Calls Try.prog 11 #[p0.v, p1.v, aggv (fallOf f)] w (Ret r11 fun x w' => x = true ∧ Ext w w') := by
 apply s11_calls
 intro b1 w2 hb1' hw2
 have hx2 : Ext w w2 := Ext.new hw2
 have hB2 : Blk w2 b1 27 (fallOf f) := Blk.new hb1' hw2
 refine cR_of (lives4_ok w2) ?_
 rintro x3 w4 ⟨rfl, hx4⟩
 refine jn_of fun k1 hk1 => ⟨fun h => absurd h (by decide), fun _ => ?_⟩
 have hx4' := hx2.trans hx4
 intro b7 w8 hb7 hw8
 have hx8 : Ext w4 w8 := Ext.new hw8
 refine cR_of (fits4_ok w8 3 _ _ (fits_two (h0.ext hx4') (h1.ext hx4') hb7 hw8)) ?_
 rintro x9 w10 ⟨hfit, hx10⟩
 have hx10' := (hx4'.trans hx8).trans hx10
 rw [hk1]
 refine ⟨fun _ => cR_of (lives4_ok w10) fun x w' ⟨hx, hw⟩ => ⟨hx, hx10'.trans hw⟩, fun hfl => ?_⟩
 obtain ⟨_, _, _, hall⟩ := hfit (by simpa using hfl)
 obtain ⟨hl0, hs0⟩ := hall _ (List.mem_cons_self ..)
 obtain ⟨hl1, hs1⟩ := hall _ (List.mem_cons_of_mem _ (List.mem_singleton.2 rfl))
 simp only at hl0 hs0 hl1 hs1
 have hB10 := ((hB2.ext hx4).ext hx8).ext hx10
 have hb1l := hB10.lt
 refine cR_of (new_ok w10 40 (by decide) (by decide)) ?_
 rintro x20 w21 ⟨pd, bb, rfl, h21, hx21⟩
 obtain ⟨hpd, hbb, hpdl, hbbl⟩ := h21.lt
 have hpd : w10.heap.size ≤ pd := hpd
 have hbb : w10.heap.size ≤ bb := hbb
 have ho := open_ok h21 (upB hx21.size) 0 40 (by decide) (by simp [fresh]) (fresh_bnd 40 2 (by decide))
 rw [open_new 40 0 (roomOf 40) (by decide)] at ho
 refine cR_of ho ?_
 rintro ⟨x22a, x22b, x22c⟩ w23 ⟨pl, e1, hpl, e2, hrs, hW, hf23⟩
 simp only at e1 e2 hrs
 subst e1; subst e2
 have hx23 := footExt hf23 hx21 hpd hbb
 have hplw : w10.heap.size ≤ pl := Nat.le_trans hx21.size hpl
 refine ⟨fun h => absurd h (by simp), fun _ => ?_⟩
 have hR1 : Rest 40 0 (roomOf 40) (headed (fresh 40) 0 1 0) ⟨1, [], 0, false⟩ := rest_new (by decide) (by decide) (by decide)
 have hbE : ∀ k, k < 900000 → Bnd (headed (fresh 40) 0 1 0) k := fun k hk => ⟨by show 0 + 1 + 1 + k < _; omega, by show 0 + k < _; omega⟩
 generalize headed (fresh 40) 0 1 0 = D1 at hW hR1 hbE
 have hx23' := hx10'.trans hx23
 refine cR_of (add_ok hW (upB hx23.size) (hbE 5000 (by decide)) p0 l0 (h0.ext hx23') (by omega) (fun s hs => Nat.le_trans (hs0 s hs) (by decide))) ?_
 rintro x25 w26 ⟨rfl, hW26, hf26⟩
 have hx26 := wfootExt hf26 hx23 hpd hbb hplw
 have hbA : Bnd (addD D1 ⟨1, [], 0, false⟩ 0 (roomOf 40) l0).1 800000 := Bnd.addD (hbE 804200 (by decide)) (by decide)
 refine ⟨fun hne => ?_, fun he => ?_⟩
 ·refine cR_of (room_ok hW26) ?_
  rintro x28 w29 ⟨rfl, hx29⟩
  refine ⟨?_, (hx10'.trans hx26).trans hx29⟩
  have : ((roomOf 40 : Nat) : Int) = 19456 := by decide
  exact decide_eq_true (by omega)
 have he := nd_f he
 obtain ⟨hR2, hD2, hbr2, hsq2⟩ := add_rest hR1 rfl (by decide) (by decide) l0 he
 have hD2 : (addD D1 ⟨1, [], 0, false⟩ 0 (roomOf 40) l0).2.1.data = l0.flatMap frameB := by rw [hD2]; simp
 have hsq2 : (addD D1 ⟨1, [], 0, false⟩ 0 (roomOf 40) l0).2.1.seq < last := Nat.lt_of_le_of_lt hsq2 (by decide)
 generalize (addD D1 ⟨1, [], 0, false⟩ 0 (roomOf 40) l0).1 = D2 at hW26 hbA hR2
 generalize (addD D1 ⟨1, [], 0, false⟩ 0 (roomOf 40) l0).2.1 = L2 at hW26 hR2 hD2 hbr2 hsq2
 intro w30 hw30
 have hx30 : Ext w26 w30 := by subst hw30; exact Ext.drew _
 have hB26 := hB10.ext hx26
 refine ⟨f.1, by rw [add_plain]; exact hB26.cell rfl, ?_⟩
 refine cR_of (changes_ok (hW26.ext hx30).disk) ?_
 rintro x33 w34 ⟨rfl, rfl⟩
 refine ⟨hx30, ?_⟩
 show st1 _ _ _ _
 rw [add_plain]
 refine st1_blk (hB26.ext hx30) (by simp [fallOf]) fun w36 hB36 hf36 => ?_
 obtain ⟨f', hf'⟩ : ∃ f' : Fall, f' = (IntKind.i64.wrap ((D2.changes : Int) + IntKind.i64.wrap (Int.tmod (IntKind.u64.wrap f.1) 45)), f.2.1, f.2.2) := ⟨_, rfl⟩
 have hB36 : Blk w36 b1 27 (fallOf f') := by rw [hf']; exact hB36
 have hkf : 0 ≤ f'.2.1 ∧ f'.2.1 < 18446744073709551616 := by rw [hf']; exact hf
 clear hf'
 have hxw34 : Ext w w30 := (hx10'.trans hx26).trans hx30
 have hb1w : w.heap.size ≤ b1 := by rw [hb1']; exact Nat.le_refl _
 have hxw36 : Ext w w36 := hf36.ext hxw34 fun k _ e => by rw [e]; exact hb1w
 have hs10 : w10.heap.size ≤ w30.heap.size := (hx26.trans hx30).size
 have hs36 : w10.heap.size ≤ w36.heap.size := Nat.le_trans hs10 hf36.size
 obtain ⟨g, sd, hX26⟩ := hW26
 have hb1n : ∀ k, Up w10.heap.size k → ¬ k = b1 := fun k hk e => by have hk : w10.heap.size ≤ k := hk; omega
 have hX36 := (hX26.ext hx30).fr hf36 hb1n
 refine ⟨fallOf f', rfl, hB36.at rfl, rfl, fall_one _, fun b38 w39 hb38 hw39 => ?_⟩
 have hx39 : Ext w36 w39 := Ext.new hw39
 have hX39 := hX36.ext hx39
 obtain ⟨hpll, hpdl2, hbbl2, hpln, hgn⟩ := hX39.lt
 have hgl := hX39.glt
 have hs39 : w10.heap.size ≤ w39.heap.size := Nat.le_trans hs36 hx39.size
 have hpw : w.heap.size ≤ pd := Nat.le_trans hx10'.size hpd
 have hbw : w.heap.size ≤ bb := Nat.le_trans hx10'.size hbb
 have hplw' : w.heap.size ≤ pl := Nat.le_trans hx10'.size hplw
 have hfc : fallC [f'] = fallOf f' := by simp [fallC]
 refine cR_of (plan_ok hX39.disk ⟨some ⟨b38, 0, none⟩, 1, 1⟩ [f'] rfl (by rw [hfc]; exact At.new hb38 hw39) (by intro h; cases h) (by simp) (fun k hk => ⟨⟨Nat.le_trans hs39 hk, by omega⟩, by omega⟩) (by intro q hq; rw [List.mem_singleton.1 hq]; exact hkf)) ?_
 rintro x40 w41 ⟨h41, hf41⟩
 have hX41 := hX39.setDisk h41 hf41
 have hxw41 := footExt hf41 (hxw36.trans hx39) hpw hbw
 have hs41 : w10.heap.size ≤ w41.heap.size := Nat.le_trans hs39 hf41.size
 have hRp := hR2.plan [f']
 have hbP : Bnd (Dk.plan D2 [f']) 700000 := ⟨by have := hbA.1; show D2.changes + _ < _; omega, by have := hbA.2; show D2.pend.length + _ < _; omega⟩
 have hs0' : ∀ s ∈ l0, s.length ≤ 1000000 := fun s hs => Nat.le_trans (hs0 s hs) (by decide)
 have hs1' : ∀ s ∈ l1, s.length ≤ 1000000 := fun s hs => Nat.le_trans (hs1 s hs) (by decide)
 refine cR_of (add_ok ⟨g, sd, hX41⟩ (upB hs41) (hbP.mono (by decide)) p1 l1 (h1.ext hxw41) (by omega) (fun s hs => Nat.le_trans (hs1' s hs) (by decide))) ?_
 rintro x42 w43 ⟨hx42, hW43, hf43⟩
 have hxw43 := wfootExt hf43 hxw41 hpw hbw hplw'
 have hb43 : Bnd (addD (Dk.plan D2 [f']) L2 0 (roomOf 40) l1).1 600000 := Bnd.addD (hbP.mono (by decide)) (by decide)
 refine ⟨fun _ => ⟨rfl, hxw43⟩, fun h40 => ?_⟩
 have h40 := of_decide_eq_false h40
 rw [hx42] at h40
 obtain ⟨L', rs, eo, elen, hor⟩ := add_atomic hRp hbr2 hsq2 (by decide) l0 l1 hD2 hs0' hs1' h40 f'
 rw [← hx42] at hor
 clear hx42
 generalize (addD (Dk.plan D2 [f']) L2 0 (roomOf 40) l1).1 = D3 at hW43 hb43 eo elen
 have hb1f : ¬ WFoot pd bb pl b1 := by rintro ((e | e) | e) <;> omega
 have hb1f' : ¬ Foot pd bb b1 := fun h => hb1f (.inl h)
 have hB43 := ((hB36.ext hx39).fr hf41 hb1f').fr hf43 hb1f
 refine ⟨fallOf f', rfl, hB43.at rfl, ?_⟩
 refine cR_of (crash_ok hW43.disk f' hkf) ?_
 rintro x46 w47 ⟨h47, hf47⟩
 have hxw47 := footExt hf47 hxw43 hpw hbw
 refine cR_of (up_ok h47) ?_
 rintro x48 w49 ⟨_, h49, hf49⟩
 have hxw49 := footExt hf49 hxw47 hpw hbw
 have hs49 : w10.heap.size ≤ w49.heap.size := Nat.le_trans hs41 (Nat.le_trans hf43.size (Nat.le_trans hf47.size hf49.size))
 have hbU : Bnd (D3.crash f').up 2 := by
  obtain ⟨c1, c2⟩ := crash_size D3 f'
  exact ⟨by show (D3.crash f').changes + 2 < _; have := hb43.1; omega, by show (D3.crash f').pend.length + 2 < _; have := hb43.2; omega⟩
 have ho2 := open_ok h49 (upB hs49) 0 40 (by decide) (by rw [elen]; decide) hbU
 rw [eo] at ho2
 refine cR_of ho2 ?_
 rintro ⟨x50a, x50b, x50c⟩ w51 ⟨pl2, e1, hpl2, e2, hrs2, hW2, hf51⟩
 simp only at e1 e2 hrs2
 subst e1; subst e2
 have hxw51 := footExt hf51 hxw49 hpw hbw
 have hp2 := hrs2.parts
 refine cR_of (texts_ok w51 p0 l0 (h0.ext hxw51) (by omega)) ?_
 rintro x52 w53 ⟨ho52, hl52, hx53⟩
 refine cR_of (texts_ok w53 p1 l1 (h1.ext (hxw51.trans hx53)) (by omega)) ?_
 rintro x54 w55 ⟨ho54, hl54, hx55⟩
 refine app_ok (base := w51.heap.size) mkz_45 rfl (by decide) (ho52.ext hx55) (news := txts l1) (by simp [hl54]) ho54.at (txts_one _) (by simp only [maxLen]; omega) (by first | omega | (simp only; omega)) (hx53.trans hx55).size ?_
 intro x56 w57 hl56 ho56 _ hB57
 have hx57 : Ext w51 w57 := hB57 _ _ (hx53.trans hx55) (Nat.le_refl _) (hx53.trans hx55).size
 have hst : StrsAt w57 x56 (l0 ++ l1) := ⟨by rw [hl56, hl52, hl54, List.length_append], by rw [txts, List.map_append]; exact ho56.at⟩
 have hxw57 := hxw51.trans hx57
 have hp57 := hp2.ext hx57
 refine jn_of fun k2 hk2 => ⟨fun _ => ?_, fun h => absurd h (by simp)⟩
 refine cR_of (same_ok w57 x50b x56 rs (l0 ++ l1) hp57 hst (by rw [List.length_append]; omega)) ?_
 rintro x60 w61 ⟨rfl, rfl⟩
 refine jn_of fun k3 hk3 => ⟨fun ht => ?_, fun hfs => ?_⟩
 ·rw [hk3]
  show k2 _ _
  rw [hk2]
  exact ⟨rfl, hxw57⟩
 ·have hne : rs ≠ l0 ++ l1 := of_decide_eq_false hfs
  obtain ⟨hx0, hrs0⟩ := hor.resolve_left hne
  refine jn_of fun k4 hk4 => ⟨fun _ => ?_, fun h => absurd (nd_f h) hx0⟩
  refine cR_of (texts_ok w57 p0 l0 (h0.ext hxw57) (by omega)) ?_
  rintro x66 w67 ⟨ho66, hl66, hx67⟩
  refine cR_of (same_ok w67 x50b x66 rs l0 (hp57.ext hx67) ⟨by rw [hl66], ho66.at⟩ (by omega)) ?_
  rintro x68 w69 ⟨rfl, rfl⟩
  rw [decide_eq_true hrs0, hk4, hk3, hk2]
  exact ⟨rfl, hxw57.trans hx67⟩
end Go.Proofs.Ytagkcbbbdlmcjaa
end
