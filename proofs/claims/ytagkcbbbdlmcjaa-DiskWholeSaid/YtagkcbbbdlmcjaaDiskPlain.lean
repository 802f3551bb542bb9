/- The disk without any program: what each thing done to it leaves and answers; and the cells that hold it. -/
import Derived.Test.YtagkcbbbdlmcjaaLiftRow
set_option linter.unusedVariables false
set_option linter.unusedSimpArgs false
namespace Go.Lift.Disk
open Go.Lift Go.RowKit
abbrev Bl := List UInt8 × List UInt8
abbrev Fall := Int × Int × Int
structure Dk where
  bl : List Bl
  pend : List (Nat × List UInt8)
  falls : List Fall
  changes : Nat
  down : Bool
def flatB (l : List Bl) : List UInt8 := l.flatMap fun p => p.1 ++ p.2
def pendC (l : List (Nat × List UInt8)) : List Value := l.flatMap fun p => .int .i64 (p.1 : Int) :: u8s p.2
def fallOf (f : Fall) : List Value := [.int .i64 f.1, .int .u64 f.2.1, .int .i64 f.2.2]
def fallC (l : List Fall) : List Value := l.flatMap fallOf
def WfB (l : List Bl) : Prop := ∀ p ∈ l, p.1.length = 512 ∧ p.2.length = 512
structure Dk.Wf (D : Dk) : Prop where
  pos : 0 < D.bl.length
  few : D.bl.length ≤ 4096
  bl : WfB D.bl
  pend : ∀ p ∈ D.pend, p.1 < D.bl.length ∧ p.2.length = 512
  plen : D.pend.length ≤ 1000000
  keep : ∀ f ∈ D.falls, 0 ≤ f.2.1 ∧ f.2.1 < 18446744073709551616
  flen : D.falls.length ≤ 1000000
  ch : D.changes ≤ 1000000000
def bAt (l : List Bl) (i : Nat) : Bl := l.getD i ([], [])
def setNow (l : List Bl) (i : Nat) (b : List UInt8) : List Bl := l.set i (b, (bAt l i).2)
def setSure (l : List Bl) (i : Nat) (b : List UInt8) : List Bl := l.set i ((bAt l i).1, b)
def Dk.why (D : Dk) (i : Int) : Int := if D.down then 6 else if i < 0 ∨ (D.bl.length : Int) ≤ i then 2 else 0
def torn (f : Fall) : Nat := (mx 0 (mn f.2.2 512)).toNat
def crashStep (f : Fall) (last : Int) (l : List Bl) (k : Nat) (p : Nat × List UInt8) : List Bl :=
  if k < 64 ∧ f.2.1.toNat.testBit k = true then setSure l p.1 p.2
  else if (k : Int) = last then setSure l p.1 (p.2.take (torn f) ++ (bAt l p.1).2.drop (torn f))
  else l
def crashL (f : Fall) (last : Int) : Nat → List (Nat × List UInt8) → List Bl → List Bl
  | _, [], l => l
  | k, p :: ps, l => crashL f last (k + 1) ps (crashStep f last l k p)
def Dk.crash (D : Dk) (f : Fall) : Dk := if D.down then D else
  { D with bl := (crashL f ((D.pend.length : Int) - 1) 0 D.pend D.bl).map fun p => (p.2, p.2), pend := [], down := true }
def Dk.strike (D : Dk) : Dk × Int := match D.falls.find? fun f => f.1 == (D.changes : Int) with
  | some f => ({ D with changes := D.changes + 1 }.crash f, 6)
  | none => ({ D with changes := D.changes + 1 }, 0)
def Dk.put (D : Dk) (i : Nat) (bs : List UInt8) : Dk := { D with bl := setNow D.bl i bs, pend := D.pend ++ [(i, bs)] }
def Dk.write (D : Dk) (i : Int) (bs : List UInt8) : Dk × Int :=
  if D.why i ≠ 0 then (D, D.why i) else if bs.length ≠ 512 then (D, 1) else (D.put i.toNat bs).strike
def flushL (l : List Bl) (ps : List (Nat × List UInt8)) : List Bl := ps.foldl (fun l p => setSure l p.1 p.2) l
def Dk.flush (D : Dk) : Dk × Int := if D.down then (D, 6) else
  if D.strike.2 ≠ 0 then D.strike else ({ D.strike.1 with bl := flushL D.strike.1.bl D.strike.1.pend, pend := [] }, 0)
def Dk.up (D : Dk) : Dk := { D with down := false }

theorem bAt_lt {l : List Bl} {i : Nat} (h : i < l.length) : bAt l i = l[i] := by simp [bAt, List.getD, h]
theorem bAt_len {l : List Bl} (h : WfB l) {i : Nat} (hi : i < l.length) : (bAt l i).1.length = 512 ∧ (bAt l i).2.length = 512 := by
  rw [bAt_lt hi]; exact h _ (List.getElem_mem hi)
theorem flat_len : ∀ {l : List Bl}, WfB l → (flatB l).length = 1024 * l.length
  | [], _ => rfl
  | p :: l, h => by
    have h1 := h p (by simp)
    have := flat_len (l := l) fun q hq => h q (by simp [hq])
    simp only [flatB, List.flatMap_cons, List.length_append, List.length_cons] at this ⊢
    omega
theorem flat_split {l : List Bl} (h : WfB l) {i : Nat} (hi : i < l.length) : flatB l = flatB (l.take i) ++ ((bAt l i).1 ++ ((bAt l i).2 ++ flatB (l.drop (i + 1)))) := by
  rw [bAt_lt hi]
  have e : l = l.take i ++ l[i] :: l.drop (i + 1) := by rw [← List.drop_eq_getElem_cons hi, List.take_append_drop]
  have e2 : flatB l = flatB (l.take i ++ l[i] :: l.drop (i + 1)) := congrArg flatB e
  rw [e2]
  simp only [flatB, List.flatMap_append, List.flatMap_cons, List.append_assoc]
theorem flat_take_len {l : List Bl} (h : WfB l) {i : Nat} (hi : i < l.length) : (flatB (l.take i)).length = 1024 * i := by
  rw [flat_len fun p hp => h p (List.mem_of_mem_take hp), List.length_take]; congr 1; omega
theorem flat_now {l : List Bl} (h : WfB l) {i : Nat} (hi : i < l.length) : ((flatB l).drop (1024 * i)).take 512 = (bAt l i).1 := by
  have h1 := bAt_len h hi
  rw [flat_split h hi, List.drop_left' (flat_take_len h hi), List.take_left' h1.1]
theorem flat_sure {l : List Bl} (h : WfB l) {i : Nat} (hi : i < l.length) : ((flatB l).drop (1024 * i + 512)).take 512 = (bAt l i).2 := by
  have h1 := bAt_len h hi
  rw [flat_split h hi, ← List.append_assoc, List.drop_left' (by rw [List.length_append, flat_take_len h hi, h1.1]), List.take_left' h1.2]
theorem set_wf {l : List Bl} (h : WfB l) {i : Nat} {p : Bl} (hp : p.1.length = 512 ∧ p.2.length = 512) : WfB (l.set i p) := by
  intro q hq
  rcases List.mem_or_eq_of_mem_set hq with hq | rfl
  · exact h q hq
  · exact hp
theorem setNow_wf {l : List Bl} (h : WfB l) {i : Nat} (hi : i < l.length) {b : List UInt8} (hb : b.length = 512) : WfB (setNow l i b) := set_wf h ⟨hb, (bAt_len h hi).2⟩
theorem setSure_wf {l : List Bl} (h : WfB l) {i : Nat} (hi : i < l.length) {b : List UInt8} (hb : b.length = 512) : WfB (setSure l i b) := set_wf h ⟨(bAt_len h hi).1, hb⟩
theorem flat_set {l : List Bl} {i : Nat} (hi : i < l.length) (p : Bl) : flatB (l.set i p) = flatB (l.take i) ++ (p.1 ++ (p.2 ++ flatB (l.drop (i + 1)))) := by
  rw [List.set_eq_take_append_cons_drop, if_pos hi]
  simp [flatB, List.flatMap_append]
theorem u8s_len (bs : List UInt8) : (u8s bs).length = bs.length := u8s_length bs
theorem splice_mid (a b c d : List Value) (o : Nat) (ho : a.length = o) (hb : b.length = c.length) : splice (a ++ (b ++ d)) o c = a ++ (c ++ d) := by
  unfold splice
  rw [List.take_left' ho, List.append_assoc]
  congr 2
  rw [← List.append_assoc, List.drop_left' (by rw [List.length_append, ho, hb])]
theorem splice_now {l : List Bl} (h : WfB l) {i : Nat} (hi : i < l.length) {b : List UInt8} (hb : b.length = 512) (rest : List Value) :
    splice (u8s (flatB l) ++ rest) (1024 * i) (u8s b) = u8s (flatB (setNow l i b)) ++ rest := by
  have h1 := bAt_len h hi
  unfold setNow
  rw [flat_set hi, flat_split h hi]
  simp only [u8s_append, List.append_assoc]
  exact splice_mid _ _ _ _ _ (by rw [u8s_len, flat_take_len h hi]) (by rw [u8s_len, u8s_len, h1.1, hb])
theorem splice_sure_part {l : List Bl} (h : WfB l) {i : Nat} (hi : i < l.length) {c : List UInt8} (hc : c.length ≤ 512) (rest : List Value) :
    splice (u8s (flatB l) ++ rest) (1024 * i + 512) (u8s c) = u8s (flatB (setSure l i (c ++ (bAt l i).2.drop c.length))) ++ rest := by
  have h1 := bAt_len h hi
  unfold setSure
  rw [flat_set hi, flat_split h hi]
  have e : (bAt l i).2 = (bAt l i).2.take c.length ++ (bAt l i).2.drop c.length := (List.take_append_drop _ _).symm
  conv => lhs; rw [e]
  simp only [u8s_append, List.append_assoc]
  rw [← List.append_assoc (u8s (flatB (l.take i))), ← List.append_assoc (u8s (flatB (l.take i)))]
  exact splice_mid _ _ _ _ _ (by rw [List.length_append, u8s_len, u8s_len, flat_take_len h hi, h1.1]) (by rw [u8s_len, u8s_len, List.length_take, h1.2]; omega)
theorem splice_sure {l : List Bl} (h : WfB l) {i : Nat} (hi : i < l.length) {b : List UInt8} (hb : b.length = 512) (rest : List Value) :
    splice (u8s (flatB l) ++ rest) (1024 * i + 512) (u8s b) = u8s (flatB (setSure l i b)) ++ rest := by
  have h1 := bAt_len h hi
  rw [splice_sure_part h hi (by omega), List.drop_of_length_le (by omega), List.append_nil]
theorem setNow_len (l : List Bl) (i : Nat) (b : List UInt8) : (setNow l i b).length = l.length := by simp [setNow]
theorem setSure_len (l : List Bl) (i : Nat) (b : List UInt8) : (setSure l i b).length = l.length := by simp [setSure]

/-! ### pending writes and falls as cells -/
theorem pendC_len : ∀ {l : List (Nat × List UInt8)}, (∀ p ∈ l, p.2.length = 512) → (pendC l).length = l.length * 513
  | [], _ => rfl
  | p :: l, h => by
    have h1 := h p (by simp)
    have := pendC_len (l := l) fun q hq => h q (by simp [hq])
    simp only [pendC, List.flatMap_cons, List.length_append, List.length_cons, u8s_len] at this ⊢
    omega
theorem pendC_at : ∀ {l : List (Nat × List UInt8)}, (∀ p ∈ l, p.2.length = 512) → ∀ {k : Nat} (hk : k < l.length), ((pendC l).drop (k * 513)).take 513 = .int .i64 (l[k].1 : Int) :: u8s l[k].2
  | p :: l, h, 0, _ => by
    have h1 := h p (by simp)
    simp only [pendC, List.flatMap_cons, Nat.zero_mul, List.drop_zero, List.getElem_cons_zero]
    rw [List.take_left' (by simp [u8s_len, h1])]
  | p :: l, h, k + 1, hk => by
    have h1 := h p (by simp)
    have := pendC_at (l := l) (fun q hq => h q (by simp [hq])) (k := k) (by simpa using hk)
    simp only [List.getElem_cons_succ]
    rw [← this]
    simp only [pendC, List.flatMap_cons]
    rw [show (k + 1) * 513 = 513 + k * 513 by omega, ← List.drop_drop]
    rw [List.drop_left' (by simp [u8s_len, h1])]
theorem pendC_append (a b : List (Nat × List UInt8)) : pendC (a ++ b) = pendC a ++ pendC b := by simp [pendC, List.flatMap_append]
theorem fallC_len (l : List Fall) : (fallC l).length = l.length * 3 := by
  induction l with
  | nil => rfl
  | cons f l ih => simp only [fallC, List.flatMap_cons, List.length_append, List.length_cons, fallOf, List.length_nil] at ih ⊢; omega
theorem fallC_at : ∀ {l : List Fall} {k : Nat} (hk : k < l.length), ((fallC l).drop (k * 3)).take 3 = fallOf l[k]
  | f :: l, 0, _ => by simp [fallC, fallOf]
  | f :: l, k + 1, hk => by
    have := fallC_at (l := l) (k := k) (by simpa using hk)
    simp only [List.getElem_cons_succ]
    rw [← this]
    simp only [fallC, List.flatMap_cons]
    rw [show (k + 1) * 3 = 3 + k * 3 by omega, ← List.drop_drop]
    rw [List.drop_left' (by rfl)]
end Go.Lift.Disk
