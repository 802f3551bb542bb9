/- The check sum over bits, without any program: what the program's and the document's ways compute, that both are one, and what a burst does. -/
import Derived.Test.YtmlbmnaknjdmgaaLiftUse
set_option linter.unusedVariables false
set_option linter.unusedSimpArgs false
namespace Go.Lift.Crc
open Go.Lift
abbrev R := BitVec 32
def poly : R := 0xedb88320#32
def stp (r : R) : R := if r.getLsbD 0 then (r >>> 1) ^^^ poly else r >>> 1
def stpIn (r : R) (b : Bool) : R := if (r.getLsbD 0 ^^ b) then (r >>> 1) ^^^ poly else r >>> 1
def reg (r : R) (bits : List Bool) : R := bits.foldl stpIn r
def bitsW (n : Nat) (c : R) : List Bool := (List.range n).map fun i => c.getLsbD i
def wide (c : UInt8) : R := c.toBitVec.setWidth 32
def byteBits (c : UInt8) : List Bool := bitsW 8 (wide c)
def bitsOf (bs : List UInt8) : List Bool := bs.flatMap byteBits
def crc (bs : List UInt8) : R := ~~~ (reg (BitVec.allOnes 32) (bitsOf bs))
def iter (n : Nat) (r : R) : R := match n with
  | 0 => r
  | n + 1 => stp (iter n r)
/-- the program's way: a byte at once -/
def byteStep (r : R) (c : UInt8) : R := iter 8 (r ^^^ wide c)

theorem stp_eq (r : R) : stp r = stpIn r false := by simp [stp, stpIn]
theorem shr_xor (a b : R) (n : Nat) : (a ^^^ b) >>> n = (a >>> n) ^^^ (b >>> n) := by
  ext i hi
  simp
theorem stp_xor (r c : R) : stp (r ^^^ c) = stpIn r (c.getLsbD 0) ^^^ (c >>> 1) := by
  unfold stp stpIn
  rw [BitVec.getLsbD_xor, shr_xor]
  cases h : (r.getLsbD 0 ^^ c.getLsbD 0)
  · simp
  · simp only [if_true]
    rw [BitVec.xor_assoc, BitVec.xor_comm (c >>> 1) poly, ← BitVec.xor_assoc]
theorem reg_append (r : R) (a b : List Bool) : reg r (a ++ b) = reg (reg r a) b := by simp [reg, List.foldl_append]
theorem bitsW_succ (n : Nat) (c : R) : bitsW (n + 1) c = bitsW n c ++ [c.getLsbD n] := by simp [bitsW, List.range_succ]
theorem iter_xor (c r : R) : ∀ n, iter n (r ^^^ c) = reg r (bitsW n c) ^^^ (c >>> n)
  | 0 => by simp [iter, bitsW, reg]
  | n + 1 => by
    rw [iter, iter_xor c r n, stp_xor, bitsW_succ, reg_append]
    rw [show (c >>> n).getLsbD 0 = c.getLsbD n from by simp, show c >>> n >>> 1 = c >>> (n + 1) from by rw [BitVec.shiftRight_add]]
    rfl
theorem wide_lt (c : UInt8) : wide c >>> 8 = 0#32 := by
  apply BitVec.eq_of_toNat_eq
  have := c.toBitVec.isLt
  have h2 : c.toNat = c.toBitVec.toNat := rfl
  simp [wide, Nat.shiftRight_eq_div_pow]
  omega
theorem byteStep_eq (r : R) (c : UInt8) : byteStep r c = reg r (byteBits c) := by
  unfold byteStep byteBits
  rw [iter_xor, wide_lt]
  simp
theorem bits_cons (c : UInt8) (bs : List UInt8) : bitsOf (c :: bs) = byteBits c ++ bitsOf bs := rfl
theorem bits_append (a b : List UInt8) : bitsOf (a ++ b) = bitsOf a ++ bitsOf b := by simp [bitsOf]
theorem bits_length (bs : List UInt8) : (bitsOf bs).length = 8 * bs.length := by
  induction bs with
  | nil => rfl
  | cons c bs ih => rw [bits_cons, List.length_append, ih]; simp [byteBits, bitsW]; omega
theorem foldl_byteStep (bs : List UInt8) (r : R) : bs.foldl byteStep r = reg r (bitsOf bs) := by
  induction bs generalizing r with
  | nil => rfl
  | cons c bs ih => rw [List.foldl_cons, ih, byteStep_eq, bits_cons, reg_append]

/-- adding without carry -/
def xorL : List Bool → List Bool → List Bool := List.zipWith Bool.xor
theorem stpIn_xor (r s : R) (a b : Bool) : stpIn (r ^^^ s) (a ^^ b) = stpIn r a ^^^ stpIn s b := by
  unfold stpIn
  rw [BitVec.getLsbD_xor, shr_xor]
  have e : ((r.getLsbD 0 ^^ s.getLsbD 0) ^^ (a ^^ b)) = ((r.getLsbD 0 ^^ a) ^^ (s.getLsbD 0 ^^ b)) := by
    cases r.getLsbD 0 <;> cases s.getLsbD 0 <;> cases a <;> cases b <;> rfl
  rw [e]
  cases (r.getLsbD 0 ^^ a) <;> cases (s.getLsbD 0 ^^ b) <;> simp only [Bool.xor_false, Bool.xor_true, Bool.false_xor, Bool.not_false, Bool.not_true, if_true, Bool.false_eq_true, if_false]
  · ac_rfl
  · ac_rfl
  · rw [show r >>> 1 ^^^ poly ^^^ (s >>> 1 ^^^ poly) = (r >>> 1 ^^^ s >>> 1) ^^^ (poly ^^^ poly) from by ac_rfl]; simp
theorem reg_xor : ∀ (a b : List Bool) (r s : R), a.length = b.length → reg (r ^^^ s) (xorL a b) = reg r a ^^^ reg s b
  | [], [], r, s, _ => rfl
  | x :: a, y :: b, r, s, h => by
    have ih := reg_xor a b (stpIn r x) (stpIn s y) (by simpa using h)
    simp only [xorL, List.zipWith_cons_cons, reg, List.foldl_cons] at ih ⊢
    rw [stpIn_xor]
    exact ih
theorem stpIn_zero {r : R} (h : stpIn r false = 0#32) : r = 0#32 := by
  have hb := congrArg (fun x : R => x.getLsbD 31) h
  unfold stpIn at h hb
  simp only [Bool.xor_false] at h hb
  cases h0 : r.getLsbD 0 with
  | true =>
    rw [h0] at hb
    simp [poly] at hb
  | false =>
    rw [h0] at h
    simp only [Bool.false_eq_true, if_false] at h
    apply BitVec.eq_of_getLsbD_eq
    intro i hi
    rcases i with _ | i
    · rw [h0]; simp
    · have := congrArg (fun x : R => x.getLsbD i) h
      simp only [BitVec.getLsbD_ushiftRight, BitVec.getLsbD_zero] at this
      rw [Nat.add_comm] at this
      rw [this]; simp
theorem stpIn_00 : stpIn 0#32 false = 0#32 := by decide
theorem reg_zeros (n : Nat) : reg 0#32 (List.replicate n false) = 0#32 := by
  induction n with
  | zero => rfl
  | succ n ih => rw [List.replicate_succ]; simp only [reg, List.foldl_cons] at ih ⊢; rw [stpIn_00]; exact ih
theorem reg_zeros_ne (n : Nat) : ∀ r : R, r ≠ 0#32 → reg r (List.replicate n false) ≠ 0#32 := by
  induction n with
  | zero => exact fun r h => h
  | succ n ih =>
    intro r h
    rw [List.replicate_succ]
    simp only [reg, List.foldl_cons] at ih ⊢
    exact ih _ fun e => h (stpIn_zero e)
/-- a row of at most 32 bits, not all of them nought, leaves a trace -/
theorem reg_row (t : R) (h : t ≠ 0#32) : reg 0#32 (bitsW 32 t) ≠ 0#32 := by
  have := iter_xor t 0#32 32
  have hz : t >>> 32 = 0#32 := by
    apply BitVec.eq_of_toNat_eq
    have := t.isLt
    simp [Nat.shiftRight_eq_div_pow]
    omega
  rw [hz] at this
  simp at this
  rw [← this]
  have key : ∀ n (r : R), r ≠ 0#32 → iter n r ≠ 0#32 := by
    intro n
    induction n with
    | zero => exact fun r h => h
    | succ n ih =>
      intro r h e
      rw [iter, stp_eq] at e
      exact ih r h (stpIn_zero e)
  exact key 32 t h
theorem burst (t : R) (h : t ≠ 0#32) (k m : Nat) : reg 0#32 (List.replicate k false ++ bitsW 32 t ++ List.replicate m false) ≠ 0#32 := by
  rw [reg_append, reg_append, reg_zeros]
  exact reg_zeros_ne m _ (reg_row t h)

/-- the sum's four bytes -/
def le4 (r : R) : List UInt8 := [⟨r.setWidth 8⟩, ⟨(r >>> 8).setWidth 8⟩, ⟨(r >>> 16).setWidth 8⟩, ⟨(r >>> 24).setWidth 8⟩]
def sealed (bs : List UInt8) : List UInt8 := bs ++ le4 (crc bs)
theorem bits_le4 (r : R) : bitsOf (le4 r) = bitsW 32 r := by
  have h8 : ∀ (x : R) (i : Nat), i < 8 → (wide ⟨x.setWidth 8⟩).getLsbD i = x.getLsbD i := by
    intro x i hi
    simp [wide, hi]
    omega
  have hb : ∀ x : R, byteBits ⟨x.setWidth 8⟩ = bitsW 8 x := by
    intro x
    unfold byteBits bitsW
    apply List.map_congr_left
    intro i hi
    exact h8 x i (List.mem_range.1 hi)
  simp only [le4, bitsOf, List.flatMap_cons, List.flatMap_nil, hb]
  simp [bitsW, List.range_succ]

/-- sealed bytes are those after which the register stands at a fixed place -/
theorem reg_self (r : R) : reg r (bitsW 32 r) = 0#32 := by
  have h1 := iter_xor r r 32
  have hz : r >>> 32 = 0#32 := by
    apply BitVec.eq_of_toNat_eq
    have := r.isLt
    simp [Nat.shiftRight_eq_div_pow]
    omega
  rw [hz] at h1
  simp at h1
  rw [← h1]
  have : ∀ n, iter n 0#32 = 0#32 := by
    intro n
    induction n with
    | zero => rfl
    | succ n ih => rw [iter, ih]; decide
  exact this 32
theorem bitsW_not (r : R) : bitsW 32 (~~~ r) = xorL (bitsW 32 r) (bitsW 32 (BitVec.allOnes 32)) := by
  unfold bitsW xorL
  rw [List.zipWith_map]
  apply List.ext_getElem
  · simp
  · intro i h1 h2
    simp only [List.length_map, List.length_range] at h1
    have e1 : (BitVec.allOnes 32).getLsbD i = true := by rw [BitVec.getLsbD_allOnes]; simp [h1]
    simp only [List.getElem_map, List.getElem_range, List.getElem_zipWith, BitVec.getLsbD_not, h1, e1, decide_true, Bool.true_and, Bool.xor_true]
/-- the register behind sealed bytes -/
def final : R := reg 0#32 (bitsW 32 (BitVec.allOnes 32))
theorem reg_sealed (bs : List UInt8) : reg (BitVec.allOnes 32) (bitsOf (sealed bs)) = final := by
  unfold sealed crc
  rw [bits_append, reg_append, bits_le4, bitsW_not]
  generalize reg (BitVec.allOnes 32) (bitsOf bs) = r
  have := reg_xor (bitsW 32 r) (bitsW 32 (BitVec.allOnes 32)) r 0#32 (by simp [bitsW])
  rw [reg_self] at this
  simpa [final] using this
/-- what is turned in sealed bytes by a row is not sealed -/
theorem turned_not_sealed {bs x : List UInt8} {t : R} {k m : Nat} (ht : t ≠ 0#32) (hk : bitsOf x = xorL (bitsOf (sealed bs)) (List.replicate k false ++ bitsW 32 t ++ List.replicate m false))
    (hlen : (bitsOf (sealed bs)).length = k + 32 + m) (y : List UInt8) : sealed y ≠ x := by
  intro e
  have h1 := reg_sealed y
  rw [e, hk] at h1
  have h2 := reg_xor (bitsOf (sealed bs)) (List.replicate k false ++ bitsW 32 t ++ List.replicate m false) (BitVec.allOnes 32) 0#32 (by rw [hlen]; simp [bitsW]; omega)
  rw [reg_sealed] at h2
  simp only [BitVec.xor_zero] at h2
  rw [h2] at h1
  have h3 : reg 0#32 (List.replicate k false ++ bitsW 32 t ++ List.replicate m false) = 0#32 := by
    have := congrArg (fun z => final ^^^ z) h1
    simp only [← BitVec.xor_assoc, BitVec.xor_self, BitVec.zero_xor] at this
    exact this
  exact burst t ht k m h3
end Go.Lift.Crc
