/- What the functions of layer 2 do, over their typed readings. -/
import Derived.Test.YtmlbmnaknjdmgaaS8
import Derived.Test.YtmlbmnaknjdmgaaS9
import Derived.Test.YtmlbmnaknjdmgaaS10
import Derived.Test.YtmlbmnaknjdmgaaS11
import Derived.Test.YtmlbmnaknjdmgaaS12
import Derived.Test.YtmlbmnaknjdmgaaS13
import Derived.Test.YtmlbmnaknjdmgaaS14
import Derived.Test.YtmlbmnaknjdmgaaCrcPlain
set_option linter.unusedVariables false
set_option linter.unusedSimpArgs false
namespace Go.Proofs.Ytmlbmnaknjdmgaa
open Go.Lift Go.Lift.Crc Go.RowKit

theorem lt32 (a : R) : a.toNat < 4294967296 := a.isLt
theorem ofInt_toNat (a : R) : BitVec.ofInt 32 (a.toNat : Int) = a := by
  apply BitVec.eq_of_toNat_eq
  have := a.isLt
  simp
theorem xorI_u32 (a b : R) : xorI .u32 (a.toNat : Int) (b.toNat : Int) = ((a ^^^ b).toNat : Int) := by
  have h := (a ^^^ b).isLt
  show IntKind.u32.wrap ((BitVec.ofInt 32 (a.toNat : Int) ^^^ BitVec.ofInt 32 (b.toNat : Int)).toNat : Int) = _
  rw [ofInt_toNat, ofInt_toNat, wu32_eq (by omega) (by omega)]
theorem andI_one (a : R) : andI .u32 (a.toNat : Int) 1 = if a.getLsbD 0 then 1 else 0 := by
  show IntKind.u32.wrap ((BitVec.ofInt 32 (a.toNat : Int) &&& BitVec.ofInt 32 1).toNat : Int) = _
  rw [ofInt_toNat]
  have : a &&& BitVec.ofInt 32 1 = if a.getLsbD 0 then 1#32 else 0#32 := by
    apply BitVec.eq_of_getLsbD_eq
    intro i hi
    have h1 : (BitVec.ofInt 32 1) = 1#32 := by decide
    rw [h1, BitVec.getLsbD_and]
    rcases i with _ | i
    · cases a.getLsbD 0 <;> simp
    · cases a.getLsbD 0 <;> simp
  rw [this]
  cases a.getLsbD 0 <;> simp [wu32_mod]
theorem shrI_one (a : R) : shrI .u32 (a.toNat : Int) 1 = ((a >>> 1).toNat : Int) := by
  have h := a.isLt
  show Int.fdiv (a.toNat : Int) (2 ^ 1) = _
  rw [Int.fdiv_eq_ediv_of_nonneg _ (by decide)]
  simp [Nat.shiftRight_eq_div_pow]
theorem cmpl_u32 (a : R) : cmpl .u32 (a.toNat : Int) = ((~~~a).toNat : Int) := by
  have h := (~~~a).isLt
  show IntKind.u32.wrap ((BitVec.ofInt 32 4294967295 ^^^ BitVec.ofInt 32 (a.toNat : Int)).toNat : Int) = _
  rw [ofInt_toNat]
  have : BitVec.ofInt 32 4294967295 ^^^ a = ~~~a := by
    have h1 : BitVec.ofInt 32 4294967295 = BitVec.allOnes 32 := by decide
    rw [h1, BitVec.allOnes_xor]
  rw [this, wu32_eq (by omega) (by omega)]
theorem stp_int (a : R) : (if andI .u32 (a.toNat : Int) 1 = 1 then xorI .u32 (shrI .u32 (a.toNat : Int) 1) 3988292384 else shrI .u32 (a.toNat : Int) 1) = ((stp a).toNat : Int) := by
  rw [andI_one, shrI_one]
  have hp : (3988292384 : Int) = (poly.toNat : Int) := by decide
  rw [hp, xorI_u32]
  unfold stp
  cases a.getLsbD 0 <;> simp
theorem wide_nat (c : UInt8) : (wide c).toNat = c.toNat := by
  have := c.toBitVec.isLt
  have h2 : c.toNat = c.toBitVec.toNat := rfl
  simp [wide]
theorem u8_lt (c : UInt8) : c.toNat < 256 := c.toBitVec.isLt

theorem sum_ok (w : World) (p : Sl) (l : List (List UInt8)) (h : Parts w p l) (h1 : p.len ≤ maxLen) (h2 : ∀ b ∈ l, b.length ≤ maxLen) :
    Calls Try.prog 10 #[p.v] w (Ret r10 fun x w' => x = ((crc l.flatten).toNat : Int) ∧ w' = w) := by
  apply s10_calls
  have hpl := h.len
  simp only [maxLen] at h1 h2
  refine ⟨fun st w' => w = w' ∧ ∃ k, k ≤ l.length ∧ st.2 = (k : Int) ∧ st.1 = (((l.take k).flatten.foldl byteStep (BitVec.allOnes 32)).toNat : Int), fun st _ => l.length - st.2.toNat, ⟨rfl, 0, Nat.zero_le _, rfl, by simp⟩, ?_⟩
  rintro ⟨s, i⟩ w' ⟨rfl, k, hk, rfl, rfl⟩
  refine ⟨fun hlt => ?_, fun hge => ?_⟩
  · have hlt : k < l.length := by simpa [hpl] using hlt
    obtain ⟨a, sl, ha, hc, hb⟩ := h.get hlt
    have hbl : (l[k]).length ≤ 9223372036854775807 := h2 _ (List.getElem_mem hlt)
    have hbs := hb.1
    refine ⟨a, _, ha, by simp, by simp; omega, rfl, ?_⟩
    refine ⟨sl, by simpa using hc, ?_⟩
    refine ⟨fun st w' => w = w' ∧ ∃ j, j ≤ (l[k]).length ∧ st.2 = (j : Int) ∧ st.1 = ((((l[k]).take j).foldl byteStep ((l.take k).flatten.foldl byteStep (BitVec.allOnes 32))).toNat : Int), fun st _ => (l[k]).length - st.2.toNat, ⟨rfl, 0, Nat.zero_le _, rfl, by simp⟩, ?_⟩
    rintro ⟨s2, i2⟩ w2 ⟨rfl, j, hj, rfl, rfl⟩
    refine ⟨fun hlt2 => ?_, fun hge2 => ?_⟩
    · have hlt2 : j < (l[k]).length := by
        have := of_decide_eq_true hlt2
        simp only at this
        omega
      obtain ⟨a2, ha2, hc2⟩ := hb.get hlt2
      refine ⟨a2, _, ha2, by simp, by simp; omega, rfl, ?_⟩
      refine ⟨_, by simpa using hc2, ?_⟩
      generalize hr : ((l[k]).take j).foldl byteStep ((l.take k).flatten.foldl byteStep (BitVec.allOnes 32)) = r
      have hu := u8_lt (l[k])[j]
      refine ⟨fun st w' => w = w' ∧ ∃ i : Nat, i ≤ 8 ∧ st.2 = (i : Int) ∧ st.1 = ((iter i (r ^^^ wide (l[k])[j])).toNat : Int), fun st _ => 8 - st.2.toNat, ⟨rfl, 0, Nat.zero_le _, rfl, ?_⟩, ?_⟩
      · simp only [iter]
        rw [wu32_eq (by omega) (by omega), ← wide_nat, xorI_u32]
      rintro ⟨s3, i3⟩ w3 ⟨rfl, i, hi, rfl, rfl⟩
      refine ⟨fun hlt3 => ?_, fun hge3 => ?_⟩
      · have hlt3 : i < 8 := by have := of_decide_eq_true hlt3; simp only at this; omega
        have hstep := stp_int (iter i (r ^^^ wide (l[k])[j]))
        have hfin : ∀ x : Int, x = ((iter (i + 1) (r ^^^ wide (l[k])[j])).toNat : Int) →
            (w = w ∧ ∃ i', i' ≤ 8 ∧ (x, IntKind.i64.wrap ((i : Int) + 1)).2 = ((i' : Nat) : Int) ∧ (x, IntKind.i64.wrap ((i : Int) + 1)).1 = ((iter i' (r ^^^ wide (l[k])[j])).toNat : Int)) ∧ 8 - (x, IntKind.i64.wrap ((i : Int) + 1)).2.toNat < 8 - (((iter i (r ^^^ wide (l[k])[j])).toNat : Int), (i : Int)).2.toNat := by
          intro x hx
          simp only
          rw [w64_eq (by omega) (by omega)]
          exact ⟨⟨trivial, i + 1, by omega, by omega, hx⟩, by omega⟩
        refine ⟨fun ho => ?_, fun ho => ?_⟩
        · have ho := of_decide_eq_true ho
          simp only at ho
          rw [if_pos ho] at hstep
          exact hfin _ (by rw [hstep]; rfl)
        · have ho := of_decide_eq_false ho
          simp only at ho
          rw [if_neg ho] at hstep
          exact hfin _ (by rw [hstep]; rfl)
      · have hge3 : i = 8 := by
          have := of_decide_eq_false hge3
          simp only at this
          omega
        subst hge3
        refine ⟨⟨rfl, j + 1, by omega, ?_, ?_⟩, ?_⟩
        · simp only; rw [w64_eq (by omega) (by omega)]; omega
        · simp only
          rw [List.take_succ_eq_append_getElem hlt2, List.foldl_append, hr]
          rfl
        · simp only; rw [w64_eq (by omega) (by omega)]; omega
    · have hge2 : j = (l[k]).length := by
        have := of_decide_eq_false hge2
        simp only at this
        omega
      subst hge2
      refine ⟨⟨rfl, k + 1, by omega, ?_, ?_⟩, ?_⟩
      · simp only; rw [w64_eq (by omega) (by omega)]; omega
      · simp only
        rw [List.take_succ_eq_append_getElem hlt, List.flatten_append, List.foldl_append, List.take_length]
        simp
      · simp only; rw [w64_eq (by omega) (by omega)]; omega
  · have hge : k = l.length := by
      have := of_decide_eq_false hge
      simp only at this
      omega
    subst hge
    refine ⟨?_, rfl⟩
    simp only [List.take_length]
    rw [cmpl_u32, foldl_byteStep]
    rfl

theorem mk25 : mkCells Try.prog 25 = some (5, 1, 1, List.replicate 1 (Value.int .u8 0)) := by kernel_rfl
theorem mk22 : mkCells Try.prog 22 = some (25, 1, 24, List.replicate 1 (Value.slice none 0 0)) := by kernel_rfl

theorem bits_get : ∀ (xs : List UInt8) (k : Nat) (h : k / 8 < xs.length), (bitsOf xs)[k]? = some ((wide xs[k / 8]).getLsbD (k % 8))
  | [], k, h => by simp at h
  | c :: xs, k, h => by
    rw [bits_cons]
    by_cases hk : k < 8
    · have h0 : k / 8 = 0 := by omega
      have h1 : k % 8 = k := by omega
      rw [List.getElem?_append_left (by simp [byteBits, bitsW]; omega)]
      simp [byteBits, bitsW, hk, h0, h1]
    · have hl : (byteBits c).length = 8 := by simp [byteBits, bitsW]
      rw [List.getElem?_append_right (by omega), hl]
      have e1 : k / 8 = (k - 8) / 8 + 1 := by omega
      have e2 : (k - 8) % 8 = k % 8 := by omega
      rw [bits_get xs (k - 8) (by simp at h; omega), e2]
      simp only [e1, List.getElem_cons_succ]
theorem tmod2 (a : R) : Int.tmod (a.toNat : Int) 2 = if a.getLsbD 0 then 1 else 0 := by
  rw [Int.tmod_eq_emod_of_nonneg (by omega)]
  have : a.getLsbD 0 = decide (a.toNat % 2 = 1) := by
    rw [BitVec.getLsbD, Nat.testBit_zero]
  rw [this]
  by_cases h : a.toNat % 2 = 1 <;> simp [h] <;> omega
theorem half (a : R) : IntKind.u32.wrap (Int.tdiv (a.toNat : Int) 2) = ((a >>> 1).toNat : Int) := by
  have := a.isLt
  rw [Int.tdiv_eq_ediv_of_nonneg (by omega), wu32_eq (by omega) (by omega)]
  simp [Nat.shiftRight_eq_div_pow]
theorem stpIn_int (a : R) (b : Bool) (x : Int) (hx : x = if b then 1 else 0) :
    (if Int.tmod (a.toNat : Int) 2 = x then IntKind.u32.wrap (Int.tdiv (a.toNat : Int) 2) else xorI .u32 (IntKind.u32.wrap (Int.tdiv (a.toNat : Int) 2)) 3988292384) = ((stpIn a b).toNat : Int) := by
  rw [tmod2, half]
  have hp : (3988292384 : Int) = (poly.toNat : Int) := by decide
  rw [hp, xorI_u32, hx]
  unfold stpIn
  cases a.getLsbD 0 <;> cases b <;> simp
theorem inbit (c : UInt8) (j : Nat) (hj : j < 8) : Int.tmod (IntKind.u32.wrap (shrI .u8 (c.toNat : Int) (j : Int))) 2 = if (wide c).getLsbD j then 1 else 0 := by
  have hc := u8_lt c
  have h2 : c.toNat / 2 ^ j < 256 := Nat.lt_of_le_of_lt (Nat.div_le_self _ _) hc
  have e1 : shrI .u8 (c.toNat : Int) (j : Int) = ((c.toNat / 2 ^ j : Nat) : Int) := by
    unfold shrI
    have : min (j : Int).toNat (IntKind.bits .u8) = j := by simp [IntKind.bits]; omega
    rw [this, Int.fdiv_eq_ediv_of_nonneg _ (by exact_mod_cast Nat.zero_le _)]
    push_cast
    rfl
  have e2 : (wide c).getLsbD j = decide (c.toNat / 2 ^ j % 2 = 1) := by
    rw [BitVec.getLsbD, wide_nat, Nat.testBit_eq_decide_div_mod_eq]
  rw [e1, e2]
  generalize c.toNat / 2 ^ j = m at h2 ⊢
  rw [wu32_eq (by omega) (by omega), Int.tmod_eq_emod_of_nonneg (by omega)]
  by_cases h : m % 2 = 1 <;> simp [h] <;> omega

theorem refsum_ok (w : World) (xs : List UInt8) (hl : xs.length ≤ 140737488355328) :
    Calls Try.prog 11 #[str xs] w (Ret r11 fun x w' => x = ((crc xs).toNat : Int) ∧ w = w') := by
  apply s11_calls
  have hbl := bits_length xs
  have h8 : IntKind.i64.wrap (8 * (xs.length : Int)) = 8 * (xs.length : Int) := w64_eq (by omega) (by omega)
  refine ⟨fun st w' => w = w' ∧ ∃ k : Nat, k ≤ 8 * xs.length ∧ st.2 = (k : Int) ∧ st.1 = ((reg (BitVec.allOnes 32) ((bitsOf xs).take k)).toNat : Int), fun st _ => 8 * xs.length - st.2.toNat, ⟨rfl, 0, Nat.zero_le _, rfl, by simp [reg]⟩, ?_⟩
  rintro ⟨s, i⟩ w' ⟨rfl, k, hk, rfl, rfl⟩
  simp only [h8]
  refine ⟨fun hlt => ?_, fun hge => ?_⟩
  · have hlt : k < 8 * xs.length := by have := of_decide_eq_true hlt; omega
    have hd : IntKind.i64.wrap (Int.tdiv (k : Int) 8) = ((k / 8 : Nat) : Int) := by
      rw [Int.tdiv_eq_ediv_of_nonneg (by omega), w64_eq (by omega) (by omega)]; omega
    have hm : IntKind.u64.wrap (Int.tmod (k : Int) 8) = ((k % 8 : Nat) : Int) := by
      rw [Int.tmod_eq_emod_of_nonneg (by omega), wu64_eq (by omega) (by omega)]; omega
    rw [hd, hm]
    have hkl : k / 8 < xs.length := by omega
    refine ⟨xs[k / 8], by omega, by rw [Int.toNat_natCast]; exact List.getElem?_eq_getElem hkl, by omega, ?_⟩
    have hb := inbit xs[k / 8] (k % 8) (by omega)
    have hstep := stpIn_int (reg (BitVec.allOnes 32) ((bitsOf xs).take k)) ((wide xs[k / 8]).getLsbD (k % 8)) _ hb
    have hnext : reg (BitVec.allOnes 32) ((bitsOf xs).take (k + 1)) = stpIn (reg (BitVec.allOnes 32) ((bitsOf xs).take k)) ((wide xs[k / 8]).getLsbD (k % 8)) := by
      have hg := bits_get xs k hkl
      have hkb : k < (bitsOf xs).length := by omega
      rw [List.getElem?_eq_getElem hkb] at hg
      rw [List.take_succ_eq_append_getElem hkb, reg_append, Option.some.inj hg]
      rfl
    rw [← hnext] at hstep
    have hfin : ∀ x : Int, x = ((reg (BitVec.allOnes 32) ((bitsOf xs).take (k + 1))).toNat : Int) →
        (w = w ∧ ∃ k' : Nat, k' ≤ 8 * xs.length ∧ IntKind.i64.wrap ((k : Int) + 1) = ((k' : Nat) : Int) ∧ x = ((reg (BitVec.allOnes 32) ((bitsOf xs).take k')).toNat : Int)) ∧ 8 * xs.length - (IntKind.i64.wrap ((k : Int) + 1)).toNat < 8 * xs.length - ((k : Nat) : Int).toNat := by
      intro x hx
      rw [w64_eq (by omega) (by omega)]
      exact ⟨⟨rfl, k + 1, by omega, by omega, hx⟩, by omega⟩
    refine ⟨fun ho => ?_, fun ho => ?_⟩
    · rw [if_neg (nd_t ho)] at hstep
      exact hfin _ hstep
    · rw [if_pos (nd_f ho)] at hstep
      exact hfin _ hstep
  · have hge : k = 8 * xs.length := by have := of_decide_eq_false hge; omega
    subst hge
    refine ⟨?_, trivial⟩
    rw [← hbl, List.take_length]
    unfold crc
    generalize reg (BitVec.allOnes 32) (bitsOf xs) = r
    have := r.isLt
    rw [wu32_eq (by omega) (by omega), BitVec.toNat_not]
    omega

/-! ### Seal -/
theorem shrI_8 (a : R) (i : Nat) (hi : i < 4) : shrI .u32 ((a >>> (8 * i)).toNat : Int) 8 = ((a >>> (8 * (i + 1))).toNat : Int) := by
  unfold shrI
  rw [show min (8 : Int).toNat (IntKind.bits .u32) = 8 from rfl, Int.fdiv_eq_ediv_of_nonneg _ (by decide)]
  rw [show 8 * (i + 1) = 8 * i + 8 from by omega, BitVec.shiftRight_add]
  simp [Nat.shiftRight_eq_div_pow]
theorem low8 (a : R) : IntKind.u8.wrap (a.toNat : Int) = ((⟨a.setWidth 8⟩ : UInt8).toNat : Int) := by
  rw [wu8_mod]
  have : (⟨a.setWidth 8⟩ : UInt8).toNat = a.toNat % 256 := by
    show (a.setWidth 8).toNat = _
    simp
  rw [this]
  omega
theorem le4_get (a : R) (i : Nat) (hi : i < 4) : (le4 a).take (i + 1) = (le4 a).take i ++ [⟨(a >>> (8 * i)).setWidth 8⟩] := by
  have : i = 0 ∨ i = 1 ∨ i = 2 ∨ i = 3 := by omega
  rcases this with rfl | rfl | rfl | rfl <;> simp [le4]
theorem le4_len (a : R) : (le4 a).length = 4 := rfl
theorem sealed_len (bs : List UInt8) : (sealed bs).length = bs.length + 4 := by simp [sealed, le4_len]

theorem parts_one {w w' : World} {b : Nat} {p : Sl} {bs : List UInt8} {e : TypeId} (hb : b = w.heap.size) (hw : w' = w.alloc (.cells [p.v].toArray e)) (hp : Bytes w p bs) :
    Parts w' ⟨some ⟨b, 0, none⟩, 1, 1⟩ [bs] := by
  refine ⟨[p], rfl, rfl, ?_, ?_⟩
  · exact At.new hb hw
  · intro k s b hs hb'
    rcases k with _ | k
    · simp at hs hb'
      subst hs; subst hb'
      exact hp.ext (Ext.new hw)
    · simp at hs

theorem seal_ok (w : World) (p : Sl) (bs : List UInt8) (hp : Bytes w p bs) (hl : bs.length ≤ 70368744177664) :
    Calls Try.prog 12 #[p.v] w (Ret r12 fun x w' => Own w' w.heap.size 5 1 x (u8s (sealed bs)) ∧ Ext w w') := by
  apply s12_calls
  intro b1 w2 hb1 hw2
  have hx2 : Ext w w2 := Ext.new hw2
  refine cR_of (sum_ok w2 _ [bs] (parts_one hb1 hw2 hp) (by simp [maxLen]) (by simp [maxLen]; omega)) ?_
  rintro x w3 ⟨rfl, rfl⟩
  simp only [List.flatten_cons, List.flatten_nil, List.append_nil]
  intro b5 w6 hb5 hw6
  have hx6 : Ext w w6 := hx2.trans (Ext.new hw6)
  have hplen := hp.1
  refine app_ok (base := w.heap.size) mk25 rfl (by decide) (Own.made (e := 5) (size := 1) (c := 0) hb5 hw6 hx2.size rfl (by simp [maxLen])) (news := u8s bs) (by rw [u8s_length]; omega) (hp.ext hx6).2 (u8s_one _) (by simp only [maxLen]; omega) (by simp only; omega) hx6.size ?_
  intro s8 w8 hl8 ho8 _ hB8
  have hx8 : Ext w w8 := hB8 _ _ hx6 (Nat.le_refl _) hx6.size
  refine ⟨fun st w' => ∃ i : Nat, i ≤ 4 ∧ st.2.2 = (i : Int) ∧ st.1 = ((crc bs >>> (8 * i)).toNat : Int) ∧ Own w' w.heap.size 5 1 st.2.1 (u8s (bs ++ (le4 (crc bs)).take i)) ∧ Ext w w', fun st _ => 4 - st.2.2.toNat, ⟨0, by omega, rfl, by simp, by simpa using ho8, hx8⟩, ?_⟩
  rintro ⟨s, sl, n⟩ w9 ⟨i, hi, rfl, rfl, ho, hx⟩
  simp only at ho ⊢
  refine ⟨fun hlt => ?_, fun hge => ?_⟩
  · have hlt : i < 4 := by have := of_decide_eq_true hlt; omega
    intro b16 w17 hb16 hw17
    have hx17 : Ext w9 w17 := Ext.new hw17
    have hol := ho.length
    simp only [u8s_length, List.length_append, List.length_take, le4_len] at hol
    rw [low8] at hw17
    refine app_ok (base := w.heap.size) mk25 rfl (by decide) (ho.ext hx17) (news := u8s [⟨(crc bs >>> (8 * i)).setWidth 8⟩]) rfl (At.new hb16 hw17) (u8s_one _) (by simp only [maxLen]; omega) (by simp only; omega) (Nat.le_trans hx.size hx17.size) ?_
    intro s' w' hl' ho' _ hB'
    refine ⟨⟨i + 1, by omega, ?_, ?_, ?_, hB' _ _ (hx.trans hx17) (Nat.le_refl _) (Nat.le_trans hx.size hx17.size)⟩, ?_⟩
    · rw [w64_eq (by omega) (by omega)]; omega
    · exact shrI_8 _ i hlt
    · rw [le4_get _ i hlt, ← List.append_assoc, u8s_append]; exact ho'
    · rw [w64_eq (by omega) (by omega)]; omega
  · have hge : i = 4 := by have := of_decide_eq_false hge; omega
    subst hge
    refine ⟨?_, hx⟩
    rw [List.take_of_length_le (by simp [le4_len])] at ho
    exact ho

theorem refseal_ok (w : World) (xs : List UInt8) (hl : xs.length ≤ 70368744177664) :
    Calls Try.prog 13 #[str xs] w (Ret r13 fun x w' => x = sealed xs ∧ Ext w w') := by
  apply s13_calls
  refine cR_of (refsum_ok w xs (by omega)) ?_
  rintro x w2 ⟨rfl, rfl⟩
  intro b3 w4 hb3 hw4
  have hc := (crc xs).isLt
  have e0 : IntKind.u8.wrap ((crc xs).toNat : Int) = (((le4 (crc xs))[0]'(by simp [le4])).toNat : Int) := low8 _
  have ed : ∀ n : Nat, IntKind.u32.wrap (Int.tdiv ((crc xs).toNat : Int) ((2 ^ n : Nat) : Int)) = ((crc xs >>> n).toNat : Int) := by
    intro n
    have h1 : (crc xs).toNat / 2 ^ n < 4294967296 := Nat.lt_of_le_of_lt (Nat.div_le_self _ _) hc
    rw [Int.tdiv_eq_ediv_of_nonneg (by omega), ← Int.natCast_ediv]
    rw [show (crc xs >>> n).toNat = (crc xs).toNat / 2 ^ n from by simp [Nat.shiftRight_eq_div_pow]]
    generalize (crc xs).toNat / 2 ^ n = m at h1 ⊢
    rw [wu32_eq (by omega) (by omega)]
  have e1 := ed 8
  have e2 := ed 16
  have e3 := ed 24
  simp only [Nat.reducePow] at e1 e2 e3
  refine ⟨le4 (crc xs), rfl, ?_, by simp [le4_len]; omega, rfl, Ext.new hw4⟩
  refine At.new hb3 (e := 5) ?_
  rw [hw4, low8, show (256 : Int) = ((256 : Nat) : Int) from rfl, show (65536 : Int) = ((65536 : Nat) : Int) from rfl, show (16777216 : Int) = ((16777216 : Nat) : Int) from rfl, e1, e2, e3, low8, low8, low8]
  rfl

/-! ### Open, few, lives -/
theorem open_ok (w : World) (p : Sl) (bs : List UInt8) (hp : Bytes w p bs) (hc : p.len ≤ p.cap) (hl : bs.length ≤ 70368744177664) :
    Calls Try.prog 14 #[p.v] w (Ret r14 fun x w' => Ext w w' ∧ ((bs.length < 4 ∧ x = (nilSl, 10)) ∨ (4 ≤ bs.length ∧ sealed (bs.take (bs.length - 4)) ≠ bs ∧ x = (nilSl, 20)) ∨
      (4 ≤ bs.length ∧ sealed (bs.take (bs.length - 4)) = bs ∧ x.2 = 0 ∧ Own w' w.heap.size 5 1 x.1 (u8s (bs.take (bs.length - 4)))))) := by
  apply s14_calls
  have hpl := hp.1
  have hn : IntKind.i64.wrap ((p.len : Int) - 4) = (p.len : Int) - 4 := w64_eq (by omega) (by omega)
  unfold s14
  rw [hn]
  refine ⟨fun hlt => ?_, fun hge => ?_⟩
  · have hlt := of_decide_eq_true hlt
    exact ⟨Ext.refl _, .inl ⟨by omega, rfl⟩⟩
  · have hge := of_decide_eq_false hge
    have e1 : (p.len : Int) - 4 = ((bs.length - 4 : Nat) : Int) := by omega
    rw [e1]
    have hcut : Bytes w (p.cut 1 0 ((bs.length - 4 : Nat) : Int) p.cap) (bs.take (bs.length - 4)) := hp.cut (l := 0) (e := bs.length - 4) (m := p.cap) (Nat.zero_le _) (by omega) (by omega)
    intro w2 hw2
    have hx2 : Ext w w2 := by subst hw2; exact Ext.drew _
    refine ⟨⟨by omega, by omega, by omega⟩, bs, hp.1, hp.2, ?_⟩
    refine cR_of (seal_ok w2 _ _ (hcut.ext hx2) (by simp; omega)) ?_
    rintro x5 w6 ⟨ho, hx6'⟩
    have hx6 : Ext w w6 := hx2.trans hx6'
    refine ⟨hx6, _, ho.bytes.1, ho.bytes.2, ?_⟩
    refine ⟨fun hne => ?_, fun he => ?_⟩
    · exact ⟨hx6, .inr (.inl ⟨by omega, nd_t hne, rfl⟩)⟩
    · intro b11 w12 hb11 hw12
      have hx12 : Ext w w12 := hx6.trans (Ext.new hw12)
      refine ⟨⟨by omega, by omega, by omega⟩, ?_⟩
      refine app_ok (base := w.heap.size) mk25 rfl (by decide) (Own.made (e := 5) (size := 1) (c := 0) hb11 hw12 hx6.size rfl (by simp [maxLen])) (news := u8s (bs.take (bs.length - 4)))
        (by rw [u8s_length, hcut.1]; omega) (hcut.ext hx12).2 (u8s_one _) (by simp only [maxLen, Sl.cut]; omega) (by simp only [Sl.cut]; omega) hx12.size ?_
      intro s' w' hl' ho' _ hB'
      exact ⟨hB' _ _ hx12 (Nat.le_refl _) hx12.size, .inr (.inr ⟨by omega, nd_f he, rfl, ho'⟩)⟩

def Few (l : List (List UInt8)) : Prop := l.length ≤ 20 ∧ ∀ b ∈ l, b.length ≤ 300
theorem few_ok (w : World) (p : Sl) (l : List (List UInt8)) (h : Parts w p l) (h1 : p.len ≤ maxLen) :
    Calls Try.prog 9 #[p.v] w (Ret r9 fun x w' => (x = true ↔ Few l) ∧ w = w') := by
  apply s9_calls
  have hpl := h.len
  simp only [maxLen] at h1
  refine ⟨fun hgt => ?_, fun hle => ?_⟩
  · have hgt := of_decide_eq_true hgt
    exact ⟨⟨fun h => absurd h (by decide), fun h => absurd h.1 (by omega)⟩, rfl⟩
  · have hle := of_decide_eq_false hle
    refine ⟨fun st w' => w = w' ∧ ∃ k : Nat, k ≤ l.length ∧ st = (k : Int) ∧ ∀ b ∈ l.take k, b.length ≤ 300, fun st _ => l.length - st.toNat, ⟨rfl, 0, Nat.zero_le _, rfl, by simp⟩, ?_⟩
    rintro i w' ⟨rfl, k, hk, rfl, hall⟩
    refine ⟨fun hlt => ?_, fun hge => ?_⟩
    · have hlt : k < l.length := by have := of_decide_eq_true hlt; omega
      obtain ⟨a, s, ha, hc, hb⟩ := h.get hlt
      refine ⟨a, _, ha, by omega, by omega, rfl, s, by rw [Int.toNat_natCast, Nat.mul_one]; exact hc, ?_⟩
      have hbl := hb.1
      refine ⟨fun hg => ?_, fun hg => ?_⟩
      · have hg := of_decide_eq_true hg
        exact ⟨⟨fun h => absurd h (by decide), fun h => absurd (h.2 _ (List.getElem_mem hlt)) (by omega)⟩, rfl⟩
      · have hg := of_decide_eq_false hg
        rw [w64_eq (by omega) (by omega)]
        refine ⟨⟨rfl, k + 1, by omega, by omega, ?_⟩, by simp only; omega⟩
        intro b hbm
        rw [List.take_succ_eq_append_getElem hlt, List.mem_append] at hbm
        rcases hbm with hbm | hbm
        · exact hall b hbm
        · obtain rfl : b = l[k] := by simpa using hbm
          omega
    · have hge : k = l.length := by have := of_decide_eq_false hge; omega
      subst hge
      rw [List.take_length] at hall
      exact ⟨⟨fun _ => ⟨by omega, hall⟩, fun _ => rfl⟩, rfl⟩

theorem known : crc [49, 50, 51, 52, 53, 54, 55, 56, 57] = 3421780262#32 := by decide +kernel
theorem lives_ok (w : World) : Calls Try.prog 8 #[] w (Ret r8 fun x w' => x = true ∧ Ext w w') := by
  apply s8_calls
  intro b1 w2 hb1 hw2
  have hx2 : Ext w w2 := Ext.new hw2
  refine ⟨b1, 0, _, 5, (0, 0), rfl, by rw [hb1, hw2]; exact heap_new _ _, ?_⟩
  intro w3 hw3
  have hx3 : Ext w w3 := by rw [hw3]; exact hx2.freeze 1 (by rw [hb1]; exact Nat.le_refl _)
  have hA : At w3 ⟨b1, 0, none⟩ (u8s [49, 50, 51, 52]) := by rw [hw3]; exact At.freeze (At.new (e := 5) hb1 (by rw [hw2]; rfl)) _ _
  intro b4 w5 hb4 hw5
  have hx5 : Ext w3 w5 := Ext.new hw5
  refine ⟨b4, 0, _, 5, (0, 0), rfl, by rw [hb4, hw5]; exact heap_new _ _, ?_⟩
  intro w6 hw6
  have hx6 : Ext w3 w6 := by rw [hw6]; exact hx5.freeze 1 (by rw [hb4]; exact Nat.le_refl _)
  have hB : At w6 ⟨b4, 0, none⟩ (u8s [53, 54, 55, 56, 57]) := by rw [hw6]; exact At.freeze (At.new (e := 5) hb4 (by rw [hw5]; rfl)) _ _
  intro b7 w8 hb7 hw8
  have hx8 : Ext w6 w8 := Ext.new hw8
  have hparts : Parts w8 ⟨some ⟨b7, 0, none⟩, 2, 2⟩ [[49, 50, 51, 52], [53, 54, 55, 56, 57]] := by
    refine ⟨[⟨some ⟨b1, 0, none⟩, 4, 4⟩, ⟨some ⟨b4, 0, none⟩, 5, 5⟩], rfl, rfl, At.new hb7 hw8, ?_⟩
    intro k s b hs hb
    rcases k with _ | _ | k
    · simp at hs hb
      subst hs; subst hb
      exact ⟨rfl, (hx6.trans hx8).at hA⟩
    · simp at hs hb
      subst hs; subst hb
      exact ⟨rfl, hx8.at hB⟩
    · simp at hs
  refine cR_of (sum_ok w8 _ _ hparts (by simp [maxLen]) (by simp [maxLen])) ?_
  rintro x w9 ⟨rfl, rfl⟩
  refine ⟨?_, (hx3.trans hx6).trans hx8⟩
  simp only [List.flatten_cons, List.flatten_nil, List.append_nil, List.cons_append, List.nil_append, known]
  decide
end Go.Proofs.Ytmlbmnaknjdmgaa
