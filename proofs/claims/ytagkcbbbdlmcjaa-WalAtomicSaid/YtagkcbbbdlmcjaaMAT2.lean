/- Parts of a proof, one behind the other: readings of functions, what they do, and what follows. -/
import Derived.Test.YtagkcbbbdlmcjaaMAT1
set_option linter.unusedVariables false
set_option linter.unusedSimpArgs false
section
/- The check sums of both, over their typed readings. -/
namespace Go.Proofs.Ytagkcbbbdlmcjaa
open Go.Lift Go.Lift.Crc Go.RowKit
theorem lt32 (a : R) : a.toNat < 4294967296 := a.isLt
theorem ofInt_toNat (a : R) : BitVec.ofInt 32 (a.toNat : Int) = a := by
 apply BitVec.eq_of_toNat_eq
 have := a.isLt
 simp
theorem xorI_u32 (a b : R) : xorI .u32 (a.toNat : Int) (b.toNat : Int) = ((a ^^^ b).toNat : Int) := by
 have h := (a ^^^ b).isLt
 show IntKind.u32.wrap ((BitVec.ofInt 32 (a.toNat : Int) ^^^ BitVec.ofInt 32 (b.toNat : Int)).toNat : Int) = _
 rw [ofInt_toNat, ofInt_toNat, wu32_eq (by omega) (by omega)]
theorem andI_one (a : R) : andI .u32 (a.toNat : Int) 1 = if a.getLsbD 0 then 1 else 0 := by
 show IntKind.u32.wrap ((BitVec.ofInt 32 (a.toNat : Int) &&& BitVec.ofInt 32 1).toNat : Int) = _
 rw [ofInt_toNat]
 have : a &&& BitVec.ofInt 32 1 = if a.getLsbD 0 then 1#32 else 0#32 := by
  apply BitVec.eq_of_getLsbD_eq
  intro i hi
  have h1 : (BitVec.ofInt 32 1) = 1#32 := by decide
  rw [h1, BitVec.getLsbD_and]
  rcases i with _ | i
  ·cases a.getLsbD 0 <;> simp
  ·cases a.getLsbD 0 <;> simp
 rw [this]
 cases a.getLsbD 0 <;> simp [wu32_mod]
theorem shrI_one (a : R) : shrI .u32 (a.toNat : Int) 1 = ((a >>> 1).toNat : Int) := by
 have h := a.isLt
 show Int.fdiv (a.toNat : Int) (2 ^ 1) = _
 rw [Int.fdiv_eq_ediv_of_nonneg _ (by decide)]
 simp [Nat.shiftRight_eq_div_pow]
theorem cmpl_u32 (a : R) : cmpl .u32 (a.toNat : Int) = ((~~~a).toNat : Int) := by
 have h := (~~~a).isLt
 show IntKind.u32.wrap ((BitVec.ofInt 32 4294967295 ^^^ BitVec.ofInt 32 (a.toNat : Int)).toNat : Int) = _
 rw [ofInt_toNat]
 have : BitVec.ofInt 32 4294967295 ^^^ a = ~~~a := by
  have h1 : BitVec.ofInt 32 4294967295 = BitVec.allOnes 32 := by decide
  rw [h1, BitVec.allOnes_xor]
 rw [this, wu32_eq (by omega) (by omega)]
theorem stp_int (a : R) : (if andI .u32 (a.toNat : Int) 1 = 1 then xorI .u32 (shrI .u32 (a.toNat : Int) 1) 3988292384 else shrI .u32 (a.toNat : Int) 1) = ((stp a).toNat : Int) := by
 rw [andI_one, shrI_one]
 have hp : (3988292384 : Int) = (poly.toNat : Int) := by decide
 rw [hp, xorI_u32]
 unfold stp
 cases a.getLsbD 0 <;> simp
theorem wide_nat (c : UInt8) : (wide c).toNat = c.toNat := by
 have := c.toBitVec.isLt
 have h2 : c.toNat = c.toBitVec.toNat := rfl
 simp [wide]
theorem u8_lt (c : UInt8) : c.toNat < 256 := c.toBitVec.isLt

theorem sum_ok (w : World) (p : Sl) (l : List (List UInt8)) (h : Parts w p l) (h1 : p.len ≤ maxLen) (h2 : ∀ b ∈ l, b.length ≤ maxLen) :
  Calls Try.prog 77 #[p.v] w (Ret r77 fun x w' => x = ((crc l.flatten).toNat : Int) ∧ w' = w) := by
 apply s77_calls
 have hpl := h.len
 simp only [maxLen] at h1 h2
 refine ⟨fun st w' => w = w' ∧ ∃ k, k ≤ l.length ∧ st.2 = (k : Int) ∧ st.1 = (((l.take k).flatten.foldl byteStep (BitVec.allOnes 32)).toNat : Int), fun st _ => l.length - st.2.toNat, ⟨rfl, 0, Nat.zero_le _, rfl, by simp⟩, ?_⟩
 rintro ⟨s, i⟩ w' ⟨rfl, k, hk, rfl, rfl⟩
 refine ⟨fun hlt => ?_, fun hge => ?_⟩
 ·have hlt : k < l.length := by simpa [hpl] using hlt
  obtain ⟨a, sl, ha, hc, hb⟩ := h.get hlt
  have hbl : (l[k]).length ≤ 9223372036854775807 := h2 _ (List.getElem_mem hlt)
  have hbs := hb.1
  refine ⟨a, _, ha, by simp, by simp; omega, rfl, ?_⟩
  refine ⟨sl, by simpa using hc, ?_⟩
  refine ⟨fun st w' => w = w' ∧ ∃ j, j ≤ (l[k]).length ∧ st.2 = (j : Int) ∧ st.1 = ((((l[k]).take j).foldl byteStep ((l.take k).flatten.foldl byteStep (BitVec.allOnes 32))).toNat : Int), fun st _ => (l[k]).length - st.2.toNat, ⟨rfl, 0, Nat.zero_le _, rfl, by simp⟩, ?_⟩
  rintro ⟨s2, i2⟩ w2 ⟨rfl, j, hj, rfl, rfl⟩
  refine ⟨fun hlt2 => ?_, fun hge2 => ?_⟩
  ·have hlt2 : j < (l[k]).length := by
    have := of_decide_eq_true hlt2
    simp only at this
    omega
   obtain ⟨a2, ha2, hc2⟩ := hb.get hlt2
   refine ⟨a2, _, ha2, by simp, by simp; omega, rfl, ?_⟩
   refine ⟨_, by simpa using hc2, ?_⟩
   generalize hr : ((l[k]).take j).foldl byteStep ((l.take k).flatten.foldl byteStep (BitVec.allOnes 32)) = r
   have hu := u8_lt (l[k])[j]
   refine ⟨fun st w' => w = w' ∧ ∃ i : Nat, i ≤ 8 ∧ st.2 = (i : Int) ∧ st.1 = ((iter i (r ^^^ wide (l[k])[j])).toNat : Int), fun st _ => 8 - st.2.toNat, ⟨rfl, 0, Nat.zero_le _, rfl, ?_⟩, ?_⟩
   ·simp only [iter]
    rw [wu32_eq (by omega) (by omega), ← wide_nat, xorI_u32]
   rintro ⟨s3, i3⟩ w3 ⟨rfl, i, hi, rfl, rfl⟩
   refine ⟨fun hlt3 => ?_, fun hge3 => ?_⟩
   ·have hlt3 : i < 8 := by have := of_decide_eq_true hlt3; simp only at this; omega
    have hstep := stp_int (iter i (r ^^^ wide (l[k])[j]))
    have hfin : ∀ x : Int, x = ((iter (i + 1) (r ^^^ wide (l[k])[j])).toNat : Int) →
      (w = w ∧ ∃ i', i' ≤ 8 ∧ (x, IntKind.i64.wrap ((i : Int) + 1)).2 = ((i' : Nat) : Int) ∧ (x, IntKind.i64.wrap ((i : Int) + 1)).1 = ((iter i' (r ^^^ wide (l[k])[j])).toNat : Int)) ∧ 8 - (x, IntKind.i64.wrap ((i : Int) + 1)).2.toNat < 8 - (((iter i (r ^^^ wide (l[k])[j])).toNat : Int), (i : Int)).2.toNat := by
     intro x hx
     simp only
     rw [w64_eq (by omega) (by omega)]
     exact ⟨⟨trivial, i + 1, by omega, by omega, hx⟩, by omega⟩
    refine ⟨fun ho => ?_, fun ho => ?_⟩
    ·have ho := of_decide_eq_true ho
     simp only at ho
     rw [if_pos ho] at hstep
     exact hfin _ (by rw [hstep]; rfl)
    ·have ho := of_decide_eq_false ho
     simp only at ho
     rw [if_neg ho] at hstep
     exact hfin _ (by rw [hstep]; rfl)
   ·have hge3 : i = 8 := by
     have := of_decide_eq_false hge3
     simp only at this
     omega
    subst hge3
    refine ⟨⟨rfl, j + 1, by omega, ?_, ?_⟩, ?_⟩
    ·simp only; rw [w64_eq (by omega) (by omega)]; omega
    ·simp only
     rw [List.take_succ_eq_append_getElem hlt2, List.foldl_append, hr]
     rfl
    ·simp only; rw [w64_eq (by omega) (by omega)]; omega
  ·have hge2 : j = (l[k]).length := by
    have := of_decide_eq_false hge2
    simp only at this
    omega
   subst hge2
   refine ⟨⟨rfl, k + 1, by omega, ?_, ?_⟩, ?_⟩
   ·simp only; rw [w64_eq (by omega) (by omega)]; omega
   ·simp only
    rw [List.take_succ_eq_append_getElem hlt, List.flatten_append, List.foldl_append, List.take_length]
    simp
   ·simp only; rw [w64_eq (by omega) (by omega)]; omega
 ·have hge : k = l.length := by
   have := of_decide_eq_false hge
   simp only at this
   omega
  subst hge
  refine ⟨?_, rfl⟩
  simp only [List.take_length]
  rw [cmpl_u32, foldl_byteStep]
  rfl

theorem bits_get : ∀ (xs : List UInt8) (k : Nat) (h : k / 8 < xs.length), (bitsOf xs)[k]? = some ((wide xs[k / 8]).getLsbD (k % 8))
 | [], k, h => by simp at h
 | c :: xs, k, h => by
  rw [bits_cons]
  by_cases hk : k < 8
  ·have h0 : k / 8 = 0 := by omega
   have h1 : k % 8 = k := by omega
   rw [List.getElem?_append_left (by simp [byteBits, bitsW]; omega)]
   simp [byteBits, bitsW, hk, h0, h1]
  ·have hl : (byteBits c).length = 8 := by simp [byteBits, bitsW]
   rw [List.getElem?_append_right (by omega), hl]
   have e1 : k / 8 = (k - 8) / 8 + 1 := by omega
   have e2 : (k - 8) % 8 = k % 8 := by omega
   rw [bits_get xs (k - 8) (by simp at h; omega), e2]
   simp only [e1, List.getElem_cons_succ]
theorem tmod2 (a : R) : Int.tmod (a.toNat : Int) 2 = if a.getLsbD 0 then 1 else 0 := by
 rw [Int.tmod_eq_emod_of_nonneg (by omega)]
 have : a.getLsbD 0 = decide (a.toNat % 2 = 1) := by
  rw [BitVec.getLsbD, Nat.testBit_zero]
 rw [this]
 by_cases h : a.toNat % 2 = 1 <;> simp [h] <;> omega
theorem half (a : R) : IntKind.u32.wrap (Int.tdiv (a.toNat : Int) 2) = ((a >>> 1).toNat : Int) := by
 have := a.isLt
 rw [Int.tdiv_eq_ediv_of_nonneg (by omega), wu32_eq (by omega) (by omega)]
 simp [Nat.shiftRight_eq_div_pow]
theorem stpIn_int (a : R) (b : Bool) (x : Int) (hx : x = if b then 1 else 0) :
  (if Int.tmod (a.toNat : Int) 2 = x then IntKind.u32.wrap (Int.tdiv (a.toNat : Int) 2) else xorI .u32 (IntKind.u32.wrap (Int.tdiv (a.toNat : Int) 2)) 3988292384) = ((stpIn a b).toNat : Int) := by
 rw [tmod2, half]
 have hp : (3988292384 : Int) = (poly.toNat : Int) := by decide
 rw [hp, xorI_u32, hx]
 unfold stpIn
 cases a.getLsbD 0 <;> cases b <;> simp
theorem inbit (c : UInt8) (j : Nat) (hj : j < 8) : Int.tmod (IntKind.u32.wrap (shrI .u8 (c.toNat : Int) (j : Int))) 2 = if (wide c).getLsbD j then 1 else 0 := by
 have hc := u8_lt c
 have h2 : c.toNat / 2 ^ j < 256 := Nat.lt_of_le_of_lt (Nat.div_le_self _ _) hc
 have e1 : shrI .u8 (c.toNat : Int) (j : Int) = ((c.toNat / 2 ^ j : Nat) : Int) := by
  unfold shrI
  have : min (j : Int).toNat (IntKind.bits .u8) = j := by simp [IntKind.bits]; omega
  rw [this, Int.fdiv_eq_ediv_of_nonneg _ (by exact_mod_cast Nat.zero_le _)]
  push_cast
  rfl
 have e2 : (wide c).getLsbD j = decide (c.toNat / 2 ^ j % 2 = 1) := by
  rw [BitVec.getLsbD, wide_nat, Nat.testBit_eq_decide_div_mod_eq]
 rw [e1, e2]
 generalize c.toNat / 2 ^ j = m at h2 ⊢
 rw [wu32_eq (by omega) (by omega), Int.tmod_eq_emod_of_nonneg (by omega)]
 by_cases h : m % 2 = 1 <;> simp [h] <;> omega

theorem refsum_ok (w : World) (xs : List UInt8) (hl : xs.length ≤ 140737488355328) :
  Calls Try.prog 76 #[str xs] w (Ret r76 fun x w' => x = ((crc xs).toNat : Int) ∧ w = w') := by
 apply s76_calls
 have hbl := bits_length xs
 have h8 : IntKind.i64.wrap (8 * (xs.length : Int)) = 8 * (xs.length : Int) := w64_eq (by omega) (by omega)
 refine ⟨fun st w' => w = w' ∧ ∃ k : Nat, k ≤ 8 * xs.length ∧ st.2 = (k : Int) ∧ st.1 = ((reg (BitVec.allOnes 32) ((bitsOf xs).take k)).toNat : Int), fun st _ => 8 * xs.length - st.2.toNat, ⟨rfl, 0, Nat.zero_le _, rfl, by simp [reg]⟩, ?_⟩
 rintro ⟨s, i⟩ w' ⟨rfl, k, hk, rfl, rfl⟩
 simp only [h8]
 refine ⟨fun hlt => ?_, fun hge => ?_⟩
 ·have hlt : k < 8 * xs.length := by have := of_decide_eq_true hlt; omega
  have hd : IntKind.i64.wrap (Int.tdiv (k : Int) 8) = ((k / 8 : Nat) : Int) := by
   rw [Int.tdiv_eq_ediv_of_nonneg (by omega), w64_eq (by omega) (by omega)]; omega
  have hm : IntKind.u64.wrap (Int.tmod (k : Int) 8) = ((k % 8 : Nat) : Int) := by
   rw [Int.tmod_eq_emod_of_nonneg (by omega), wu64_eq (by omega) (by omega)]; omega
  rw [hd, hm]
  have hkl : k / 8 < xs.length := by omega
  refine ⟨xs[k / 8], by omega, by rw [Int.toNat_natCast]; exact List.getElem?_eq_getElem hkl, by omega, ?_⟩
  have hb := inbit xs[k / 8] (k % 8) (by omega)
  have hstep := stpIn_int (reg (BitVec.allOnes 32) ((bitsOf xs).take k)) ((wide xs[k / 8]).getLsbD (k % 8)) _ hb
  have hnext : reg (BitVec.allOnes 32) ((bitsOf xs).take (k + 1)) = stpIn (reg (BitVec.allOnes 32) ((bitsOf xs).take k)) ((wide xs[k / 8]).getLsbD (k % 8)) := by
   have hg := bits_get xs k hkl
   have hkb : k < (bitsOf xs).length := by omega
   rw [List.getElem?_eq_getElem hkb] at hg
   rw [List.take_succ_eq_append_getElem hkb, reg_append, Option.some.inj hg]
   rfl
  rw [← hnext] at hstep
  have hfin : ∀ x : Int, x = ((reg (BitVec.allOnes 32) ((bitsOf xs).take (k + 1))).toNat : Int) →
    (w = w ∧ ∃ k' : Nat, k' ≤ 8 * xs.length ∧ IntKind.i64.wrap ((k : Int) + 1) = ((k' : Nat) : Int) ∧ x = ((reg (BitVec.allOnes 32) ((bitsOf xs).take k')).toNat : Int)) ∧ 8 * xs.length - (IntKind.i64.wrap ((k : Int) + 1)).toNat < 8 * xs.length - ((k : Nat) : Int).toNat := by
   intro x hx
   rw [w64_eq (by omega) (by omega)]
   exact ⟨⟨rfl, k + 1, by omega, by omega, hx⟩, by omega⟩
  refine ⟨fun ho => ?_, fun ho => ?_⟩
  ·rw [if_neg (nd_t ho)] at hstep
   exact hfin _ hstep
  ·rw [if_pos (nd_f ho)] at hstep
   exact hfin _ hstep
 ·have hge : k = 8 * xs.length := by have := of_decide_eq_false hge; omega
  subst hge
  refine ⟨?_, trivial⟩
  rw [← hbl, List.take_length]
  unfold crc
  generalize reg (BitVec.allOnes 32) (bitsOf xs) = r
  have := r.isLt
  rw [wu32_eq (by omega) (by omega), BitVec.toNat_not]
  omega

theorem shrI_8 (a : R) (i : Nat) (hi : i < 4) : shrI .u32 ((a >>> (8 * i)).toNat : Int) 8 = ((a >>> (8 * (i + 1))).toNat : Int) := by
 unfold shrI
 rw [show min (8 : Int).toNat (IntKind.bits .u32) = 8 from rfl, Int.fdiv_eq_ediv_of_nonneg _ (by decide)]
 rw [show 8 * (i + 1) = 8 * i + 8 from by omega, BitVec.shiftRight_add]
 simp [Nat.shiftRight_eq_div_pow]
theorem low8 (a : R) : IntKind.u8.wrap (a.toNat : Int) = ((⟨a.setWidth 8⟩ : UInt8).toNat : Int) := by
 rw [wu8_mod]
 have : (⟨a.setWidth 8⟩ : UInt8).toNat = a.toNat % 256 := by
  show (a.setWidth 8).toNat = _
  simp
 rw [this]
 omega
theorem le4_get (a : R) (i : Nat) (hi : i < 4) : (le4 a).take (i + 1) = (le4 a).take i ++ [⟨(a >>> (8 * i)).setWidth 8⟩] := by
 have : i = 0 ∨ i = 1 ∨ i = 2 ∨ i = 3 := by omega
 rcases this with rfl | rfl | rfl | rfl <;> simp [le4]
theorem le4_len (a : R) : (le4 a).length = 4 := rfl
theorem sealed_len (bs : List UInt8) : (sealed bs).length = bs.length + 4 := by simp [sealed, le4_len]

theorem parts_one {w w' : World} {b : Nat} {p : Sl} {bs : List UInt8} {e : TypeId} (hb : b = w.heap.size) (hw : w' = w.alloc (.cells [p.v].toArray e)) (hp : Bytes w p bs) :
  Parts w' ⟨some ⟨b, 0, none⟩, 1, 1⟩ [bs] := by
 refine ⟨[p], rfl, rfl, ?_, ?_⟩
 ·exact At.new hb hw
 ·intro k s b hs hb'
  rcases k with _ | k
  ·simp at hs hb'
   subst hs; subst hb'
   exact hp.ext (Ext.new hw)
  ·simp at hs

theorem refseal_ok (w : World) (xs : List UInt8) (hl : xs.length ≤ 70368744177664) :
  Calls Try.prog 52 #[str xs] w (Ret r52 fun x w' => x = sealed xs ∧ Ext w w') := by
 apply s52_calls
 refine cR_of (refsum_ok w xs (by omega)) ?_
 rintro x w2 ⟨rfl, rfl⟩
 intro b3 w4 hb3 hw4
 have hc := (crc xs).isLt
 have e0 : IntKind.u8.wrap ((crc xs).toNat : Int) = (((le4 (crc xs))[0]'(by simp [le4])).toNat : Int) := low8 _
 have ed : ∀ n : Nat, IntKind.u32.wrap (Int.tdiv ((crc xs).toNat : Int) ((2 ^ n : Nat) : Int)) = ((crc xs >>> n).toNat : Int) := by
  intro n
  have h1 : (crc xs).toNat / 2 ^ n < 4294967296 := Nat.lt_of_le_of_lt (Nat.div_le_self _ _) hc
  rw [Int.tdiv_eq_ediv_of_nonneg (by omega), ← Int.natCast_ediv]
  rw [show (crc xs >>> n).toNat = (crc xs).toNat / 2 ^ n from by simp [Nat.shiftRight_eq_div_pow]]
  generalize (crc xs).toNat / 2 ^ n = m at h1 ⊢
  rw [wu32_eq (by omega) (by omega)]
 have e1 := ed 8
 have e2 := ed 16
 have e3 := ed 24
 simp only [Nat.reducePow] at e1 e2 e3
 refine ⟨le4 (crc xs), rfl, ?_, by simp [le4_len]; omega, rfl, Ext.new hw4⟩
 refine At.new hb3 (e := 5) ?_
 rw [hw4, low8, show (256 : Int) = ((256 : Nat) : Int) from rfl, show (65536 : Int) = ((65536 : Nat) : Int) from rfl, show (16777216 : Int) = ((16777216 : Nat) : Int) from rfl, e1, e2, e3, low8, low8, low8]
 rfl

end Go.Proofs.Ytagkcbbbdlmcjaa
end
section
/- The typed readings of the functions, and that the program meets each: written by gen.py (a program of this session). -/
namespace Go.Proofs.Ytagkcbbbdlmcjaa
open Go.Lift
set_option maxRecDepth 100000 in
set_option maxHeartbeats 4000000 in
theorem s47_calls (K : Int × Int → World → Prop) (p0 : Sl) (p1 : Int) (w : World) (h : s47 K p0 p1 w) :
  Calls Try.prog 47 #[Sl.v p0, .int .i64 p1] w (Ret r47 K) := by
 unfold s47 at h
 refine calls_of_CW (n := 49) Try.func47 rfl rfl rfl ?_
 refine CW.seq ?_
 refine CW.region ?_
 refine RL.opS trivial rfl (OpW.assign (v := .int .u64 0) rfl ?_)
 refine RL.opS trivial rfl (OpW.assign (v := .int .i64 0) rfl ?_)
 refine RL.nil ?_
 refine CW.seq ?_
 obtain ⟨w1, hw1_⟩ : ∃ w_, w_ = w.drew := ⟨_, rfl⟩
 have h := h w1 hw1_
 have hx2 : Ext w w1 := by rw [hw1_]; exact Ext.drew _
 refine CW.draws (m := 8) (listed := #[F,F,F,F,F,F,F,F]) mixed [] (Ext w) rfl rfl ?_
 rw [← hw1_]
 refine DL.takeP (listed' := #[T,F,F,F,F,F,F,F]) (v := Sl.v p0) 0 rfl rfl (by kernel_rfl) rfl trivial rfl (fun w_ K_ h_ => OpW.move (v := Sl.v p0) rfl h_) ?_
 obtain ⟨⟨h1, h2, h3⟩, h⟩ := h
 refine DL.takeP (listed' := #[T,T,F,F,F,F,F,F]) (v := Sl.v (p0.cut 1 8 16 p0.cap)) 1 rfl rfl (by kernel_rfl) rfl trivial rfl (fun w_ K_ h_ => OpW.sliceSl (l := 8) (h := 16) slice_39 rfl ⟨_, rfl⟩ ⟨_, rfl⟩ h1 h2 (.inr h3) h_) ?_
 refine DL.takeP (listed' := #[T,T,F,T,F,F,F,F]) (v := Sl.v p0) 3 rfl rfl (by kernel_rfl) rfl trivial rfl (fun w_ K_ h_ => OpW.move (v := Sl.v p0) rfl h_) ?_
 obtain ⟨⟨h1, h2, h3⟩, h⟩ := h
 refine DL.takeP (listed' := #[T,T,F,T,T,F,F,F]) (v := Sl.v (p0.cut 1 16 24 p0.cap)) 4 rfl rfl (by kernel_rfl) rfl trivial rfl (fun w_ K_ h_ => OpW.sliceSl (l := 16) (h := 24) slice_39 rfl ⟨_, rfl⟩ ⟨_, rfl⟩ h1 h2 (.inr h3) h_) ?_
 refine DL.execS (listed' := #[T,T,T,T,T,F,F,F]) 2 rfl (by kernel_rfl) rfl trivial rfl (OpW.callR (al := [Sl.v (p0.cut 1 8 16 p0.cap)]) Try.func69 fb_69 fn_69 rfl h (fun x3 w4 h => ?_))
 refine ⟨(fun h_ => absurd h_ (by decide)), ?_⟩
 refine DL.execS (listed' := #[T,T,T,T,T,T,F,F]) 5 rfl (by kernel_rfl) rfl trivial rfl (OpW.callR (al := [Sl.v (p0.cut 1 16 24 p0.cap)]) Try.func69 fb_69 fn_69 rfl h (fun x5 w6 h => ?_))
 refine ⟨(fun h_ => absurd h_ (by decide)), ?_⟩
 refine DL.takeP (listed' := #[T,T,T,T,T,T,T,F]) (v := .int .u64 x3) 6 rfl rfl (by kernel_rfl) rfl trivial rfl (fun w_ K_ h_ => OpW.assign (v := .int .u64 x3) rfl h_) ?_
 refine DL.takeP (listed' := #[T,T,T,T,T,T,T,T]) (v := .int .u64 x5) 7 rfl rfl (by kernel_rfl) rfl trivial rfl (fun w_ K_ h_ => OpW.assign (v := .int .u64 x5) rfl h_) ?_
 refine DL.done (by kernel_rfl) ?_
 refine CW.seq ?_
 refine CW.seq ?_
 obtain ⟨w7, hw7_⟩ : ∃ w_, w_ = w6.drew := ⟨_, rfl⟩
 have h := h w7 hw7_
 have hx8 : Ext w6 w7 := by rw [hw7_]; exact Ext.drew _
 refine CW.draws (m := 32) (listed := #[F,F,F,F,F,F,F,F,F,F,F,F,F,F,F,F,F,F,F,F,F,F,F,F,F,F,F,F,F,F,F,F]) mixed [0, 1, 2, 3, 4, 5, 6, 7, 8, 9, 10, 11, 12, 13, 14, 15, 16, 17, 18, 19, 20, 21, 22, 23, 24, 25, 26, 27, 28, 29, 30, 31] (Ext w6) rfl rfl ?_
 rw [← hw7_]
 refine DL.takeP (listed' := #[T,F,F,F,F,F,F,F,F,F,F,F,F,F,F,F,F,F,F,F,F,F,F,F,F,F,F,F,F,F,F,F]) (v := Sl.v p0) 0 rfl rfl (by kernel_rfl) rfl trivial rfl (fun w_ K_ h_ => OpW.move (v := Sl.v p0) rfl h_) ?_
 obtain ⟨⟨h1, h2, h3⟩, h⟩ := h
 refine DL.takeP (listed' := #[T,T,F,F,F,F,F,F,F,F,F,F,F,F,F,F,F,F,F,F,F,F,F,F,F,F,F,F,F,F,F,F]) (v := Sl.v (p0.cut 1 0 24 p0.cap)) 1 rfl rfl (by kernel_rfl) rfl trivial rfl (fun w_ K_ h_ => OpW.sliceSl (l := 0) (h := 24) slice_39 rfl rfl ⟨_, rfl⟩ h1 h2 (.inr h3) h_) ?_
 obtain ⟨x9, h1, h2, h⟩ := h
 refine DL.takeK (listed' := #[T,T,T,F,F,F,F,F,F,F,F,F,F,F,F,F,F,F,F,F,F,F,F,F,F,F,F,F,F,F,F,F]) (v := str x9) 2 rfl rfl (by kernel_rfl) (by kernel_rfl) rfl trivial rfl hx8 (fun w_ hS_ K_ h_ => OpW.b2s bsl_39 str_9 rfl h1 (hS_.atO h2) h_) ?_
 refine DL.takeP (listed' := #[T,T,T,T,F,F,F,F,F,F,F,F,F,F,F,F,F,F,F,F,F,F,F,F,F,F,F,F,F,F,F,F]) (v := .int .u64 x3) 3 rfl rfl (by kernel_rfl) rfl trivial rfl (fun w_ K_ h_ => OpW.move (v := .int .u64 x3) rfl h_) ?_
 refine DL.takeP (listed' := #[T,T,T,T,T,F,F,F,F,F,F,F,F,F,F,F,F,F,F,F,F,F,F,F,F,F,F,F,F,F,F,F]) (v := .int .u64 x5) 4 rfl rfl (by kernel_rfl) rfl trivial rfl (fun w_ K_ h_ => OpW.move (v := .int .u64 x5) rfl h_) ?_
 refine DL.execS (listed' := #[T,T,T,T,T,T,F,F,F,F,F,F,F,F,F,F,F,F,F,F,F,F,F,F,F,F,F,F,F,F,F,F]) 5 rfl (by kernel_rfl) rfl trivial rfl (OpW.callR (al := [.int .u64 x3, .int .u64 x5]) Try.func70 fb_70 fn_70 rfl h (fun x10 w11 h => ?_))
 obtain ⟨hx12, h⟩ := h
 refine ⟨(fun _ _ => hx12), ?_⟩
 obtain ⟨x13, h1, h2, h⟩ := h
 refine DL.execS (listed' := #[T,T,T,T,T,T,T,F,F,F,F,F,F,F,F,F,F,F,F,F,F,F,F,F,F,F,F,F,F,F,F,F]) 6 rfl (by kernel_rfl) rfl trivial rfl (OpW.b2s bsl_39 str_9 rfl h1 h2 ?_)
 refine ⟨(fun _ _ => hx12), ?_⟩
 refine DL.takeP (listed' := #[T,T,T,T,T,T,T,T,F,F,F,F,F,F,F,F,F,F,F,F,F,F,F,F,F,F,F,F,F,F,F,F]) (v := .bool (!decide (x9 = x13))) 7 rfl rfl (by kernel_rfl) rfl trivial rfl (fun w_ K_ h_ => OpW.strCmp (b := !decide (x9 = x13)) rfl rfl rfl h_) ?_
 refine DL.takeP (listed' := #[T,T,T,T,T,T,T,T,T,F,F,F,F,F,F,F,F,F,F,F,F,F,F,F,F,F,F,F,F,F,F,F]) (v := .bool (!decide (x9 = x13))) 8 rfl rfl (by kernel_rfl) rfl trivial rfl (fun w_ K_ h_ => OpW.move (v := .bool (!decide (x9 = x13))) rfl h_) ?_
 refine jn_elim h ?_; clear h; intro k63 hk64 h
 refine DL.cut (A := Bool) (fun s23 ρ => ρ 31 = .bool s23 ∧ ρ 1 = .int .i64 p1 ∧ ρ 6 = .int .u64 x3 ∧ ρ 7 = .int .u64 x5) k63 14 #[T,T,T,T,T,T,T,T,T,T,T,T,T,T,T,T,T,T,F,F,F,F,F,F,F,F,F,F,F,F,F,F] ?_ ?_
 ·rintro s23 ρ w24 ⟨e26, e27, e28, e29⟩ h
  subst hk64
  refine DL.takeP (listed' := #[T,T,T,T,T,T,T,T,T,T,T,T,T,T,T,T,T,T,T,F,F,F,F,F,F,F,F,F,F,F,F,F]) (v := .bool s23) 18 rfl rfl (by kernel_rfl) rfl trivial rfl (fun w_ K_ h_ => OpW.move (v := .bool s23) e26 h_) ?_
  refine jn_elim h ?_; clear h; intro k61 hk62 h
  refine DL.cut (A := Bool) (fun s32 ρ => ρ 35 = .bool s32 ∧ ρ 1 = .int .i64 p1 ∧ ρ 6 = .int .u64 x3 ∧ ρ 7 = .int .u64 x5) k61 10 #[T,T,T,T,T,T,T,T,T,T,T,T,T,T,T,T,T,T,T,T,T,T,F,F,F,F,F,F,F,F,F,F] ?_ ?_
  ·rintro s32 ρ w33 ⟨e35, e36, e37, e38⟩ h
   subst hk62
   refine DL.takeP (listed' := #[T,T,T,T,T,T,T,T,T,T,T,T,T,T,T,T,T,T,T,T,T,T,T,F,F,F,F,F,F,F,F,F]) (v := .bool s32) 22 rfl rfl (by kernel_rfl) rfl trivial rfl (fun w_ K_ h_ => OpW.move (v := .bool s32) e35 h_) ?_
   refine jn_elim h ?_; clear h; intro k59 hk60 h
   refine DL.cut (A := Bool) (fun s41 ρ => ρ 39 = .bool s41 ∧ ρ 1 = .int .i64 p1 ∧ ρ 6 = .int .u64 x3 ∧ ρ 7 = .int .u64 x5) k59 6 #[T,T,T,T,T,T,T,T,T,T,T,T,T,T,T,T,T,T,T,T,T,T,T,T,T,T,F,F,F,F,F,F] ?_ ?_
   ·rintro s41 ρ w42 ⟨e44, e45, e46, e47⟩ h
    subst hk60
    refine DL.takeP (listed' := #[T,T,T,T,T,T,T,T,T,T,T,T,T,T,T,T,T,T,T,T,T,T,T,T,T,T,T,F,F,F,F,F]) (v := .bool s41) 26 rfl rfl (by kernel_rfl) rfl trivial rfl (fun w_ K_ h_ => OpW.move (v := .bool s41) e44 h_) ?_
    refine jn_elim h ?_; clear h; intro k57 hk58 h
    refine DL.cut (A := Bool) (fun s50 ρ => ρ 45 = .bool s50 ∧ ρ 6 = .int .u64 x3 ∧ ρ 7 = .int .u64 x5) k57 0 #[T,T,T,T,T,T,T,T,T,T,T,T,T,T,T,T,T,T,T,T,T,T,T,T,T,T,T,T,T,T,T,T] ?_ ?_
    ·rintro s50 ρ w51 ⟨e53, e54, e55⟩ h
     subst hk58
     refine DL.done (by kernel_rfl) ?_
     obtain ⟨ha, hc⟩ := h
     refine CW.cond (b := s50) e53 (fun hb56 => ?_) (fun hb56 => ?_)
     ·have h := ha hb56; clear ha hc
      refine CW.seq ?_
      refine CW.region ?_
      refine RL.opS trivial rfl (OpW.assign (v := .int .u64 0) rfl ?_)
      refine RL.opS trivial rfl (OpW.assign (v := .int .i64 0) rfl ?_)
      refine RL.nil ?_
      refine CW.ret ?_
      exact ret_intro (res2 rfl rfl rfl) ⟨(0, 0), rfl, h⟩
     ·have h := hc hb56; clear ha hc
      refine CW.skip ?_
      refine CW.seq ?_
      refine CW.region ?_
      refine RL.opS trivial rfl (OpW.move (v := .int .u64 x3) e54 ?_)
      refine RL.opS trivial rfl (OpW.move (v := .int .u64 x5) e55 ?_)
      refine RL.opS trivial rfl (OpW.convInt (a := x5) int_25 int_3 rfl ?_)
      refine RL.opS trivial rfl (OpW.assign (v := .int .u64 x3) rfl ?_)
      refine RL.opS trivial rfl (OpW.assign (v := .int .i64 (IntKind.i64.wrap x5)) rfl ?_)
      refine RL.nil ?_
      refine CW.ret ?_
      exact ret_intro (res2 rfl rfl rfl) ⟨(x3, (IntKind.i64.wrap x5)), rfl, h⟩
    ·intro hJJ48; clear hk58
     obtain ⟨ha, hc⟩ := h
     rcases Bool.eq_false_or_eq_true s41 with hb49 | hb49
     ·have h := ha hb49; clear ha hc
      refine DL.skipP (listed' := #[T,T,T,T,T,T,T,T,T,T,T,T,T,T,T,T,T,T,T,T,T,T,T,T,T,T,T,T,F,F,F,F]) 27 rfl (by kernel_rfl) rfl (notWanted_of rfl rfl hb49) rfl ?_
      refine DL.skipP (listed' := #[T,T,T,T,T,T,T,T,T,T,T,T,T,T,T,T,T,T,T,T,T,T,T,T,T,T,T,T,T,F,F,F]) 28 rfl (by kernel_rfl) rfl (notWanted_of rfl rfl hb49) rfl ?_
      refine DL.skipP (listed' := #[T,T,T,T,T,T,T,T,T,T,T,T,T,T,T,T,T,T,T,T,T,T,T,T,T,T,T,T,T,T,F,F]) 29 rfl (by kernel_rfl) rfl (notWanted_of rfl rfl hb49) rfl ?_
      refine DL.skipP (listed' := #[T,T,T,T,T,T,T,T,T,T,T,T,T,T,T,T,T,T,T,T,T,T,T,T,T,T,T,T,T,T,T,F]) 30 rfl (by kernel_rfl) rfl (notWanted_of rfl rfl hb49) rfl ?_
      refine DL.takeP (listed' := #[T,T,T,T,T,T,T,T,T,T,T,T,T,T,T,T,T,T,T,T,T,T,T,T,T,T,T,T,T,T,T,T]) (v := .bool true) 31 rfl rfl (by kernel_rfl) rfl trivial rfl (fun w_ K_ h_ => OpW.pick (b := true) (v := .bool true) (congrArg Value.bool hb49) rfl h_) ?_
      exact hJJ48 _ _ ⟨true, ⟨rfl, e46, e47⟩, h⟩
     ·have h := hc hb49; clear ha hc
      refine DL.takeP (listed' := #[T,T,T,T,T,T,T,T,T,T,T,T,T,T,T,T,T,T,T,T,T,T,T,T,T,T,T,T,F,F,F,F]) (v := .int .u64 x5) 27 rfl rfl (by kernel_rfl) rfl (wanted_of rfl rfl hb49) rfl (fun w_ K_ h_ => OpW.move (v := .int .u64 x5) e47 h_) ?_
      refine DL.takeP (listed' := #[T,T,T,T,T,T,T,T,T,T,T,T,T,T,T,T,T,T,T,T,T,T,T,T,T,T,T,T,T,F,F,F]) (v := .int .i64 p1) 28 rfl rfl (by kernel_rfl) rfl (wanted_of rfl rfl hb49) rfl (fun w_ K_ h_ => OpW.move (v := .int .i64 p1) e45 h_) ?_
      refine DL.takeP (listed' := #[T,T,T,T,T,T,T,T,T,T,T,T,T,T,T,T,T,T,T,T,T,T,T,T,T,T,T,T,T,T,F,F]) (v := .int .u64 (IntKind.u64.wrap p1)) 29 rfl rfl (by kernel_rfl) rfl (wanted_of rfl rfl hb49) rfl (fun w_ K_ h_ => OpW.convInt (a := p1) int_3 int_25 rfl h_) ?_
      refine DL.takeP (listed' := #[T,T,T,T,T,T,T,T,T,T,T,T,T,T,T,T,T,T,T,T,T,T,T,T,T,T,T,T,T,T,T,F]) (v := .bool (decide ((IntKind.u64.wrap p1) < x5))) 30 rfl rfl (by kernel_rfl) rfl (wanted_of rfl rfl hb49) rfl (fun w_ K_ h_ => OpW.bin (k := .u64) (a := x5) (b := (IntKind.u64.wrap p1)) (v := .bool (decide ((IntKind.u64.wrap p1) < x5))) rfl rfl rfl h_) ?_
      refine DL.takeP (listed' := #[T,T,T,T,T,T,T,T,T,T,T,T,T,T,T,T,T,T,T,T,T,T,T,T,T,T,T,T,T,T,T,T]) (v := .bool (decide ((IntKind.u64.wrap p1) < x5))) 31 rfl rfl (by kernel_rfl) rfl trivial rfl (fun w_ K_ h_ => OpW.pick (b := false) (v := .bool (decide ((IntKind.u64.wrap p1) < x5))) (congrArg Value.bool hb49) rfl h_) ?_
      exact hJJ48 _ _ ⟨(decide ((IntKind.u64.wrap p1) < x5)), ⟨rfl, e46, e47⟩, h⟩
   ·intro hJJ39; clear hk60
    obtain ⟨ha, hc⟩ := h
    rcases Bool.eq_false_or_eq_true s32 with hb40 | hb40
    ·have h := ha hb40; clear ha hc
     refine DL.skipP (listed' := #[T,T,T,T,T,T,T,T,T,T,T,T,T,T,T,T,T,T,T,T,T,T,T,T,F,F,F,F,F,F,F,F]) 23 rfl (by kernel_rfl) rfl (notWanted_of rfl rfl hb40) rfl ?_
     refine DL.skipP (listed' := #[T,T,T,T,T,T,T,T,T,T,T,T,T,T,T,T,T,T,T,T,T,T,T,T,T,F,F,F,F,F,F,F]) 24 rfl (by kernel_rfl) rfl (notWanted_of rfl rfl hb40) rfl ?_
     refine DL.takeP (listed' := #[T,T,T,T,T,T,T,T,T,T,T,T,T,T,T,T,T,T,T,T,T,T,T,T,T,T,F,F,F,F,F,F]) (v := .bool true) 25 rfl rfl (by kernel_rfl) rfl trivial rfl (fun w_ K_ h_ => OpW.pick (b := true) (v := .bool true) (congrArg Value.bool hb40) rfl h_) ?_
     exact hJJ39 _ _ ⟨true, ⟨rfl, e36, e37, e38⟩, h⟩
    ·have h := hc hb40; clear ha hc
     refine DL.takeP (listed' := #[T,T,T,T,T,T,T,T,T,T,T,T,T,T,T,T,T,T,T,T,T,T,T,T,F,F,F,F,F,F,F,F]) (v := .int .u64 x3) 23 rfl rfl (by kernel_rfl) rfl (wanted_of rfl rfl hb40) rfl (fun w_ K_ h_ => OpW.move (v := .int .u64 x3) e37 h_) ?_
     refine DL.takeP (listed' := #[T,T,T,T,T,T,T,T,T,T,T,T,T,T,T,T,T,T,T,T,T,T,T,T,T,F,F,F,F,F,F,F]) (v := .bool (decide (4611686018427387904 < x3))) 24 rfl rfl (by kernel_rfl) rfl (wanted_of rfl rfl hb40) rfl (fun w_ K_ h_ => OpW.bin (k := .u64) (a := x3) (b := 4611686018427387904) (v := .bool (decide (4611686018427387904 < x3))) rfl rfl rfl h_) ?_
     refine DL.takeP (listed' := #[T,T,T,T,T,T,T,T,T,T,T,T,T,T,T,T,T,T,T,T,T,T,T,T,T,T,F,F,F,F,F,F]) (v := .bool (decide (4611686018427387904 < x3))) 25 rfl rfl (by kernel_rfl) rfl trivial rfl (fun w_ K_ h_ => OpW.pick (b := false) (v := .bool (decide (4611686018427387904 < x3))) (congrArg Value.bool hb40) rfl h_) ?_
     exact hJJ39 _ _ ⟨(decide (4611686018427387904 < x3)), ⟨rfl, e36, e37, e38⟩, h⟩
  ·intro hJJ30; clear hk62
   obtain ⟨ha, hc⟩ := h
   rcases Bool.eq_false_or_eq_true s23 with hb31 | hb31
   ·have h := ha hb31; clear ha hc
    refine DL.skipP (listed' := #[T,T,T,T,T,T,T,T,T,T,T,T,T,T,T,T,T,T,T,T,F,F,F,F,F,F,F,F,F,F,F,F]) 19 rfl (by kernel_rfl) rfl (notWanted_of rfl rfl hb31) rfl ?_
    refine DL.skipP (listed' := #[T,T,T,T,T,T,T,T,T,T,T,T,T,T,T,T,T,T,T,T,T,F,F,F,F,F,F,F,F,F,F,F]) 20 rfl (by kernel_rfl) rfl (notWanted_of rfl rfl hb31) rfl ?_
    refine DL.takeP (listed' := #[T,T,T,T,T,T,T,T,T,T,T,T,T,T,T,T,T,T,T,T,T,T,F,F,F,F,F,F,F,F,F,F]) (v := .bool true) 21 rfl rfl (by kernel_rfl) rfl trivial rfl (fun w_ K_ h_ => OpW.pick (b := true) (v := .bool true) (congrArg Value.bool hb31) rfl h_) ?_
    exact hJJ30 _ _ ⟨true, ⟨rfl, e27, e28, e29⟩, h⟩
   ·have h := hc hb31; clear ha hc
    refine DL.takeP (listed' := #[T,T,T,T,T,T,T,T,T,T,T,T,T,T,T,T,T,T,T,T,F,F,F,F,F,F,F,F,F,F,F,F]) (v := .int .u64 x3) 19 rfl rfl (by kernel_rfl) rfl (wanted_of rfl rfl hb31) rfl (fun w_ K_ h_ => OpW.move (v := .int .u64 x3) e28 h_) ?_
    refine DL.takeP (listed' := #[T,T,T,T,T,T,T,T,T,T,T,T,T,T,T,T,T,T,T,T,T,F,F,F,F,F,F,F,F,F,F,F]) (v := .bool (decide (x3 < 1))) 20 rfl rfl (by kernel_rfl) rfl (wanted_of rfl rfl hb31) rfl (fun w_ K_ h_ => OpW.bin (k := .u64) (a := x3) (b := 1) (v := .bool (decide (x3 < 1))) rfl rfl rfl h_) ?_
    refine DL.takeP (listed' := #[T,T,T,T,T,T,T,T,T,T,T,T,T,T,T,T,T,T,T,T,T,T,F,F,F,F,F,F,F,F,F,F]) (v := .bool (decide (x3 < 1))) 21 rfl rfl (by kernel_rfl) rfl trivial rfl (fun w_ K_ h_ => OpW.pick (b := false) (v := .bool (decide (x3 < 1))) (congrArg Value.bool hb31) rfl h_) ?_
    exact hJJ30 _ _ ⟨(decide (x3 < 1)), ⟨rfl, e27, e28, e29⟩, h⟩
 ·intro hJJ15; clear hk64
  obtain ⟨ha, hc⟩ := h
  rcases Bool.eq_false_or_eq_true (!decide (x9 = x13)) with hb16 | hb16
  ·have h := ha hb16; clear ha hc
   refine DL.skipP (listed' := #[T,T,T,T,T,T,T,T,T,T,F,F,F,F,F,F,F,F,F,F,F,F,F,F,F,F,F,F,F,F,F,F]) 9 rfl (by kernel_rfl) rfl (notWanted_of rfl rfl hb16) rfl ?_
   refine DL.skipP (listed' := #[T,T,T,T,T,T,T,T,T,T,T,F,F,F,F,F,F,F,F,F,F,F,F,F,F,F,F,F,F,F,F,F]) 10 rfl (by kernel_rfl) rfl (notWanted_of rfl rfl hb16) rfl ?_
   refine DL.skipP (listed' := #[T,T,T,T,T,T,T,T,T,T,T,T,F,F,F,F,F,F,F,F,F,F,F,F,F,F,F,F,F,F,F,F]) 11 rfl (by kernel_rfl) rfl (notWanted_of rfl rfl hb16) rfl ?_
   refine DL.skipP (listed' := #[T,T,T,T,T,T,T,T,T,T,T,T,T,F,F,F,F,F,F,F,F,F,F,F,F,F,F,F,F,F,F,F]) 12 rfl (by kernel_rfl) rfl (notWanted_of rfl rfl hb16) rfl ?_
   refine DL.skipP (listed' := #[T,T,T,T,T,T,T,T,T,T,T,T,T,T,F,F,F,F,F,F,F,F,F,F,F,F,F,F,F,F,F,F]) 13 rfl (by kernel_rfl) rfl (notWanted_of rfl rfl hb16) rfl ?_
   refine DL.skipX (listed' := #[T,T,T,T,T,T,T,T,T,T,T,T,T,T,T,F,F,F,F,F,F,F,F,F,F,F,F,F,F,F,F,F]) 14 rfl (by kernel_rfl) rfl (notWanted_of rfl rfl hb16) rfl ?_
   refine DL.skipX (listed' := #[T,T,T,T,T,T,T,T,T,T,T,T,T,T,T,T,F,F,F,F,F,F,F,F,F,F,F,F,F,F,F,F]) 15 rfl (by kernel_rfl) rfl (notWanted_of rfl rfl hb16) rfl ?_
   refine DL.skipP (listed' := #[T,T,T,T,T,T,T,T,T,T,T,T,T,T,T,T,T,F,F,F,F,F,F,F,F,F,F,F,F,F,F,F]) 16 rfl (by kernel_rfl) rfl (notWanted_of rfl rfl hb16) rfl ?_
   refine DL.takeP (listed' := #[T,T,T,T,T,T,T,T,T,T,T,T,T,T,T,T,T,T,F,F,F,F,F,F,F,F,F,F,F,F,F,F]) (v := .bool true) 17 rfl rfl (by kernel_rfl) rfl trivial rfl (fun w_ K_ h_ => OpW.pick (b := true) (v := .bool true) (congrArg Value.bool hb16) rfl h_) ?_
   exact hJJ15 _ _ ⟨true, ⟨rfl, rfl, rfl, rfl⟩, h⟩
  ·have h := hc hb16; clear ha hc
   refine DL.takeP (listed' := #[T,T,T,T,T,T,T,T,T,T,F,F,F,F,F,F,F,F,F,F,F,F,F,F,F,F,F,F,F,F,F,F]) (v := Sl.v p0) 9 rfl rfl (by kernel_rfl) rfl (wanted_of rfl rfl hb16) rfl (fun w_ K_ h_ => OpW.move (v := Sl.v p0) rfl h_) ?_
   obtain ⟨⟨h1, h2, h3⟩, h⟩ := h
   refine DL.takeP (listed' := #[T,T,T,T,T,T,T,T,T,T,T,F,F,F,F,F,F,F,F,F,F,F,F,F,F,F,F,F,F,F,F,F]) (v := Sl.v (p0.cut 1 24 48 p0.cap)) 10 rfl rfl (by kernel_rfl) rfl (wanted_of rfl rfl hb16) rfl (fun w_ K_ h_ => OpW.sliceSl (l := 24) (h := 48) slice_39 rfl ⟨_, rfl⟩ ⟨_, rfl⟩ h1 h2 (.inr h3) h_) ?_
   obtain ⟨x17, h1, h2, h⟩ := h
   refine DL.takeK (listed' := #[T,T,T,T,T,T,T,T,T,T,T,T,F,F,F,F,F,F,F,F,F,F,F,F,F,F,F,F,F,F,F,F]) (v := str x17) 11 rfl rfl (by kernel_rfl) (by kernel_rfl) rfl (wanted_of rfl rfl hb16) rfl hx12 (fun w_ hS_ K_ h_ => OpW.b2s bsl_39 str_9 rfl h1 (hS_.atO h2) h_) ?_
   refine DL.takeP (listed' := #[T,T,T,T,T,T,T,T,T,T,T,T,T,F,F,F,F,F,F,F,F,F,F,F,F,F,F,F,F,F,F,F]) (v := .int .u64 x5) 12 rfl rfl (by kernel_rfl) rfl (wanted_of rfl rfl hb16) rfl (fun w_ K_ h_ => OpW.move (v := .int .u64 x5) rfl h_) ?_
   refine DL.takeP (listed' := #[T,T,T,T,T,T,T,T,T,T,T,T,T,T,F,F,F,F,F,F,F,F,F,F,F,F,F,F,F,F,F,F]) (v := .int .u64 x3) 13 rfl rfl (by kernel_rfl) rfl (wanted_of rfl rfl hb16) rfl (fun w_ K_ h_ => OpW.move (v := .int .u64 x3) rfl h_) ?_
   refine DL.execS (listed' := #[T,T,T,T,T,T,T,T,T,T,T,T,T,T,T,F,F,F,F,F,F,F,F,F,F,F,F,F,F,F,F,F]) 14 rfl (by kernel_rfl) rfl (wanted_of rfl rfl hb16) rfl (OpW.callR (al := [.int .u64 x5, .int .u64 x3]) Try.func70 fb_70 fn_70 rfl h (fun x18 w19 h => ?_))
   obtain ⟨hx20, h⟩ := h
   refine ⟨(fun _ _ => hx20), ?_⟩
   obtain ⟨x21, h1, h2, h⟩ := h
   refine DL.execS (listed' := #[T,T,T,T,T,T,T,T,T,T,T,T,T,T,T,T,F,F,F,F,F,F,F,F,F,F,F,F,F,F,F,F]) 15 rfl (by kernel_rfl) rfl (wanted_of rfl rfl hb16) rfl (OpW.b2s bsl_39 str_9 rfl h1 h2 ?_)
   refine ⟨(fun _ _ => hx20), ?_⟩
   refine DL.takeP (listed' := #[T,T,T,T,T,T,T,T,T,T,T,T,T,T,T,T,T,F,F,F,F,F,F,F,F,F,F,F,F,F,F,F]) (v := .bool (!decide (x17 = x21))) 16 rfl rfl (by kernel_rfl) rfl (wanted_of rfl rfl hb16) rfl (fun w_ K_ h_ => OpW.strCmp (b := !decide (x17 = x21)) rfl rfl rfl h_) ?_
   refine DL.takeP (listed' := #[T,T,T,T,T,T,T,T,T,T,T,T,T,T,T,T,T,T,F,F,F,F,F,F,F,F,F,F,F,F,F,F]) (v := .bool (!decide (x17 = x21))) 17 rfl rfl (by kernel_rfl) rfl trivial rfl (fun w_ K_ h_ => OpW.pick (b := false) (v := .bool (!decide (x17 = x21))) (congrArg Value.bool hb16) rfl h_) ?_
   exact hJJ15 _ _ ⟨(!decide (x17 = x21)), ⟨rfl, rfl, rfl, rfl⟩, h⟩
end Go.Proofs.Ytagkcbbbdlmcjaa
end
section
/- The typed readings of the functions, and that the program meets each: written by gen.py (a program of this session). -/
namespace Go.Proofs.Ytagkcbbbdlmcjaa
open Go.Lift
set_option maxRecDepth 100000 in
set_option maxHeartbeats 4000000 in
theorem s49_calls (K : Sl → World → Prop) (p0 : Sl) (w : World) (h : s49 K p0 w) :
  Calls Try.prog 49 #[Sl.v p0] w (Ret r49 K) := by
 unfold s49 at h
 refine calls_of_CW (n := 9) Try.func49 rfl rfl rfl ?_
 refine CW.seq ?_
 refine CW.region ?_
 refine RL.opS trivial rfl (OpW.assign (v := Sl.v nilSl) rfl ?_)
 refine RL.nil ?_
 refine CW.seq ?_
 refine CW.region ?_
 refine RL.opS trivial rfl (OpW.move (v := Sl.v p0) rfl ?_)
 refine RL.opS trivial rfl (OpW.move (v := Sl.v p0) rfl ?_)
 refine RL.opS trivial rfl (OpW.len (s := p0) slice_39 rfl ?_)
 refine RL.opS trivial rfl (OpW.move (v := Sl.v p0) rfl ?_)
 refine RL.opS trivial rfl (OpW.len (s := p0) slice_39 rfl ?_)
 obtain ⟨⟨h1, h2, h3, h4⟩, h⟩ := h
 refine RL.opS trivial rfl (OpW.slice3 (l := 0) (h := (p0.len : Int)) (m := (p0.len : Int)) slice_39 rfl rfl rfl rfl h1 h2 h3 h4 ?_)
 refine RL.opS trivial rfl (OpW.assign (v := Sl.v (p0.cut 1 0 (p0.len : Int) (p0.len : Int))) rfl ?_)
 refine RL.nil ?_
 refine CW.ret ?_
 exact ret_intro (res1 rfl rfl) ⟨(p0.cut 1 0 (p0.len : Int) (p0.len : Int)), rfl, h⟩
end Go.Proofs.Ytagkcbbbdlmcjaa
end
section
/- The typed readings of the functions, and that the program meets each: written by gen.py (a program of this session). -/
namespace Go.Proofs.Ytagkcbbbdlmcjaa
open Go.Lift
set_option maxRecDepth 100000 in
set_option maxHeartbeats 4000000 in
theorem s69_calls (K : Int → World → Prop) (p0 : Sl) (w : World) (h : s69 K p0 w) :
  Calls Try.prog 69 #[Sl.v p0] w (Ret r69 K) := by
 unfold s69 at h
 refine calls_of_CW (n := 19) Try.func69 rfl rfl rfl ?_
 refine CW.seq ?_
 refine CW.region ?_
 refine RL.opS trivial rfl (OpW.assign (v := .int .u64 0) rfl ?_)
 refine RL.nil ?_
 refine CW.seq ?_
 refine CW.region ?_
 refine RL.opS trivial rfl (OpW.assign (v := .int .u64 0) rfl ?_)
 refine RL.nil ?_
 refine CW.seq ?_
 refine CW.seq ?_
 refine CW.region ?_
 refine RL.opS trivial rfl (OpW.move (v := Sl.v p0) rfl ?_)
 refine RL.opS trivial rfl (OpW.len (s := p0) slice_39 rfl ?_)
 refine RL.opS trivial rfl (OpW.move (v := .int .i64 0) rfl ?_)
 refine RL.nil ?_
 refine CW.block ?_
 obtain ⟨I12, mu13, hI, hs⟩ := h
 refine CW.loop (σ := Int × Int) (fun s1 ρ => ρ 3 = .int .u64 s1.1 ∧ ρ 8 = .int .i64 s1.2 ∧ ρ 6 = Sl.v p0 ∧ ρ 7 = .int .i64 (p0.len : Int)) I12 mu13 (0, 0) ⟨rfl, rfl, rfl, rfl⟩ hI ?_
 rintro s1 ρ w2 ⟨e4, e5, e6, e7⟩ hI
 have h := hs s1 w2 hI
 clear hs hI
 refine CW.seq ?_
 refine CW.region ?_
 refine RL.opS trivial rfl (OpW.bin (k := .i64) (a := s1.2) (b := (p0.len : Int)) (v := .bool (decide (s1.2 < (p0.len : Int)))) e5 e7 rfl ?_)
 refine RL.nil ?_
 refine CW.seq ?_
 obtain ⟨ha, hc⟩ := h
 refine CW.cond (b := (decide (s1.2 < (p0.len : Int)))) rfl (fun hb8 => ?_) (fun hb8 => ?_)
 ·have h := ha hb8; clear ha hc
  refine CW.skip ?_
  refine CW.seq ?_
  refine CW.block ?_
  refine CW.seq ?_
  refine CW.region ?_
  obtain ⟨a9_, a9, h1, h2, h3, h4, h⟩ := h
  refine RL.opS trivial rfl (OpW.indexE (a' := a9) slice_39 e6 e5 h1 h2 h3 h4 ?_)
  obtain ⟨x11, h1, h⟩ := h
  refine RL.opS trivial rfl (OpW.load1 (v := .int .u8 x11) one_5 rfl h1 ?_)
  refine RL.opS trivial rfl (OpW.assign (v := .int .u8 x11) rfl ?_)
  refine RL.nil ?_
  refine CW.region ?_
  refine RL.opS trivial rfl (OpW.move (v := .int .u64 s1.1) e4 ?_)
  refine RL.opS trivial rfl (OpW.shift (a := s1.1) (b := 8) (v := .int .u64 (shlI .u64 s1.1 8)) rfl rfl (by decide) rfl ?_)
  refine RL.opS trivial rfl (OpW.move (v := .int .u8 x11) rfl ?_)
  refine RL.opS trivial rfl (OpW.convInt (a := x11) int_5 int_25 rfl ?_)
  refine RL.opS trivial rfl (OpW.bin (k := .u64) (a := (shlI .u64 s1.1 8)) (b := (IntKind.u64.wrap x11)) (v := .int .u64 (orI .u64 (shlI .u64 s1.1 8) (IntKind.u64.wrap x11))) rfl rfl rfl ?_)
  refine RL.opS trivial rfl (OpW.assign (v := .int .u64 (orI .u64 (shlI .u64 s1.1 8) (IntKind.u64.wrap x11))) rfl ?_)
  refine RL.nil ?_
  refine CW.region ?_
  refine RL.opS trivial rfl (OpW.bin (k := .i64) (a := s1.2) (b := 1) (v := .int .i64 (IntKind.i64.wrap (s1.2 + 1))) e5 rfl rfl ?_)
  refine RL.opS trivial rfl (OpW.move (v := .int .i64 (IntKind.i64.wrap (s1.2 + 1))) rfl ?_)
  refine RL.nil ?_
  exact ⟨((orI .u64 (shlI .u64 s1.1 8) (IntKind.u64.wrap x11)), (IntKind.i64.wrap (s1.2 + 1))), ⟨rfl, rfl, e6, e7⟩, h⟩
 ·have h := hc hb8; clear ha hc
  refine CW.exit ?_
  refine CW.seq ?_
  refine CW.region ?_
  refine RL.opS trivial rfl (OpW.move (v := .int .u64 s1.1) e4 ?_)
  refine RL.opS trivial rfl (OpW.assign (v := .int .u64 s1.1) rfl ?_)
  refine RL.nil ?_
  refine CW.ret ?_
  exact ret_intro (res1 rfl rfl) ⟨s1.1, rfl, h⟩
end Go.Proofs.Ytagkcbbbdlmcjaa
end
section
/- The typed readings of the functions, and that the program meets each: written by gen.py (a program of this session). -/
namespace Go.Proofs.Ytagkcbbbdlmcjaa
open Go.Lift
set_option maxRecDepth 100000 in
set_option maxHeartbeats 4000000 in
theorem s70_calls (K : Sl → World → Prop) (p0 : Int) (p1 : Int) (w : World) (h : s70 K p0 p1 w) :
  Calls Try.prog 70 #[.int .u64 p0, .int .u64 p1] w (Ret r70 K) := by
 unfold s70 at h
 refine calls_of_CW (n := 13) Try.func70 rfl rfl rfl ?_
 refine CW.seq ?_
 refine CW.region ?_
 refine RL.opS trivial rfl (OpW.assign (v := Sl.v nilSl) rfl ?_)
 refine RL.nil ?_
 refine CW.seq ?_
 refine CW.region ?_
 obtain ⟨b1, hb1_⟩ : ∃ b_, b_ = w.heap.size := ⟨_, rfl⟩
 obtain ⟨w2, hw2_⟩ : ∃ w_, w_ = w.alloc (.cells (List.toArray [.int .u8 100, .int .u8 111, .int .u8 119, .int .u8 115, .int .u8 101, .int .u8 114, .int .u8 32, .int .u8 108]) 5) := ⟨_, rfl⟩
 have h := h b1 w2 hb1_ hw2_
 refine RL.opS trivial rfl (OpW.buildSliceE (vs := [(0, .int .u8 100), (1, .int .u8 111), (2, .int .u8 119), (3, .int .u8 115), (4, .int .u8 101), (5, .int .u8 114), (6, .int .u8 32), (7, .int .u8 108)]) (cs := [.int .u8 100, .int .u8 111, .int .u8 119, .int .u8 115, .int .u8 101, .int .u8 114, .int .u8 32, .int .u8 108]) (by rfl) (by kernel_rfl) hb1_ hw2_ ?_)
 obtain ⟨b_, o_, c_, e_, fr_, h1, h2, h⟩ := h
 obtain ⟨w3, hw3_⟩ : ∃ w_, w_ = w2.freeze ⟨b_, c_.size, none⟩ 1 := ⟨_, rfl⟩
 have h := h w3 hw3_
 refine RL.opS trivial rfl (OpW.markE bsl_39 rfl h1 h2 hw3_ ?_)
 refine RL.opS trivial rfl (OpW.move (v := .int .u64 p0) rfl ?_)
 refine RL.opS trivial rfl (OpW.callR (al := [.int .u64 p0]) Try.func83 fb_83 fn_83 rfl h (fun x4 w5 h => ?_))
 refine RL.opS trivial rfl (OpW.move (v := .int .u64 p1) rfl ?_)
 refine RL.opS trivial rfl (OpW.callR (al := [.int .u64 p1]) Try.func83 fb_83 fn_83 rfl h (fun x6 w7 h => ?_))
 obtain ⟨b8, hb8_⟩ : ∃ b_, b_ = w7.heap.size := ⟨_, rfl⟩
 obtain ⟨w9, hw9_⟩ : ∃ w_, w_ = w7.alloc (.cells (List.toArray [Sl.v ⟨some ⟨b1, 0, none⟩, 8, 8⟩, Sl.v x4, Sl.v x6]) 39) := ⟨_, rfl⟩
 have h := h b8 w9 hb8_ hw9_
 refine RL.opS trivial rfl (OpW.buildSliceE (vs := [(0, Sl.v ⟨some ⟨b1, 0, none⟩, 8, 8⟩), (1, Sl.v x4), (2, Sl.v x6)]) (cs := [Sl.v ⟨some ⟨b1, 0, none⟩, 8, 8⟩, Sl.v x4, Sl.v x6]) (by rfl) (by kernel_rfl) hb8_ hw9_ ?_)
 refine RL.opS trivial rfl (OpW.callR (al := [Sl.v ⟨some ⟨b8, 0, none⟩, 3, 3⟩]) Try.func71 fb_71 fn_71 rfl h (fun x10 w11 h => ?_))
 refine RL.opS trivial rfl (OpW.assign (v := Sl.v x10) rfl ?_)
 refine RL.nil ?_
 refine CW.ret ?_
 exact ret_intro (res1 rfl rfl) ⟨x10, rfl, h⟩
end Go.Proofs.Ytagkcbbbdlmcjaa
end
section
/- The typed readings of the functions, and that the program meets each: written by gen.py (a program of this session). -/
namespace Go.Proofs.Ytagkcbbbdlmcjaa
open Go.Lift
set_option maxRecDepth 100000 in
set_option maxHeartbeats 4000000 in
theorem s71_calls (K : Sl → World → Prop) (p0 : Sl) (w : World) (h : s71 K p0 w) :
  Calls Try.prog 71 #[Sl.v p0] w (Ret r71 K) := by
 unfold s71 at h
 refine calls_of_CW (n := 36) Try.func71 rfl rfl rfl ?_
 refine CW.seq ?_
 refine CW.region ?_
 refine RL.opS trivial rfl (OpW.assign (v := Sl.v nilSl) rfl ?_)
 refine RL.nil ?_
 refine CW.seq ?_
 refine CW.region ?_
 refine RL.opS trivial rfl (OpW.assign (v := .int .i64 0) rfl ?_)
 refine RL.nil ?_
 refine CW.seq ?_
 refine CW.seq ?_
 refine CW.region ?_
 refine RL.opS trivial rfl (OpW.move (v := Sl.v p0) rfl ?_)
 refine RL.opS trivial rfl (OpW.len (s := p0) slice_22 rfl ?_)
 refine RL.opS trivial rfl (OpW.move (v := .int .i64 0) rfl ?_)
 refine RL.nil ?_
 refine CW.block ?_
 obtain ⟨I41, mu42, hI, hs⟩ := h
 refine CW.loop (σ := Int × Int) (fun s1 ρ => ρ 3 = .int .i64 s1.1 ∧ ρ 11 = .int .i64 s1.2 ∧ ρ 0 = Sl.v p0 ∧ ρ 9 = Sl.v p0 ∧ ρ 10 = .int .i64 (p0.len : Int)) I41 mu42 (0, 0) ⟨rfl, rfl, rfl, rfl, rfl⟩ hI ?_
 rintro s1 ρ w2 ⟨e4, e5, e6, e7, e8⟩ hI
 have h := hs s1 w2 hI
 clear hs hI
 refine CW.seq ?_
 refine CW.region ?_
 refine RL.opS trivial rfl (OpW.bin (k := .i64) (a := s1.2) (b := (p0.len : Int)) (v := .bool (decide (s1.2 < (p0.len : Int)))) e5 e8 rfl ?_)
 refine RL.nil ?_
 refine CW.seq ?_
 obtain ⟨ha, hc⟩ := h
 refine CW.cond (b := (decide (s1.2 < (p0.len : Int)))) rfl (fun hb9 => ?_) (fun hb9 => ?_)
 ·have h := ha hb9; clear ha hc
  refine CW.skip ?_
  refine jn_elim h ?_; clear h; intro k22 hk23 h
  refine CW.seqJ (A := Int) (fun s15 ρ => ρ 3 = .int .i64 s15 ∧ ρ 0 = Sl.v p0 ∧ ρ 9 = Sl.v p0 ∧ ρ 10 = .int .i64 (p0.len : Int) ∧ ρ 11 = .int .i64 s1.2) k22 ?_ ?_
  ·rintro s15 ρ w16 ⟨e17, e18, e19, e20, e21⟩ h
   subst hk23
   refine CW.region ?_
   refine RL.opS trivial rfl (OpW.bin (k := .i64) (a := s1.2) (b := 1) (v := .int .i64 (IntKind.i64.wrap (s1.2 + 1))) e21 rfl rfl ?_)
   refine RL.opS trivial rfl (OpW.move (v := .int .i64 (IntKind.i64.wrap (s1.2 + 1))) rfl ?_)
   refine RL.nil ?_
   exact ⟨(s15, (IntKind.i64.wrap (s1.2 + 1))), ⟨e17, rfl, e18, e19, e20⟩, h⟩
  ·clear hk23
   refine CW.block ?_
   refine CW.seq ?_
   refine CW.region ?_
   obtain ⟨a11_, a11, h1, h2, h3, h4, h⟩ := h
   refine RL.opS trivial rfl (OpW.indexE (a' := a11) slice_22 e7 e5 h1 h2 h3 h4 ?_)
   obtain ⟨x13, h1, h⟩ := h
   refine RL.opS trivial rfl (OpW.load1 (v := Sl.v x13) one_39 rfl h1 ?_)
   refine RL.opS trivial rfl (OpW.assign (v := Sl.v x13) rfl ?_)
   refine RL.nil ?_
   refine CW.seq ?_
   refine CW.region ?_
   refine RL.opS trivial rfl (OpW.move (v := .int .i64 s1.1) e4 ?_)
   refine RL.opS trivial rfl (OpW.move (v := Sl.v x13) rfl ?_)
   refine RL.opS trivial rfl (OpW.len (s := x13) slice_39 rfl ?_)
   refine RL.opS trivial rfl (OpW.bin (k := .i64) (a := s1.1) (b := (x13.len : Int)) (v := .int .i64 (IntKind.i64.wrap (s1.1 + (x13.len : Int)))) rfl rfl rfl ?_)
   refine RL.opS trivial rfl (OpW.assign (v := .int .i64 (IntKind.i64.wrap (s1.1 + (x13.len : Int)))) rfl ?_)
   refine RL.nil ?_
   refine CW.seq ?_
   refine CW.region ?_
   refine RL.opS trivial rfl (OpW.move (v := .int .i64 (IntKind.i64.wrap (s1.1 + (x13.len : Int)))) rfl ?_)
   refine RL.opS trivial rfl (OpW.bin (k := .i64) (a := (IntKind.i64.wrap (s1.1 + (x13.len : Int)))) (b := 0) (v := .bool (decide ((IntKind.i64.wrap (s1.1 + (x13.len : Int))) < 0))) rfl rfl rfl ?_)
   refine RL.nil ?_
   obtain ⟨ha, hc⟩ := h
   refine CW.cond (b := (decide ((IntKind.i64.wrap (s1.1 + (x13.len : Int))) < 0))) rfl (fun hb14 => ?_) (fun hb14 => ?_)
   ·have h := ha hb14; clear ha hc
    refine CW.region ?_
    exact h.elim
   ·have h := hc hb14; clear ha hc
    refine CW.skip ?_
    exact ⟨(IntKind.i64.wrap (s1.1 + (x13.len : Int))), ⟨rfl, e6, e7, e8, e5⟩, h⟩
 ·have h := hc hb9; clear ha hc
  refine CW.exit ?_
  refine CW.seq ?_
  refine CW.region ?_
  refine RL.opS trivial rfl (OpW.move (v := .int .i64 s1.1) e4 ?_)
  refine RL.opS trivial rfl (OpW.callR (al := [Sl.v nilSl, .int .i64 s1.1]) Try.func84 fb_84 fn_84 rfl h (fun x24 w25 h => ?_))
  refine RL.opS trivial rfl (OpW.assign (v := Sl.v x24) rfl ?_)
  refine RL.nil ?_
  refine CW.seq ?_
  refine CW.seq ?_
  refine CW.region ?_
  refine RL.opS trivial rfl (OpW.move (v := Sl.v p0) e6 ?_)
  refine RL.opS trivial rfl (OpW.len (s := p0) slice_22 rfl ?_)
  refine RL.opS trivial rfl (OpW.move (v := .int .i64 0) rfl ?_)
  refine RL.nil ?_
  refine CW.block ?_
  obtain ⟨I39, mu40, hI, hs⟩ := h
  refine CW.loop (σ := Sl × Int) (fun s26 ρ => ρ 6 = Sl.v s26.1 ∧ ρ 27 = .int .i64 s26.2 ∧ ρ 25 = Sl.v p0 ∧ ρ 26 = .int .i64 (p0.len : Int)) I39 mu40 (x24, 0) ⟨rfl, rfl, rfl, rfl⟩ hI ?_
  rintro s26 ρ w27 ⟨e29, e30, e31, e32⟩ hI
  have h := hs s26 w27 hI
  clear hs hI
  refine CW.seq ?_
  refine CW.region ?_
  refine RL.opS trivial rfl (OpW.bin (k := .i64) (a := s26.2) (b := (p0.len : Int)) (v := .bool (decide (s26.2 < (p0.len : Int)))) e30 e32 rfl ?_)
  refine RL.nil ?_
  refine CW.seq ?_
  obtain ⟨ha, hc⟩ := h
  refine CW.cond (b := (decide (s26.2 < (p0.len : Int)))) rfl (fun hb33 => ?_) (fun hb33 => ?_)
  ·have h := ha hb33; clear ha hc
   refine CW.skip ?_
   refine CW.seq ?_
   refine CW.block ?_
   refine CW.seq ?_
   refine CW.region ?_
   obtain ⟨a34_, a34, h1, h2, h3, h4, h⟩ := h
   refine RL.opS trivial rfl (OpW.indexE (a' := a34) slice_22 e31 e30 h1 h2 h3 h4 ?_)
   obtain ⟨x36, h1, h⟩ := h
   refine RL.opS trivial rfl (OpW.load1 (v := Sl.v x36) one_39 rfl h1 ?_)
   refine RL.opS trivial rfl (OpW.assign (v := Sl.v x36) rfl ?_)
   refine RL.nil ?_
   refine CW.region ?_
   refine RL.opS trivial rfl (OpW.move (v := Sl.v s26.1) e29 ?_)
   refine RL.opS trivial rfl (OpW.move (v := Sl.v x36) rfl ?_)
   obtain ⟨x37, w38, hr_, h⟩ := h
   refine RL.opS trivial rfl (OpW.appendL (v := Sl.v x37) rfl hr_ ?_)
   refine RL.opS trivial rfl (OpW.assign (v := Sl.v x37) rfl ?_)
   refine RL.nil ?_
   refine CW.region ?_
   refine RL.opS trivial rfl (OpW.bin (k := .i64) (a := s26.2) (b := 1) (v := .int .i64 (IntKind.i64.wrap (s26.2 + 1))) e30 rfl rfl ?_)
   refine RL.opS trivial rfl (OpW.move (v := .int .i64 (IntKind.i64.wrap (s26.2 + 1))) rfl ?_)
   refine RL.nil ?_
   exact ⟨(x37, (IntKind.i64.wrap (s26.2 + 1))), ⟨rfl, rfl, e31, e32⟩, h⟩
  ·have h := hc hb33; clear ha hc
   refine CW.exit ?_
   refine CW.seq ?_
   refine CW.region ?_
   refine RL.opS trivial rfl (OpW.move (v := Sl.v s26.1) e29 ?_)
   refine RL.opS trivial rfl (OpW.assign (v := Sl.v s26.1) rfl ?_)
   refine RL.nil ?_
   refine CW.ret ?_
   exact ret_intro (res1 rfl rfl) ⟨s26.1, rfl, h⟩
end Go.Proofs.Ytagkcbbbdlmcjaa
end
section
/- The typed readings of the functions, and that the program meets each: written by gen.py (a program of this session). -/
namespace Go.Proofs.Ytagkcbbbdlmcjaa
open Go.Lift
set_option maxRecDepth 100000 in
set_option maxHeartbeats 4000000 in
theorem s83_calls (K : Sl → World → Prop) (p0 : Int) (w : World) (h : s83 K p0 w) :
  Calls Try.prog 83 #[.int .u64 p0] w (Ret r83 K) := by
 unfold s83 at h
 refine calls_of_CW (n := 19) Try.func83 rfl rfl rfl ?_
 refine CW.seq ?_
 refine CW.region ?_
 refine RL.opS trivial rfl (OpW.assign (v := Sl.v nilSl) rfl ?_)
 refine RL.nil ?_
 refine CW.seq ?_
 refine CW.region ?_
 obtain ⟨h1, h2, h3, h4, h⟩ := h
 obtain ⟨b1, hb1_⟩ : ∃ b_, b_ = w.heap.size := ⟨_, rfl⟩
 obtain ⟨w2, hw2_⟩ : ∃ w_, w_ = w.alloc (.cells (List.replicate (Int.toNat 8 * 1) (Value.int .u8 0)).toArray 5) := ⟨_, rfl⟩
 have h := h b1 w2 hb1_ hw2_
 obtain ⟨x3, hx3_⟩ : ∃ s_ : Sl, s_ = ⟨some ⟨b1, 0, none⟩, Int.toNat 8, Int.toNat 8⟩ := ⟨_, rfl⟩
 rw [← hx3_] at h
 refine RL.opS trivial rfl (OpW.makeSliceE mk_39 (by decide) rfl rfl h1 h2 h3 h4 hb1_ hw2_ hx3_ ?_)
 refine RL.opS trivial rfl (OpW.assign (v := Sl.v x3) rfl ?_)
 refine RL.nil ?_
 refine CW.seq ?_
 refine CW.seq ?_
 refine CW.region ?_
 refine RL.opS trivial rfl (OpW.move (v := .int .i64 0) rfl ?_)
 refine RL.nil ?_
 refine CW.block ?_
 obtain ⟨I14, mu15, hI, hs⟩ := h
 refine CW.loop (σ := Int × Int) (fun s4 ρ => ρ 0 = .int .u64 s4.1 ∧ ρ 6 = .int .i64 s4.2 ∧ ρ 3 = Sl.v x3) I14 mu15 (p0, 0) ⟨rfl, rfl, rfl⟩ hI ?_
 rintro s4 ρ w5 ⟨e7, e8, e9⟩ hI
 have h := hs s4 w5 hI
 clear hs hI
 refine CW.seq ?_
 refine CW.region ?_
 refine RL.opS trivial rfl (OpW.bin (k := .i64) (a := s4.2) (b := 8) (v := .bool (decide (s4.2 < 8))) e8 rfl rfl ?_)
 refine RL.nil ?_
 refine CW.seq ?_
 obtain ⟨ha, hc⟩ := h
 refine CW.cond (b := (decide (s4.2 < 8))) rfl (fun hb10 => ?_) (fun hb10 => ?_)
 ·have h := ha hb10; clear ha hc
  refine CW.skip ?_
  refine CW.seq ?_
  refine CW.block ?_
  refine CW.seq ?_
  refine CW.region ?_
  refine RL.opS trivial rfl (OpW.move (v := .int .i64 s4.2) e8 ?_)
  refine RL.opS trivial rfl (OpW.assign (v := .int .i64 s4.2) rfl ?_)
  refine RL.nil ?_
  refine CW.seq ?_
  refine CW.region ?_
  refine RL.opS trivial rfl (OpW.move (v := Sl.v x3) e9 ?_)
  refine RL.opS trivial rfl (OpW.move (v := .int .i64 s4.2) rfl ?_)
  refine RL.opS trivial rfl (OpW.bin (k := .i64) (a := 7) (b := s4.2) (v := .int .i64 (IntKind.i64.wrap (7 - s4.2))) rfl rfl rfl ?_)
  refine RL.opS trivial rfl (OpW.move (v := .int .u64 s4.1) e7 ?_)
  refine RL.opS trivial rfl (OpW.convInt (a := s4.1) int_25 int_5 rfl ?_)
  obtain ⟨a11_, a11, h1, h2, h3, h4, h⟩ := h
  refine RL.opS trivial rfl (OpW.indexE (a' := a11) slice_39 rfl rfl h1 h2 h3 h4 ?_)
  obtain ⟨u_, h1, h2, h⟩ := h
  obtain ⟨w13, hw13_⟩ : ∃ w_, w_ = w5.setCell a11 (.int .u8 (IntKind.u8.wrap s4.1)) := ⟨_, rfl⟩
  have h := h w13 hw13_
  refine RL.opN trivial (OpW.store1E (v := .int .u8 (IntKind.u8.wrap s4.1)) size_5 rfl rfl rfl h1 h2 hw13_ ?_)
  refine RL.nil ?_
  refine CW.region ?_
  refine RL.opS trivial rfl (OpW.move (v := .int .u64 s4.1) e7 ?_)
  refine RL.opS trivial rfl (OpW.shift (a := s4.1) (b := 8) (v := .int .u64 (shrI .u64 s4.1 8)) rfl rfl (by decide) rfl ?_)
  refine RL.opS trivial rfl (OpW.assign (v := .int .u64 (shrI .u64 s4.1 8)) rfl ?_)
  refine RL.nil ?_
  refine CW.region ?_
  refine RL.opS trivial rfl (OpW.bin (k := .i64) (a := s4.2) (b := 1) (v := .int .i64 (IntKind.i64.wrap (s4.2 + 1))) e8 rfl rfl ?_)
  refine RL.opS trivial rfl (OpW.move (v := .int .i64 (IntKind.i64.wrap (s4.2 + 1))) rfl ?_)
  refine RL.nil ?_
  exact ⟨((shrI .u64 s4.1 8), (IntKind.i64.wrap (s4.2 + 1))), ⟨rfl, rfl, e9⟩, h⟩
 ·have h := hc hb10; clear ha hc
  refine CW.exit ?_
  refine CW.seq ?_
  refine CW.region ?_
  refine RL.opS trivial rfl (OpW.move (v := Sl.v x3) e9 ?_)
  refine RL.opS trivial rfl (OpW.assign (v := Sl.v x3) rfl ?_)
  refine RL.nil ?_
  refine CW.ret ?_
  exact ret_intro (res1 rfl rfl) ⟨x3, rfl, h⟩
end Go.Proofs.Ytagkcbbbdlmcjaa
end
section
/- The typed readings of the functions, and that the program meets each: written by gen.py (a program of this session). -/
namespace Go.Proofs.Ytagkcbbbdlmcjaa
open Go.Lift
set_option maxRecDepth 100000 in
set_option maxHeartbeats 4000000 in
theorem s84_calls (K : Sl → World → Prop) (p0 : Sl) (p1 : Int) (w : World) (h : s84 K p0 p1 w) :
  Calls Try.prog 84 #[Sl.v p0, .int .i64 p1] w (Ret r84 K) := by
 unfold s84 at h
 refine calls_of_CW (n := 27) Try.func84 rfl rfl rfl ?_
 refine CW.seq ?_
 refine CW.region ?_
 refine RL.opS trivial rfl (OpW.assign (v := Sl.v nilSl) rfl ?_)
 refine RL.nil ?_
 refine jn_elim h ?_; clear h; intro k16 hk17 h
 refine CW.seqJ (A := Unit) (fun s3 ρ => ρ 0 = Sl.v p0 ∧ ρ 1 = .int .i64 p1) k16 ?_ ?_
 ·rintro s3 ρ w4 ⟨e5, e6⟩ h
  subst hk17
  refine jn_elim h ?_; clear h; intro k14 hk15 h
  refine CW.seqJ (A := Sl) (fun s11 ρ => ρ 0 = Sl.v s11) k14 ?_ ?_
  ·rintro s11 ρ w12 e13 h
   subst hk15
   refine CW.seq ?_
   refine CW.region ?_
   refine RL.opS trivial rfl (OpW.move (v := Sl.v s11) e13 ?_)
   refine RL.opS trivial rfl (OpW.assign (v := Sl.v s11) rfl ?_)
   refine RL.nil ?_
   refine CW.ret ?_
   exact ret_intro (res1 rfl rfl) ⟨s11, rfl, h⟩
  ·clear hk15
   refine CW.seq ?_
   refine CW.region ?_
   refine RL.opS trivial rfl (OpW.move (v := .int .i64 p1) e6 ?_)
   refine RL.opS trivial rfl (OpW.move (v := Sl.v p0) e5 ?_)
   refine RL.opS trivial rfl (OpW.cap (s := p0) slice_39 rfl ?_)
   refine RL.opS trivial rfl (OpW.move (v := Sl.v p0) e5 ?_)
   refine RL.opS trivial rfl (OpW.len (s := p0) slice_39 rfl ?_)
   refine RL.opS trivial rfl (OpW.bin (k := .i64) (a := (p0.cap : Int)) (b := (p0.len : Int)) (v := .int .i64 (IntKind.i64.wrap ((p0.cap : Int) - (p0.len : Int)))) rfl rfl rfl ?_)
   refine RL.opS trivial rfl (OpW.bin (k := .i64) (a := p1) (b := (IntKind.i64.wrap ((p0.cap : Int) - (p0.len : Int)))) (v := .int .i64 (IntKind.i64.wrap (p1 - (IntKind.i64.wrap ((p0.cap : Int) - (p0.len : Int)))))) rfl rfl rfl ?_)
   refine RL.opS trivial rfl (OpW.assign (v := .int .i64 (IntKind.i64.wrap (p1 - (IntKind.i64.wrap ((p0.cap : Int) - (p0.len : Int)))))) rfl ?_)
   refine RL.nil ?_
   refine CW.seq ?_
   refine CW.region ?_
   refine RL.opS trivial rfl (OpW.move (v := .int .i64 (IntKind.i64.wrap (p1 - (IntKind.i64.wrap ((p0.cap : Int) - (p0.len : Int)))))) rfl ?_)
   refine RL.opS trivial rfl (OpW.bin (k := .i64) (a := (IntKind.i64.wrap (p1 - (IntKind.i64.wrap ((p0.cap : Int) - (p0.len : Int)))))) (b := 0) (v := .bool (decide (0 < (IntKind.i64.wrap (p1 - (IntKind.i64.wrap ((p0.cap : Int) - (p0.len : Int)))))))) rfl rfl rfl ?_)
   refine RL.nil ?_
   obtain ⟨ha, hc⟩ := h
   refine CW.cond (b := (decide (0 < (IntKind.i64.wrap (p1 - (IntKind.i64.wrap ((p0.cap : Int) - (p0.len : Int)))))))) rfl (fun hb8 => ?_) (fun hb8 => ?_)
   ·have h := ha hb8; clear ha hc
    refine CW.region ?_
    refine RL.opS trivial rfl (OpW.move (v := Sl.v p0) e5 ?_)
    refine RL.opS trivial rfl (OpW.move (v := Sl.v p0) e5 ?_)
    refine RL.opS trivial rfl (OpW.cap (s := p0) slice_39 rfl ?_)
    obtain ⟨⟨h1, h2, h3⟩, h⟩ := h
    refine RL.opS trivial rfl (OpW.sliceSl (l := 0) (h := (p0.cap : Int)) slice_39 rfl rfl ⟨_, rfl⟩ h1 h2 (.inr h3) ?_)
    refine RL.opS trivial rfl (OpW.move (v := .int .i64 (IntKind.i64.wrap (p1 - (IntKind.i64.wrap ((p0.cap : Int) - (p0.len : Int)))))) rfl ?_)
    obtain ⟨x9, w10, hr_, h⟩ := h
    refine RL.opS trivial rfl (OpW.appendL (v := Sl.v x9) rfl hr_ ?_)
    refine RL.opS trivial rfl (OpW.move (v := Sl.v p0) e5 ?_)
    refine RL.opS trivial rfl (OpW.len (s := p0) slice_39 rfl ?_)
    obtain ⟨⟨h1, h2, h3⟩, h⟩ := h
    refine RL.opS trivial rfl (OpW.sliceSl (l := 0) (h := (p0.len : Int)) slice_39 rfl rfl ⟨_, rfl⟩ h1 h2 (.inr h3) ?_)
    refine RL.opS trivial rfl (OpW.assign (v := Sl.v (x9.cut 1 0 (p0.len : Int) x9.cap)) rfl ?_)
    refine RL.nil ?_
    exact ⟨(x9.cut 1 0 (p0.len : Int) x9.cap), rfl, h⟩
   ·have h := hc hb8; clear ha hc
    refine CW.skip ?_
    exact ⟨p0, e5, h⟩
 ·clear hk17
  refine CW.seq ?_
  refine CW.region ?_
  refine RL.opS trivial rfl (OpW.move (v := .int .i64 p1) rfl ?_)
  refine RL.opS trivial rfl (OpW.bin (k := .i64) (a := p1) (b := 0) (v := .bool (decide (p1 < 0))) rfl rfl rfl ?_)
  refine RL.nil ?_
  obtain ⟨ha, hc⟩ := h
  refine CW.cond (b := (decide (p1 < 0))) rfl (fun hb2 => ?_) (fun hb2 => ?_)
  ·have h := ha hb2; clear ha hc
   refine CW.region ?_
   exact h.elim
  ·have h := hc hb2; clear ha hc
   refine CW.skip ?_
   exact ⟨(), ⟨rfl, rfl⟩, h⟩
end Go.Proofs.Ytagkcbbbdlmcjaa
end
section
/- What the journal's functions on bytes do: numbers in eight bytes, halves of heads, parts put together. -/
namespace Go.Proofs.Ytagkcbbbdlmcjaa
open Go.Lift Go.Lift.Disk Go.Lift.Crc Go.Lift.Wal Go.RowKit
theorem u8n (m : Nat) : IntKind.u8.wrap (m : Int) = ((UInt8.ofNat m).toNat : Int) := by
 rw [wu8_mod]
 simp
theorem shr8 (m : Nat) : shrI .u64 (m : Int) 8 = ((m / 256 : Nat) : Int) := by
 unfold shrI
 rw [show min (8 : Int).toNat (IntKind.bits .u64) = 8 from rfl, Int.fdiv_eq_ediv_of_nonneg _ (by decide)]
 simp
theorem ofIntN (m : Nat) : BitVec.ofInt 64 (m : Int) = BitVec.ofNat 64 m := by
 apply BitVec.eq_of_toNat_eq
 simp
theorem orI_nat {a b : Nat} (ha : a < 18446744073709551616) (hb : b < 18446744073709551616) : orI .u64 (a : Int) (b : Int) = ((a ||| b : Nat) : Int) := by
 show IntKind.u64.wrap ((BitVec.ofInt 64 (a : Int) ||| BitVec.ofInt 64 (b : Int)).toNat : Int) = _
 have h1 : (BitVec.ofInt 64 (a : Int) ||| BitVec.ofInt 64 (b : Int)).toNat = a ||| b := by
  rw [ofIntN, ofIntN, BitVec.toNat_or, BitVec.toNat_ofNat, BitVec.toNat_ofNat, Nat.mod_eq_of_lt (by simpa using ha), Nat.mod_eq_of_lt (by simpa using hb)]
 have h2 : a ||| b < 2 ^ 64 := Nat.or_lt_two_pow (by simpa using ha) (by simpa using hb)
 rw [h1, wu64_eq (by omega) (by omega)]
theorem shlI_nat {a s : Nat} (hs : s ≤ 64) : shlI .u64 (a : Int) (s : Int) = ((a * 2 ^ s % 18446744073709551616 : Nat) : Int) := by
 show IntKind.u64.wrap ((a : Int) * 2 ^ min (s : Int).toNat 64) = _
 rw [Int.toNat_natCast, Nat.min_eq_left hs, wu64_mod, Int.natCast_emod, Int.natCast_mul, Int.natCast_pow]
 rfl
theorem lowStep_int {a : Nat} (c : UInt8) (ha : a < 18446744073709551616) : orI .u64 (shlI .u64 (a : Int) 8) (IntKind.u64.wrap (c.toNat : Int)) = ((lowStep a c : Nat) : Int) := by
 have hc := u8_lt c
 have e8 : shlI .u64 (a : Int) 8 = ((a * 2 ^ 8 % 18446744073709551616 : Nat) : Int) := shlI_nat (s := 8) (by decide)
 rw [e8, wu64_eq (by omega) (by omega), orI_nat (Nat.mod_lt _ (by decide)) (by omega)]
 have e : a * 2 ^ 8 % 18446744073709551616 = 2 ^ 8 * (a % 72057594037927936) := by omega
 rw [e, ← Nat.two_pow_add_eq_or_of_lt (by omega)]
 unfold lowStep
 congr 1
 omega
theorem lowB_lt (bs : List UInt8) : lowB bs < 18446744073709551616 := by
 unfold lowB
 have key : ∀ (bs : List UInt8) (a : Nat), a < 18446744073709551616 → bs.foldl lowStep a < 18446744073709551616 := by
  intro bs
  induction bs with
  | nil => exact fun a h => h
  | cons c bs ih => exact fun a _ => ih _ (Nat.mod_lt _ (by decide))
 exact key bs 0 (by decide)
theorem low_ok (w : World) (p : Sl) (bs : List UInt8) (hp : Bytes w p bs) (hl : bs.length ≤ 140737488355328) : Calls Try.prog 69 #[p.v] w (Ret r69 fun x w' => x = ((lowB bs : Nat) : Int) ∧ w = w') := by
 apply s69_calls
 have hpl := hp.1
 refine ⟨fun st w' => w = w' ∧ ∃ k : Nat, k ≤ bs.length ∧ st.2 = (k : Int) ∧ st.1 = ((lowB (bs.take k) : Nat) : Int), fun st _ => bs.length - st.2.toNat, ⟨rfl, 0, Nat.zero_le _, rfl, rfl⟩, ?_⟩
 rintro ⟨a, i⟩ w' ⟨rfl, k, hk, rfl, rfl⟩
 refine ⟨fun hlt => ?_, fun hge => ?_⟩
 ·have hlt : k < bs.length := by have := of_decide_eq_true hlt; simp only at this; omega
  obtain ⟨a, ha, hc⟩ := hp.get hlt
  refine ⟨a, _, ha, by simp only; omega, by simp only; omega, rfl, (bs[k].toNat : Int), by simp only [Int.toNat_natCast, Nat.mul_one]; exact hc, ?_⟩
  simp only
  rw [lowStep_int _ (lowB_lt _), w64_eq (by omega) (by omega)]
  refine ⟨⟨trivial, k + 1, by omega, by omega, ?_⟩, by omega⟩
  rw [List.take_succ_eq_append_getElem hlt]
  unfold lowB
  rw [List.foldl_append]
  rfl
 ·have hge : k = bs.length := by have := of_decide_eq_false hge; simp only at this; omega
  subst hge
  rw [List.take_length]
  exact ⟨rfl, rfl⟩
theorem high_ok (w : World) (n : Nat) (hn : n < 18446744073709551616) : Calls Try.prog 83 #[.int .u64 (n : Int)] w (Ret r83 fun x w' => Own w' w.heap.size 5 1 x (u8s (beB 8 n)) ∧ Ext w w') := by
 apply s83_calls
 refine ⟨by decide, by decide, by decide, by decide, fun b2 w2 hb2 hw2 => ?_⟩
 have hx2 : Ext w w2 := Ext.new hw2
 have hB2 : Blk w2 b2 5 (u8s (zeros 8)) := by
  unfold zeros
  rw [← zeros_u8']
  exact Blk.new hb2 hw2
 show LoopS _ _ _
 refine ⟨fun st w' => ∃ i : Nat, i ≤ 8 ∧ st.2 = (i : Int) ∧ st.1 = ((n / 256 ^ i : Nat) : Int) ∧ Blk w' b2 5 (u8s (zeros (8 - i) ++ beB i n)) ∧ Ext w w', fun st _ => 8 - st.2.toNat, ⟨0, by omega, rfl, by simp, by simpa [beB] using hB2, hx2⟩, ?_⟩
 rintro ⟨m, st⟩ w5 ⟨i, hi, rfl, rfl, hB, hx⟩
 refine ⟨fun hlt => ?_, fun hge => ?_⟩
 ·have hlt : i < 8 := by have := of_decide_eq_true hlt; simp only at this; omega
  have e7 : IntKind.i64.wrap (7 - (i : Int)) = ((7 - i : Nat) : Int) := by rw [w64_eq (by omega) (by omega)]; omega
  simp only
  rw [e7, u8n, shr8]
  refine ⟨⟨b2, 0, none⟩, _, rfl, by omega, by show ((7 - i : Nat) : Int) < ((8 : Nat) : Int); omega, rfl, ?_⟩
  show st1 _ _ _ _
  rw [add_plain, Nat.zero_add, Int.toNat_natCast, Nat.mul_one]
  refine st1_blk hB (by rw [u8s_len, List.length_append, beB_len, zeros, List.length_replicate]; omega) fun w' hB' hf' => ?_
  rw [w64_eq (by omega) (by omega)]
  refine ⟨⟨i + 1, by omega, by omega, ?_, ?_, hf'.ext hx fun k _ e => by rw [e, hb2]; exact Nat.le_refl _⟩, by omega⟩
  ·simp only [Nat.div_div_eq_div_mul, Nat.pow_succ]
  ·have e : (u8s (zeros (8 - i) ++ beB i n)).set (7 - i) (.int .u8 ((UInt8.ofNat (n / 256 ^ i)).toNat : Int)) = u8s (zeros (8 - (i + 1)) ++ beB (i + 1) n) := by
    rw [show 8 - i = (7 - i) + 1 by omega, show 8 - (i + 1) = 7 - i by omega]
    unfold zeros
    rw [List.replicate_succ', List.append_assoc, u8s_append, List.set_append_right _ _ (by rw [u8s_len, List.length_replicate]; exact Nat.le_refl _), u8s_len, List.length_replicate, Nat.sub_self, u8s_append, beB, u8s_append]
    rfl
   rw [← e]; exact hB'
 ·have hge : i = 8 := by have := of_decide_eq_false hge; simp only at this; omega
  subst hge
  have hB' : Blk w5 b2 5 (u8s (beB 8 n)) := hB
  exact ⟨Own.ofBlk hB' (by rw [u8s_len, beB_len]; rfl) (by rw [hb2]; exact Nat.le_refl _) (by decide), hx⟩
theorem clip8_ok (w : World) (s : Sl) (hs : s.len ≤ s.cap) : Calls Try.prog 49 #[s.v] w (Ret r49 fun x w' => x = ⟨s.a, s.len, s.len⟩ ∧ w = w') := by
 apply s49_calls
 refine ⟨⟨by omega, by omega, by omega, by omega⟩, ?_, rfl⟩
 simp [Sl.cut, Addr.add]
theorem grow_ok (w : World) (k : Nat) (hk : k ≤ 1000000000) : Calls Try.prog 84 #[nilSl.v, .int .i64 (k : Int)] w (Ret r84 fun x w' => Own w' w.heap.size 5 1 x [] ∧ Ext w w') := by
 apply s84_calls
 refine jn_of fun k1 hk1 => ⟨fun h => absurd (of_decide_eq_true h) (by omega), fun _ => ?_⟩
 rw [hk1]
 refine jn_of fun k2 hk2 => ?_
 have e0 : IntKind.i64.wrap ((k : Int) - IntKind.i64.wrap (((nilSl.cap : Nat) : Int) - ((nilSl.len : Nat) : Int))) = (k : Int) := by
  have : IntKind.i64.wrap (((nilSl.cap : Nat) : Int) - ((nilSl.len : Nat) : Int)) = 0 := by decide
  rw [this, w64_eq (by omega) (by omega)]; omega
 rw [e0]
 refine ⟨fun hpos => ?_, fun h0 => ?_⟩
 ·have hpos : 0 < k := by have := of_decide_eq_true hpos; omega
  obtain ⟨hu, i, z, hi, hz, hs, hby, hc⟩ := mkCells_eq mk_39
  have hu3 : Try.prog.underlying 3 = some (.int .i64) := Try.underlying3
  have hrun := Go.Lib.run_append_grow_zeros (P := Try.prog) w 39 3 39 5 i z .i64 .i64 hu hu3 hi hz none 0 0 [] rfl k hpos (by omega) (by omega) (by omega) (by rw [hby]; omega)
   (by rw [hby]; have := nextslicecap_le (need := 0 + k) (old := 0) (by omega); omega)
  have hz1 : z.cells = #[Value.int .u8 0] := by
   have h2 : z.cells.toList = List.replicate 1 (Value.int .u8 0) := hc
   rw [← Array.toArray_toList (xs := z.cells), h2]
   rfl
  have hge := grownCap_ge w (0 + k) 0 5
  have hle : grownCap w (0 + k) 0 5 ≤ maxLen := grownCap_le_maxLen w _ _ _ (by simp only [maxLen]; omega)
  refine ⟨by decide, ⟨some ⟨w.heap.size, 0, none⟩, 0 + k, grownCap w (0 + k) 0 5⟩, _, hrun, ?_⟩
  refine ⟨⟨by decide, by decide, by simp⟩, ?_⟩
  show k2 _ _
  rw [hk2]
  have hsz : ∀ n, (Builtin.zeroCells z.cells n).size = n := by intro n; simp [Builtin.zeroCells, hz1]
  refine ⟨?_, Below.alloc (Below.drew (Ext.refl w)) (Nat.le_refl _) _⟩
  have hcut : Sl.cut ⟨some ⟨w.heap.size, 0, none⟩, 0 + k, grownCap w (0 + k) 0 5⟩ 1 0 (nilSl.len : Nat) (grownCap w (0 + k) 0 5 : Nat) = ⟨some ⟨w.heap.size, 0, none⟩, 0, grownCap w (0 + k) 0 5⟩ := by
   simp [Sl.cut, Addr.add]
  rw [hcut]
  refine Own.made (w := w.drew) (c := grownCap w (0 + k) 0 5) (cs := (#[] ++ Builtin.zeroCells z.cells k ++ Builtin.zeroCells z.cells (grownCap w (0 + k) 0 5 - (0 + k)) : Array Value).toList) rfl rfl (Nat.le_refl _) ?_ hle
  rw [Array.length_toList, Array.size_append, Array.size_append, hsz, hsz]
  show 0 + k + _ = _
  omega
 ·show k2 _ _
  rw [hk2]
  exact ⟨Own.nil _ _ _ _, Ext.refl _⟩

theorem Own.lower {w : World} {base base' : Nat} {e : TypeId} {size : Nat} {s : Sl} {xs : List Value} (h : Own w base e size s xs) (hb : base' ≤ base) : Own w base' e size s xs := by
 refine ⟨h.1, ?_⟩
 rcases h.2 with h | ⟨g, cap, cur, h1, h2, h3⟩
 ·exact .inl h
 ·exact .inr ⟨g, cap, cur, h1, Nat.le_trans hb h2, h3⟩
/-- parts put together, one behind the other -/
theorem sum_le : ∀ (l : List (List UInt8)) (k : Nat), (l.take k).flatten.length ≤ l.flatten.length := by
 intro l k
 rw [List.length_flatten, List.length_flatten]
 conv => rhs; rw [← List.take_append_drop k l, List.map_append, List.sum_append]
 omega
theorem concat_ok (w : World) (p : Sl) (l : List (List UInt8)) (h : Parts w p l) (hl : l.length ≤ 1000000) (hf : l.flatten.length ≤ 1000000000) :
  Calls Try.prog 71 #[p.v] w (Ret r71 fun x w' => Own w' w.heap.size 5 1 x (u8s l.flatten) ∧ x.len = l.flatten.length ∧ Ext w w') := by
 apply s71_calls
 have hpl := h.len
 have hstep : ∀ k (hk : k < l.length), (l.take (k + 1)).flatten = (l.take k).flatten ++ l[k] := by
  intro k hk
  rw [List.take_succ_eq_append_getElem hk, List.flatten_append]
  simp
 refine ⟨fun st w' => w = w' ∧ ∃ k : Nat, k ≤ l.length ∧ st.2 = (k : Int) ∧ st.1 = ((l.take k).flatten.length : Int), fun st _ => l.length - st.2.toNat, ⟨rfl, 0, Nat.zero_le _, rfl, by simp⟩, ?_⟩
 rintro ⟨n, i⟩ w' ⟨rfl, k, hk, rfl, rfl⟩
 refine ⟨fun hlt => ?_, fun hge => ?_⟩
 ·have hlt : k < l.length := by have := of_decide_eq_true hlt; simp only at this; omega
  obtain ⟨a, sl, ha, hc, hb⟩ := h.get hlt
  have hbl := hb.1
  have h1 := sum_le l (k + 1)
  rw [hstep k hlt, List.length_append] at h1
  refine jn_of fun k1 hk1 => ?_
  refine ⟨a, _, ha, by simp only; omega, by simp only; omega, rfl, sl, by simp only [Int.toNat_natCast, Nat.mul_one]; exact hc, ?_⟩
  simp only
  rw [w64_eq (by omega) (by omega)]
  refine ⟨fun h => absurd (of_decide_eq_true h) (by omega), fun _ => ?_⟩
  rw [hk1]
  simp only
  rw [w64_eq (by omega) (by omega)]
  refine ⟨⟨trivial, k + 1, by omega, by omega, ?_⟩, by omega⟩
  rw [hstep k hlt, List.length_append]
  omega
 ·have hge : k = l.length := by have := of_decide_eq_false hge; simp only at this; omega
  subst hge
  rw [List.take_length]
  refine cR_of (grow_ok w l.flatten.length hf) ?_
  rintro x24 w25 ⟨ho25, hx25⟩
  have h25 := h.ext hx25
  refine ⟨fun st w' => ∃ k : Nat, k ≤ l.length ∧ st.2 = (k : Int) ∧ Own w' w.heap.size 5 1 st.1 (u8s (l.take k).flatten) ∧ Ext w w', fun st _ => l.length - st.2.toNat, ⟨0, Nat.zero_le _, rfl, by rw [List.take_zero]; exact ho25, hx25⟩, ?_⟩
  rintro ⟨s, i⟩ w27 ⟨k, hk, rfl, ho, hx⟩
  simp only at ho ⊢
  refine ⟨fun hlt => ?_, fun hge => ?_⟩
  ·have hlt : k < l.length := by have := of_decide_eq_true hlt; omega
   obtain ⟨a, sl, ha, hc, hb⟩ := (h.ext hx).get hlt
   have hbl := hb.1
   have hol := ho.length
   rw [u8s_length] at hol
   have h1 := sum_le l (k + 1)
   rw [hstep k hlt, List.length_append] at h1
   refine ⟨a, _, ha, by omega, by omega, rfl, sl, by rw [Int.toNat_natCast, Nat.mul_one]; exact hc, ?_⟩
   refine app_ok (base := w.heap.size) mk_39 rfl (by decide) ho (news := u8s l[k]) (by rw [u8s_length]; omega) hb.2 (u8s_one _) (by simp only [maxLen]; omega) (by first | omega | (simp only; omega)) hx.size ?_
   intro s' w' hl' ho' _ hB'
   rw [w64_eq (by omega) (by omega)]
   refine ⟨⟨k + 1, by omega, by omega, ?_, hB' _ _ hx (Nat.le_refl _) hx.size⟩, by omega⟩
   rw [hstep k hlt, u8s_append]; exact ho'
  ·have hge : k = l.length := by have := of_decide_eq_false hge; omega
   subst hge
   rw [List.take_length] at ho
   have hol := ho.length
   rw [u8s_length] at hol
   exact ⟨ho, by omega, hx⟩
theorem at_frozen_new {w w2 w3 : World} {b : Nat} {e : TypeId} {cs : List Value} (hb : b = w.heap.size) (hw : w2 = w.alloc (.cells cs.toArray e)) (hw3 : w3 = w2.freeze ⟨b, cs.toArray.size, none⟩ 1) : At w3 ⟨b, 0, none⟩ cs ∧ Ext w w3 := by
 refine ⟨by rw [hw3]; exact At.freeze (At.new hb hw) _ _, ?_⟩
 rw [hw3]
 exact (Ext.new hw).freeze 1 (by rw [hb]; exact Nat.le_refl _)
theorem half_ok (w : World) (a b : Nat) (ha : a < 18446744073709551616) (hb : b < 18446744073709551616) :
  Calls Try.prog 70 #[.int .u64 (a : Int), .int .u64 (b : Int)] w (Ret r70 fun x w' => Own w' w.heap.size 5 1 x (u8s (halfB a b)) ∧ x.len = 24 ∧ Ext w w') := by
 apply s70_calls
 intro b1 w2 hb1 hw2
 refine ⟨b1, 0, _, 5, (0, 0), rfl, by rw [hb1, hw2]; exact heap_new _ _, ?_⟩
 intro w3 hw3
 obtain ⟨hA, hx3⟩ := at_frozen_new hb1 hw2 hw3
 refine cR_of (high_ok w3 a ha) ?_
 rintro x4 w5 ⟨ho4, hx5⟩
 refine cR_of (high_ok w5 b hb) ?_
 rintro x6 w7 ⟨ho6, hx7⟩
 intro b8 w9 hb8 hw9
 have hx9 : Ext w7 w9 := Ext.new hw9
 have hp : Parts w9 ⟨some ⟨b8, 0, none⟩, 3, 3⟩ [magic, beB 8 a, beB 8 b] := by
  refine ⟨[⟨some ⟨b1, 0, none⟩, 8, 8⟩, x4, x6], rfl, rfl, At.new hb8 hw9, ?_⟩
  intro k s c hs hc
  rcases k with _ | _ | _ | k
  ·simp at hs hc
   subst hs; subst hc
   exact ⟨rfl, ((hx5.trans hx7).trans hx9).at hA⟩
  ·simp at hs hc
   subst hs; subst hc
   exact ((ho4.ext hx7).ext hx9).bytes
  ·simp at hs hc
   subst hs; subst hc
   exact (ho6.ext hx9).bytes
  ·simp at hs
 have hfl : [magic, beB 8 a, beB 8 b].flatten = halfB a b := by simp [halfB]
 refine cR_of (concat_ok w9 _ _ hp (by simp) (by rw [hfl, halfB_len]; decide)) ?_
 rintro x10 w11 ⟨ho, hl, hx11⟩
 rw [hfl] at ho hl
 rw [halfB_len] at hl
 have hx : Ext w w9 := ((hx3.trans hx5).trans hx7).trans hx9
 exact ⟨Own.lower ho hx.size, hl, hx.trans hx11⟩

theorem cut_ok {w : World} {p : Sl} {b : List UInt8} (h : Bytes w p b) (hc : p.len ≤ p.cap) {i j : Nat} (h1 : i ≤ j) (h2 : j ≤ b.length) : Bytes w (p.cut 1 (i : Nat) (j : Nat) (p.cap : Nat)) (sliceB b i j) := by
 have := h.1
 exact h.cut h1 (by omega) h2
theorem right_ok (w : World) (p : Sl) (b : List UInt8) (h : Bytes w p b) (hc : p.len ≤ p.cap) (hl : b.length = 512) (room : Nat) (hr : room ≤ 1000000000) :
  Calls Try.prog 47 #[p.v, .int .i64 (room : Int)] w (Ret r47 fun x w' => x = (((right b room).1 : Int), ((right b room).2 : Int)) ∧ Ext w w') := by
 apply s47_calls
 have hpl := h.1
 intro w1 hw1
 have hx1 : Ext w w1 := by subst hw1; exact Ext.drew _
 refine ⟨⟨by omega, by omega, by omega⟩, ⟨by omega, by omega, by omega⟩, ?_⟩
 have hc8 := cut_ok h hc (i := 8) (j := 16) (by decide) (by omega)
 have hc16 := cut_ok h hc (i := 16) (j := 24) (by decide) (by omega)
 have hc0 := cut_ok h hc (i := 0) (j := 24) (by decide) (by omega)
 have hc24 := cut_ok h hc (i := 24) (j := 48) (by decide) (by omega)
 have hsl : ∀ i j, (sliceB b i j).length ≤ 512 := by intro i j; simp [sliceB]; omega
 refine cR_of (low_ok w1 _ _ (hc8.ext hx1) (Nat.le_trans (hsl _ _) (by decide))) ?_
 rintro x3 w4 ⟨rfl, rfl⟩
 refine cR_of (low_ok w1 _ _ (hc16.ext hx1) (Nat.le_trans (hsl _ _) (by decide))) ?_
 rintro x5 w6 ⟨rfl, rfl⟩
 obtain ⟨seq, hseq⟩ : ∃ s, s = lowB (sliceB b 8 16) := ⟨_, rfl⟩
 obtain ⟨n, hn⟩ : ∃ s, s = lowB (sliceB b 16 24) := ⟨_, rfl⟩
 have hsl1 : seq < 18446744073709551616 := by rw [hseq]; exact lowB_lt _
 have hnl : n < 18446744073709551616 := by rw [hn]; exact lowB_lt _
 rw [← hseq, ← hn]
 intro w7 hw7
 have hx7 : Ext w1 w7 := by subst hw7; exact Ext.drew _
 have hx7' := hx1.trans hx7
 refine ⟨⟨by omega, by omega, by omega⟩, _, (hc0.ext hx1).1, (hc0.ext hx1).2, ?_⟩
 refine cR_of (half_ok w7 seq n hsl1 hnl) ?_
 rintro x10 w11 ⟨ho10, hl10, hx11⟩
 have hx11' := hx7'.trans hx11
 refine ⟨hx7.trans hx11, _, ho10.bytes.1, ho10.bytes.2, ?_⟩
 -- the end
 refine jn_of fun k1 hk1 => ?_
 have key1 : ∀ (w' : World) (q : Bool), Ext w w' → (q = false ↔ (sliceB b 0 24 = halfB seq n ∧ sliceB b 24 48 = halfB n seq)) → k1 q w' := by
  intro w' q hx' hq
  rw [hk1]
  refine jn_of fun k2 hk2 => ?_
  have key2 : ∀ q2 : Bool, (q2 = false ↔ ((sliceB b 0 24 = halfB seq n ∧ sliceB b 24 48 = halfB n seq) ∧ 1 ≤ seq)) → k2 q2 w' := by
   intro q2 hq2
   rw [hk2]
   refine jn_of fun k3 hk3 => ?_
   have key3 : ∀ q3 : Bool, (q3 = false ↔ (((sliceB b 0 24 = halfB seq n ∧ sliceB b 24 48 = halfB n seq) ∧ 1 ≤ seq) ∧ seq ≤ last)) → k3 q3 w' := by
    intro q3 hq3
    rw [hk3]
    refine jn_of fun k4 hk4 => ?_
    have key4 : ∀ q4 : Bool, (q4 = false ↔ ((((sliceB b 0 24 = halfB seq n ∧ sliceB b 24 48 = halfB n seq) ∧ 1 ≤ seq) ∧ seq ≤ last) ∧ n ≤ room)) → k4 q4 w' := by
     intro q4 hq4
     rw [hk4]
     unfold right
     simp only [← hseq, ← hn]
     refine ⟨fun ht => ?_, fun hf => ?_⟩
     ·rw [if_neg (fun hh => by rw [hq4.2 ⟨⟨⟨⟨hh.1, hh.2.1⟩, hh.2.2.1⟩, hh.2.2.2.1⟩, hh.2.2.2.2⟩] at ht; cases ht)]
      exact ⟨rfl, hx'⟩
     ·obtain ⟨⟨⟨⟨a1, a2⟩, a3⟩, a4⟩, a5⟩ := hq4.1 hf
      rw [if_pos ⟨a1, a2, a3, a4, a5⟩, w64_eq (by omega) (by omega)]
      exact ⟨rfl, hx'⟩
    refine ⟨fun ht => key4 true ⟨fun h => absurd h (by decide), fun hh => by rw [hq3.2 hh.1] at ht; cases ht⟩, fun hf => key4 _ ?_⟩
    rw [wu64_eq (by omega) (by omega), decide_eq_false_iff_not]
    exact ⟨fun hh => ⟨hq3.1 hf, by omega⟩, fun hh => by have := hh.2; omega⟩
   refine ⟨fun ht => key3 true ⟨fun h => absurd h (by decide), fun hh => by rw [hq2.2 hh.1] at ht; cases ht⟩, fun hf => key3 _ ?_⟩
   rw [decide_eq_false_iff_not]
   exact ⟨fun hh => ⟨hq2.1 hf, by unfold last; omega⟩, fun hh => by have := hh.2; unfold last at this; omega⟩
  refine ⟨fun ht => key2 true ⟨fun h => absurd h (by decide), fun hh => by rw [hq.2 hh.1] at ht; cases ht⟩, fun hf => key2 _ ?_⟩
  rw [decide_eq_false_iff_not]
  exact ⟨fun hh => ⟨hq.1 hf, by omega⟩, fun hh => by have := hh.2; omega⟩
 refine ⟨fun hne => key1 w11 true hx11' ⟨fun h => absurd h (by decide), fun hh => absurd hh.1 (nd_t hne)⟩, fun he => ?_⟩
 refine ⟨⟨by omega, by omega, by omega⟩, _, (hc24.ext hx1).1, (hc24.ext hx1).2, ?_⟩
 refine cR_of (half_ok w11 n seq hnl hsl1) ?_
 rintro x18 w19 ⟨ho18, hl18, hx19⟩
 refine ⟨(hx7.trans hx11).trans hx19, _, ho18.bytes.1, ho18.bytes.2, ?_⟩
 refine key1 w19 _ (hx11'.trans hx19) ?_
 rw [Bool.not_eq_false', decide_eq_true_iff]
 exact ⟨fun hh => ⟨nd_f he, hh⟩, fun hh => hh.2⟩
end Go.Proofs.Ytagkcbbbdlmcjaa
end
section
/- The typed readings of the functions, and that the program meets each: written by gen.py (a program of this session). -/
namespace Go.Proofs.Ytagkcbbbdlmcjaa
open Go.Lift
set_option maxRecDepth 100000 in
set_option maxHeartbeats 4000000 in
theorem s50_calls (K : Sl × Int → World → Prop) (p0 : Sl) (w : World) (h : s50 K p0 w) :
  Calls Try.prog 50 #[Sl.v p0] w (Ret r50 K) := by
 unfold s50 at h
 refine calls_of_CW (n := 65) Try.func50 rfl rfl rfl ?_
 refine CW.seq ?_
 refine CW.region ?_
 refine RL.opS trivial rfl (OpW.assign (v := Sl.v nilSl) rfl ?_)
 refine RL.opS trivial rfl (OpW.assign (v := .int .i64 0) rfl ?_)
 refine RL.nil ?_
 refine CW.seq ?_
 refine CW.region ?_
 refine RL.opS trivial rfl (OpW.assign (v := Sl.v nilSl) rfl ?_)
 refine RL.nil ?_
 refine CW.seq ?_
 refine CW.block ?_
 obtain ⟨I58, mu59, hI, hs⟩ := h
 refine CW.loop (σ := Sl × Sl) (fun s1 ρ => ρ 0 = Sl.v s1.1 ∧ ρ 4 = Sl.v s1.2) I58 mu59 (p0, nilSl) ⟨rfl, rfl⟩ hI ?_
 rintro s1 ρ w2 ⟨e4, e5⟩ hI
 have h := hs s1 w2 hI
 clear hs hI
 refine CW.seq ?_
 refine CW.seq ?_
 refine CW.region ?_
 refine RL.opS trivial rfl (OpW.move (v := Sl.v s1.1) e4 ?_)
 refine RL.opS trivial rfl (OpW.len (s := s1.1) slice_39 rfl ?_)
 refine RL.opS trivial rfl (OpW.bin (k := .i64) (a := (s1.1.len : Int)) (b := 0) (v := .bool (decide (0 < (s1.1.len : Int)))) rfl rfl rfl ?_)
 refine RL.nil ?_
 obtain ⟨ha, hc⟩ := h
 refine CW.cond (b := (decide (0 < (s1.1.len : Int)))) rfl (fun hb6 => ?_) (fun hb6 => ?_)
 ·have h := ha hb6; clear ha hc
  refine CW.skip ?_
  refine CW.block ?_
  refine CW.seq ?_
  refine CW.region ?_
  refine RL.opS trivial rfl (OpW.move (v := Sl.v s1.1) e4 ?_)
  refine RL.opS trivial rfl (OpW.callR (al := [Sl.v s1.1]) Try.func72 fb_72 fn_72 rfl h (fun x7 w8 h => ?_))
  refine RL.opS trivial rfl (OpW.assign (v := .pointer x7) rfl ?_)
  refine RL.nil ?_
  refine CW.seq ?_
  refine CW.region ?_
  refine RL.opS trivial rfl (OpW.move (v := .pointer x7) rfl ?_)
  refine RL.opS trivial rfl (OpW.callR (al := [.pointer x7]) Try.func73 fb_73 fn_73 rfl h (fun x9 w10 h => ?_))
  refine RL.opS trivial rfl (OpW.assign (v := .int .u64 x9) rfl ?_)
  refine RL.nil ?_
  refine CW.seq ?_
  refine CW.region ?_
  refine RL.opS trivial rfl (OpW.move (v := Sl.v s1.1) e4 ?_)
  refine RL.opS trivial rfl (OpW.len (s := s1.1) slice_39 rfl ?_)
  refine RL.opS trivial rfl (OpW.move (v := .pointer x7) rfl ?_)
  refine RL.opS trivial rfl (OpW.callR (al := [.pointer x7]) Try.func74 fb_74 fn_74 rfl h (fun x11 w12 h => ?_))
  refine RL.opS trivial rfl (OpW.bin (k := .i64) (a := (s1.1.len : Int)) (b := x11) (v := .int .i64 (IntKind.i64.wrap ((s1.1.len : Int) - x11))) rfl rfl rfl ?_)
  refine RL.opS trivial rfl (OpW.assign (v := .int .i64 (IntKind.i64.wrap ((s1.1.len : Int) - x11))) rfl ?_)
  refine RL.nil ?_
  refine CW.seq ?_
  refine CW.seq ?_
  refine CW.region ?_
  refine RL.opS trivial rfl (OpW.move (v := .pointer x7) rfl ?_)
  refine RL.opS trivial rfl (OpW.callR (al := [.pointer x7]) Try.func75 fb_75 fn_75 rfl h (fun x13 w14 h => ?_))
  refine RL.opS trivial rfl (OpW.bin (k := .i64) (a := x13) (b := 0) (v := .bool (!decide (x13 = 0))) rfl rfl rfl ?_)
  refine RL.opS trivial rfl (OpW.move (v := .bool (!decide (x13 = 0))) rfl ?_)
  refine jn_elim h ?_; clear h; intro k56 hk57 h
  refine RL.joinAt (A := Bool) 4 (fun s19 ρ => ρ 29 = .bool s19 ∧ ρ 0 = Sl.v s1.1 ∧ ρ 4 = Sl.v s1.2 ∧ ρ 5 = .pointer x7 ∧ ρ 6 = .int .u64 x9 ∧ ρ 7 = .int .i64 (IntKind.i64.wrap ((s1.1.len : Int) - x11))) k56 ?_ ?_
  ·rintro s19 ρ w20 ⟨e21, e22, e23, e24, e25, e26⟩ h
   subst hk57
   dsimp only [List.drop]
   refine RL.opS trivial rfl (OpW.move (v := .bool s19) e21 ?_)
   refine jn_elim h ?_; clear h; intro k54 hk55 h
   refine RL.joinAt (A := Bool) 7 (fun s31 ρ => ρ 37 = .bool s31 ∧ ρ 0 = Sl.v s1.1 ∧ ρ 4 = Sl.v s1.2 ∧ ρ 6 = .int .u64 x9 ∧ ρ 7 = .int .i64 (IntKind.i64.wrap ((s1.1.len : Int) - x11))) k54 ?_ ?_
   ·rintro s31 ρ w32 ⟨e33, e34, e35, e36, e37⟩ h
    subst hk55
    dsimp only [List.drop]
    refine RL.nil ?_
    obtain ⟨ha, hc⟩ := h
    refine CW.cond (b := s31) e33 (fun hb38 => ?_) (fun hb38 => ?_)
    ·have h := ha hb38; clear ha hc
     refine CW.seq ?_
     refine CW.region ?_
     refine RL.opS trivial rfl (OpW.assign (v := Sl.v nilSl) rfl ?_)
     refine RL.opS trivial rfl (OpW.assign (v := .int .i64 7) rfl ?_)
     refine RL.nil ?_
     refine CW.ret ?_
     exact ret_intro (res2 rfl rfl rfl) ⟨(nilSl, 7), rfl, h⟩
    ·have h := hc hb38; clear ha hc
     refine CW.skip ?_
     refine CW.seq ?_
     refine CW.region ?_
     refine RL.opS trivial rfl (OpW.move (v := .int .i64 (IntKind.i64.wrap ((s1.1.len : Int) - x11))) e37 ?_)
     refine RL.opS trivial rfl (OpW.bin (k := .i64) (a := (IntKind.i64.wrap ((s1.1.len : Int) - x11))) (b := 4) (v := .int .i64 (IntKind.i64.wrap ((IntKind.i64.wrap ((s1.1.len : Int) - x11)) + 4))) rfl rfl rfl ?_)
     refine RL.opS trivial rfl (OpW.move (v := .int .u64 x9) e36 ?_)
     refine RL.opS trivial rfl (OpW.convInt (a := x9) int_25 int_3 rfl ?_)
     refine RL.opS trivial rfl (OpW.bin (k := .i64) (a := (IntKind.i64.wrap ((IntKind.i64.wrap ((s1.1.len : Int) - x11)) + 4))) (b := (IntKind.i64.wrap x9)) (v := .int .i64 (IntKind.i64.wrap ((IntKind.i64.wrap ((IntKind.i64.wrap ((s1.1.len : Int) - x11)) + 4)) + (IntKind.i64.wrap x9)))) rfl rfl rfl ?_)
     refine RL.opS trivial rfl (OpW.assign (v := .int .i64 (IntKind.i64.wrap ((IntKind.i64.wrap ((IntKind.i64.wrap ((s1.1.len : Int) - x11)) + 4)) + (IntKind.i64.wrap x9)))) rfl ?_)
     refine RL.nil ?_
     refine CW.seq ?_
     refine CW.region ?_
     refine RL.opS trivial rfl (OpW.move (v := Sl.v s1.1) e34 ?_)
     refine RL.opS trivial rfl (OpW.move (v := .int .i64 (IntKind.i64.wrap ((s1.1.len : Int) - x11))) e37 ?_)
     refine RL.opS trivial rfl (OpW.bin (k := .i64) (a := (IntKind.i64.wrap ((s1.1.len : Int) - x11))) (b := 4) (v := .int .i64 (IntKind.i64.wrap ((IntKind.i64.wrap ((s1.1.len : Int) - x11)) + 4))) rfl rfl rfl ?_)
     refine RL.opS trivial rfl (OpW.move (v := .int .i64 (IntKind.i64.wrap ((IntKind.i64.wrap ((IntKind.i64.wrap ((s1.1.len : Int) - x11)) + 4)) + (IntKind.i64.wrap x9)))) rfl ?_)
     obtain ⟨⟨h1, h2, h3⟩, h⟩ := h
     refine RL.opS trivial rfl (OpW.sliceSl (l := (IntKind.i64.wrap ((IntKind.i64.wrap ((s1.1.len : Int) - x11)) + 4))) (h := (IntKind.i64.wrap ((IntKind.i64.wrap ((IntKind.i64.wrap ((s1.1.len : Int) - x11)) + 4)) + (IntKind.i64.wrap x9)))) slice_39 rfl ⟨_, rfl⟩ ⟨_, rfl⟩ h1 h2 (.inr h3) ?_)
     refine RL.opS trivial rfl (OpW.assign (v := Sl.v (s1.1.cut 1 (IntKind.i64.wrap ((IntKind.i64.wrap ((s1.1.len : Int) - x11)) + 4)) (IntKind.i64.wrap ((IntKind.i64.wrap ((IntKind.i64.wrap ((s1.1.len : Int) - x11)) + 4)) + (IntKind.i64.wrap x9))) s1.1.cap)) rfl ?_)
     refine RL.nil ?_
     refine CW.seq ?_
     refine CW.seq ?_
     obtain ⟨w39, hw39_⟩ : ∃ w_, w_ = w32.drew := ⟨_, rfl⟩
     have h := h w39 hw39_
     have hx40 : Ext w32 w39 := by rw [hw39_]; exact Ext.drew _
     refine CW.draws (m := 8) (listed := #[F,F,F,F,F,F,F,F]) mixed [0, 1, 2, 3, 4, 5, 6, 7] (Ext w32) rfl rfl ?_
     rw [← hw39_]
     refine DL.takeP (listed' := #[T,F,F,F,F,F,F,F]) (v := Sl.v (s1.1.cut 1 (IntKind.i64.wrap ((IntKind.i64.wrap ((s1.1.len : Int) - x11)) + 4)) (IntKind.i64.wrap ((IntKind.i64.wrap ((IntKind.i64.wrap ((s1.1.len : Int) - x11)) + 4)) + (IntKind.i64.wrap x9))) s1.1.cap)) 0 rfl rfl (by kernel_rfl) rfl trivial rfl (fun w_ K_ h_ => OpW.move (v := Sl.v (s1.1.cut 1 (IntKind.i64.wrap ((IntKind.i64.wrap ((s1.1.len : Int) - x11)) + 4)) (IntKind.i64.wrap ((IntKind.i64.wrap ((IntKind.i64.wrap ((s1.1.len : Int) - x11)) + 4)) + (IntKind.i64.wrap x9))) s1.1.cap)) rfl h_) ?_
     refine DL.takeP (listed' := #[T,F,F,T,F,F,F,F]) (v := Sl.v s1.1) 3 rfl rfl (by kernel_rfl) rfl trivial rfl (fun w_ K_ h_ => OpW.move (v := Sl.v s1.1) e34 h_) ?_
     refine DL.takeP (listed' := #[T,F,F,T,T,F,F,F]) (v := .int .i64 (IntKind.i64.wrap ((IntKind.i64.wrap ((IntKind.i64.wrap ((s1.1.len : Int) - x11)) + 4)) + (IntKind.i64.wrap x9)))) 4 rfl rfl (by kernel_rfl) rfl trivial rfl (fun w_ K_ h_ => OpW.move (v := .int .i64 (IntKind.i64.wrap ((IntKind.i64.wrap ((IntKind.i64.wrap ((s1.1.len : Int) - x11)) + 4)) + (IntKind.i64.wrap x9)))) rfl h_) ?_
     obtain ⟨⟨h1, h2, h3⟩, h⟩ := h
     refine DL.takeP (listed' := #[T,F,F,T,T,T,F,F]) (v := Sl.v (s1.1.cut 1 0 (IntKind.i64.wrap ((IntKind.i64.wrap ((IntKind.i64.wrap ((s1.1.len : Int) - x11)) + 4)) + (IntKind.i64.wrap x9))) s1.1.cap)) 5 rfl rfl (by kernel_rfl) rfl trivial rfl (fun w_ K_ h_ => OpW.sliceSl (l := 0) (h := (IntKind.i64.wrap ((IntKind.i64.wrap ((IntKind.i64.wrap ((s1.1.len : Int) - x11)) + 4)) + (IntKind.i64.wrap x9)))) slice_39 rfl rfl ⟨_, rfl⟩ h1 h2 (.inr h3) h_) ?_
     obtain ⟨x41, h1, h2, h⟩ := h
     refine DL.takeK (listed' := #[T,F,F,T,T,T,T,F]) (v := str x41) 6 rfl rfl (by kernel_rfl) (by kernel_rfl) rfl trivial rfl hx40 (fun w_ hS_ K_ h_ => OpW.b2s bsl_39 str_9 rfl h1 (hS_.atO h2) h_) ?_
     refine DL.execS (listed' := #[T,T,F,T,T,T,T,F]) 1 rfl (by kernel_rfl) rfl trivial rfl (OpW.callR (al := [Sl.v (s1.1.cut 1 (IntKind.i64.wrap ((IntKind.i64.wrap ((s1.1.len : Int) - x11)) + 4)) (IntKind.i64.wrap ((IntKind.i64.wrap ((IntKind.i64.wrap ((s1.1.len : Int) - x11)) + 4)) + (IntKind.i64.wrap x9))) s1.1.cap)]) Try.func54 fb_54 fn_54 rfl h (fun x42 w43 h => ?_))
     obtain ⟨hx44, h⟩ := h
     refine ⟨(fun _ _ => hx44), ?_⟩
     obtain ⟨x45, h1, h2, h⟩ := h
     refine DL.execS (listed' := #[T,T,T,T,T,T,T,F]) 2 rfl (by kernel_rfl) rfl trivial rfl (OpW.b2s bsl_39 str_9 rfl h1 h2 ?_)
     refine ⟨(fun _ _ => hx44), ?_⟩
     refine DL.takeP (listed' := #[T,T,T,T,T,T,T,T]) (v := .bool (!decide (x45 = x41))) 7 rfl rfl (by kernel_rfl) rfl trivial rfl (fun w_ K_ h_ => OpW.strCmp (b := !decide (x45 = x41)) rfl rfl rfl h_) ?_
     refine DL.done (by kernel_rfl) ?_
     obtain ⟨ha, hc⟩ := h
     refine CW.cond (b := (!decide (x45 = x41))) rfl (fun hb47 => ?_) (fun hb47 => ?_)
     ·have h := ha hb47; clear ha hc
      refine CW.seq ?_
      refine CW.region ?_
      refine RL.opS trivial rfl (OpW.assign (v := Sl.v nilSl) rfl ?_)
      refine RL.opS trivial rfl (OpW.assign (v := .int .i64 20) rfl ?_)
      refine RL.nil ?_
      refine CW.ret ?_
      exact ret_intro (res2 rfl rfl rfl) ⟨(nilSl, 20), rfl, h⟩
     ·have h := hc hb47; clear ha hc
      refine CW.skip ?_
      refine CW.seq ?_
      refine CW.region ?_
      refine RL.opS trivial rfl (OpW.move (v := Sl.v s1.2) e35 ?_)
      refine RL.opS trivial rfl (OpW.move (v := Sl.v (s1.1.cut 1 (IntKind.i64.wrap ((IntKind.i64.wrap ((s1.1.len : Int) - x11)) + 4)) (IntKind.i64.wrap ((IntKind.i64.wrap ((IntKind.i64.wrap ((s1.1.len : Int) - x11)) + 4)) + (IntKind.i64.wrap x9))) s1.1.cap)) rfl ?_)
      refine RL.opS trivial rfl (OpW.callR (al := [Sl.v (s1.1.cut 1 (IntKind.i64.wrap ((IntKind.i64.wrap ((s1.1.len : Int) - x11)) + 4)) (IntKind.i64.wrap ((IntKind.i64.wrap ((IntKind.i64.wrap ((s1.1.len : Int) - x11)) + 4)) + (IntKind.i64.wrap x9))) s1.1.cap)]) Try.func53 fb_53 fn_53 rfl h (fun x48 w49 h => ?_))
      obtain ⟨b50, hb50_⟩ : ∃ b_, b_ = w49.heap.size := ⟨_, rfl⟩
      obtain ⟨w51, hw51_⟩ : ∃ w_, w_ = w49.alloc (.cells (List.toArray [Sl.v x48]) 39) := ⟨_, rfl⟩
      have h := h b50 w51 hb50_ hw51_
      refine RL.opS trivial rfl (OpW.buildSliceE (vs := [(0, Sl.v x48)]) (cs := [Sl.v x48]) (by rfl) (by kernel_rfl) hb50_ hw51_ ?_)
      obtain ⟨x52, w53, hr_, h⟩ := h
      refine RL.opS trivial rfl (OpW.appendL (v := Sl.v x52) rfl hr_ ?_)
      refine RL.opS trivial rfl (OpW.assign (v := Sl.v x52) rfl ?_)
      refine RL.nil ?_
      refine CW.region ?_
      refine RL.opS trivial rfl (OpW.move (v := Sl.v s1.1) e34 ?_)
      refine RL.opS trivial rfl (OpW.move (v := .int .i64 (IntKind.i64.wrap ((IntKind.i64.wrap ((IntKind.i64.wrap ((s1.1.len : Int) - x11)) + 4)) + (IntKind.i64.wrap x9)))) rfl ?_)
      obtain ⟨⟨h1, h2⟩, h⟩ := h
      refine RL.opS trivial rfl (OpW.sliceSl (l := (IntKind.i64.wrap ((IntKind.i64.wrap ((IntKind.i64.wrap ((s1.1.len : Int) - x11)) + 4)) + (IntKind.i64.wrap x9)))) (h := (s1.1.len : Int)) slice_39 rfl ⟨_, rfl⟩ rfl h1 h2 (.inl rfl) ?_)
      refine RL.opS trivial rfl (OpW.assign (v := Sl.v (s1.1.cut 1 (IntKind.i64.wrap ((IntKind.i64.wrap ((IntKind.i64.wrap ((s1.1.len : Int) - x11)) + 4)) + (IntKind.i64.wrap x9))) (s1.1.len : Int) s1.1.cap)) rfl ?_)
      refine RL.nil ?_
      exact ⟨((s1.1.cut 1 (IntKind.i64.wrap ((IntKind.i64.wrap ((IntKind.i64.wrap ((s1.1.len : Int) - x11)) + 4)) + (IntKind.i64.wrap x9))) (s1.1.len : Int) s1.1.cap), x52), ⟨rfl, rfl⟩, h⟩
   ·clear hk55
    dsimp only [List.take]
    obtain ⟨ha, hc⟩ := h
    rcases Bool.eq_false_or_eq_true s19 with hb27 | hb27
    ·have h := ha hb27; clear ha hc
     refine RL.skipS (notWanted_of rfl rfl hb27) rfl ?_
     refine RL.skipS (notWanted_of rfl rfl hb27) rfl ?_
     refine RL.skipS (notWanted_of rfl rfl hb27) rfl ?_
     refine RL.skipS (notWanted_of rfl rfl hb27) rfl ?_
     refine RL.skipS (notWanted_of rfl rfl hb27) rfl ?_
     refine RL.skipS (notWanted_of rfl rfl hb27) rfl ?_
     refine RL.opS trivial rfl (OpW.pick (b := true) (v := .bool true) (congrArg Value.bool hb27) rfl ?_)
     refine RL.nil ?_
     exact ⟨true, ⟨rfl, e22, e23, e25, e26⟩, h⟩
    ·have h := hc hb27; clear ha hc
     refine RL.opS (wanted_of rfl rfl hb27) rfl (OpW.move (v := .int .u64 x9) e25 ?_)
     refine RL.opS (wanted_of rfl rfl hb27) rfl (OpW.move (v := .pointer x7) e24 ?_)
     refine RL.opS (wanted_of rfl rfl hb27) rfl (OpW.callR (al := [.pointer x7]) Try.func74 fb_74 fn_74 rfl h (fun x29 w30 h => ?_))
     refine RL.opS (wanted_of rfl rfl hb27) rfl (OpW.bin (k := .i64) (a := x29) (b := 4) (v := .int .i64 (IntKind.i64.wrap (x29 - 4))) rfl rfl rfl ?_)
     refine RL.opS (wanted_of rfl rfl hb27) rfl (OpW.convInt (a := (IntKind.i64.wrap (x29 - 4))) int_3 int_25 rfl ?_)
     refine RL.opS (wanted_of rfl rfl hb27) rfl (OpW.bin (k := .u64) (a := x9) (b := (IntKind.u64.wrap (IntKind.i64.wrap (x29 - 4)))) (v := .bool (decide ((IntKind.u64.wrap (IntKind.i64.wrap (x29 - 4))) < x9))) rfl rfl rfl ?_)
     refine RL.opS trivial rfl (OpW.pick (b := false) (v := .bool (decide ((IntKind.u64.wrap (IntKind.i64.wrap (x29 - 4))) < x9))) (congrArg Value.bool hb27) rfl ?_)
     refine RL.nil ?_
     exact ⟨(decide ((IntKind.u64.wrap (IntKind.i64.wrap (x29 - 4))) < x9)), ⟨rfl, e22, e23, e25, e26⟩, h⟩
  ·clear hk57
   dsimp only [List.take]
   obtain ⟨ha, hc⟩ := h
   rcases Bool.eq_false_or_eq_true (!decide (x13 = 0)) with hb15 | hb15
   ·have h := ha hb15; clear ha hc
    refine RL.skipS (notWanted_of rfl rfl hb15) rfl ?_
    refine RL.skipS (notWanted_of rfl rfl hb15) rfl ?_
    refine RL.skipS (notWanted_of rfl rfl hb15) rfl ?_
    refine RL.opS trivial rfl (OpW.pick (b := true) (v := .bool true) (congrArg Value.bool hb15) rfl ?_)
    refine RL.nil ?_
    exact ⟨true, ⟨rfl, e4, e5, rfl, rfl, rfl⟩, h⟩
   ·have h := hc hb15; clear ha hc
    refine RL.opS (wanted_of rfl rfl hb15) rfl (OpW.move (v := .pointer x7) rfl ?_)
    refine RL.opS (wanted_of rfl rfl hb15) rfl (OpW.callR (al := [.pointer x7]) Try.func74 fb_74 fn_74 rfl h (fun x17 w18 h => ?_))
    refine RL.opS (wanted_of rfl rfl hb15) rfl (OpW.bin (k := .i64) (a := x17) (b := 4) (v := .bool (decide (x17 < 4))) rfl rfl rfl ?_)
    refine RL.opS trivial rfl (OpW.pick (b := false) (v := .bool (decide (x17 < 4))) (congrArg Value.bool hb15) rfl ?_)
    refine RL.nil ?_
    exact ⟨(decide (x17 < 4)), ⟨rfl, e4, e5, rfl, rfl, rfl⟩, h⟩
 ·have h := hc hb6; clear ha hc
  refine CW.exit ?_
  refine CW.seq ?_
  refine CW.region ?_
  refine RL.opS trivial rfl (OpW.move (v := Sl.v s1.2) e5 ?_)
  refine RL.opS trivial rfl (OpW.assign (v := Sl.v s1.2) rfl ?_)
  refine RL.opS trivial rfl (OpW.assign (v := .int .i64 0) rfl ?_)
  refine RL.nil ?_
  refine CW.ret ?_
  exact ret_intro (res2 rfl rfl rfl) ⟨(s1.2, 0), rfl, h⟩
end Go.Proofs.Ytagkcbbbdlmcjaa
end
section
/- The typed readings of the functions, and that the program meets each: written by gen.py (a program of this session). -/
namespace Go.Proofs.Ytagkcbbbdlmcjaa
open Go.Lift
set_option maxRecDepth 100000 in
set_option maxHeartbeats 4000000 in
theorem s54_calls (K : Sl → World → Prop) (p0 : Sl) (w : World) (h : s54 K p0 w) :
  Calls Try.prog 54 #[Sl.v p0] w (Ret r54 K) := by
 unfold s54 at h
 refine calls_of_CW (n := 25) Try.func54 rfl rfl rfl ?_
 refine CW.seq ?_
 refine CW.region ?_
 refine RL.opS trivial rfl (OpW.assign (v := Sl.v nilSl) rfl ?_)
 refine RL.nil ?_
 refine CW.seq ?_
 refine CW.region ?_
 refine RL.opS trivial rfl (OpW.move (v := Sl.v p0) rfl ?_)
 obtain ⟨b1, hb1_⟩ : ∃ b_, b_ = w.heap.size := ⟨_, rfl⟩
 obtain ⟨w2, hw2_⟩ : ∃ w_, w_ = w.alloc (.cells (List.toArray [Sl.v p0]) 39) := ⟨_, rfl⟩
 have h := h b1 w2 hb1_ hw2_
 refine RL.opS trivial rfl (OpW.buildSliceE (vs := [(0, Sl.v p0)]) (cs := [Sl.v p0]) (by rfl) (by kernel_rfl) hb1_ hw2_ ?_)
 refine RL.opS trivial rfl (OpW.callR (al := [Sl.v ⟨some ⟨b1, 0, none⟩, 1, 1⟩]) Try.func77 fb_77 fn_77 rfl h (fun x3 w4 h => ?_))
 refine RL.opS trivial rfl (OpW.assign (v := .int .u32 x3) rfl ?_)
 refine RL.nil ?_
 refine CW.seq ?_
 refine CW.region ?_
 refine RL.opS trivial rfl (OpW.move (v := Sl.v p0) rfl ?_)
 refine RL.opS trivial rfl (OpW.len (s := p0) slice_39 rfl ?_)
 refine RL.opS trivial rfl (OpW.convInt (a := (p0.len : Int)) int_3 int_25 rfl ?_)
 refine RL.opS trivial rfl (OpW.callR (al := [.int .u64 (IntKind.u64.wrap (p0.len : Int))]) Try.func78 fb_78 fn_78 rfl h (fun x5 w6 h => ?_))
 refine RL.opS trivial rfl (OpW.assign (v := Sl.v x5) rfl ?_)
 refine RL.nil ?_
 refine CW.seq ?_
 refine CW.seq ?_
 refine CW.region ?_
 refine RL.opS trivial rfl (OpW.move (v := .int .i64 0) rfl ?_)
 refine RL.nil ?_
 refine CW.block ?_
 obtain ⟨I21, mu22, hI, hs⟩ := h
 refine CW.loop (σ := Int × Sl × Int) (fun s7 ρ => ρ 3 = .int .u32 s7.1 ∧ ρ 4 = Sl.v s7.2.1 ∧ ρ 12 = .int .i64 s7.2.2 ∧ ρ 0 = Sl.v p0) I21 mu22 (x3, x5, 0) ⟨rfl, rfl, rfl, rfl⟩ hI ?_
 rintro s7 ρ w8 ⟨e10, e11, e12, e13⟩ hI
 have h := hs s7 w8 hI
 clear hs hI
 refine CW.seq ?_
 refine CW.region ?_
 refine RL.opS trivial rfl (OpW.bin (k := .i64) (a := s7.2.2) (b := 4) (v := .bool (decide (s7.2.2 < 4))) e12 rfl rfl ?_)
 refine RL.nil ?_
 refine CW.seq ?_
 obtain ⟨ha, hc⟩ := h
 refine CW.cond (b := (decide (s7.2.2 < 4))) rfl (fun hb14 => ?_) (fun hb14 => ?_)
 ·have h := ha hb14; clear ha hc
  refine CW.skip ?_
  refine CW.seq ?_
  refine CW.block ?_
  refine CW.seq ?_
  refine CW.region ?_
  refine RL.opS trivial rfl (OpW.move (v := Sl.v s7.2.1) e11 ?_)
  refine RL.opS trivial rfl (OpW.move (v := .int .u32 s7.1) e10 ?_)
  refine RL.opS trivial rfl (OpW.convInt (a := s7.1) int_129 int_5 rfl ?_)
  obtain ⟨b15, hb15_⟩ : ∃ b_, b_ = w8.heap.size := ⟨_, rfl⟩
  obtain ⟨w16, hw16_⟩ : ∃ w_, w_ = w8.alloc (.cells (List.toArray [.int .u8 (IntKind.u8.wrap s7.1)]) 5) := ⟨_, rfl⟩
  have h := h b15 w16 hb15_ hw16_
  refine RL.opS trivial rfl (OpW.buildSliceE (vs := [(0, .int .u8 (IntKind.u8.wrap s7.1))]) (cs := [.int .u8 (IntKind.u8.wrap s7.1)]) (by rfl) (by kernel_rfl) hb15_ hw16_ ?_)
  obtain ⟨x17, w18, hr_, h⟩ := h
  refine RL.opS trivial rfl (OpW.appendL (v := Sl.v x17) rfl hr_ ?_)
  refine RL.opS trivial rfl (OpW.assign (v := Sl.v x17) rfl ?_)
  refine RL.nil ?_
  refine CW.region ?_
  refine RL.opS trivial rfl (OpW.move (v := .int .u32 s7.1) e10 ?_)
  refine RL.opS trivial rfl (OpW.shift (a := s7.1) (b := 8) (v := .int .u32 (shrI .u32 s7.1 8)) rfl rfl (by decide) rfl ?_)
  refine RL.opS trivial rfl (OpW.assign (v := .int .u32 (shrI .u32 s7.1 8)) rfl ?_)
  refine RL.nil ?_
  refine CW.region ?_
  refine RL.opS trivial rfl (OpW.bin (k := .i64) (a := s7.2.2) (b := 1) (v := .int .i64 (IntKind.i64.wrap (s7.2.2 + 1))) e12 rfl rfl ?_)
  refine RL.opS trivial rfl (OpW.move (v := .int .i64 (IntKind.i64.wrap (s7.2.2 + 1))) rfl ?_)
  refine RL.nil ?_
  exact ⟨((shrI .u32 s7.1 8), x17, (IntKind.i64.wrap (s7.2.2 + 1))), ⟨rfl, rfl, rfl, e13⟩, h⟩
 ·have h := hc hb14; clear ha hc
  refine CW.exit ?_
  refine CW.seq ?_
  refine CW.region ?_
  refine RL.opS trivial rfl (OpW.move (v := Sl.v s7.2.1) e11 ?_)
  refine RL.opS trivial rfl (OpW.move (v := Sl.v p0) e13 ?_)
  obtain ⟨x19, w20, hr_, h⟩ := h
  refine RL.opS trivial rfl (OpW.appendL (v := Sl.v x19) rfl hr_ ?_)
  refine RL.opS trivial rfl (OpW.assign (v := Sl.v x19) rfl ?_)
  refine RL.nil ?_
  refine CW.ret ?_
  exact ret_intro (res1 rfl rfl) ⟨x19, rfl, h⟩
end Go.Proofs.Ytagkcbbbdlmcjaa
end
section
/- The typed readings of the functions, and that the program meets each: written by gen.py (a program of this session). -/
namespace Go.Proofs.Ytagkcbbbdlmcjaa
open Go.Lift
set_option maxRecDepth 100000 in
set_option maxHeartbeats 4000000 in
theorem s72_calls (K : Option Addr → World → Prop) (p0 : Sl) (w : World) (h : s72 K p0 w) :
  Calls Try.prog 72 #[Sl.v p0] w (Ret r72 K) := by
 unfold s72 at h
 refine calls_of_CW (n := 13) Try.func72 rfl rfl rfl ?_
 refine CW.seq ?_
 refine CW.region ?_
 refine RL.opS trivial rfl (OpW.assign (v := .pointer none) rfl ?_)
 refine RL.nil ?_
 refine CW.seq ?_
 refine CW.region ?_
 refine RL.opS trivial rfl (OpW.move (v := Sl.v p0) rfl ?_)
 refine RL.opS trivial rfl (OpW.len (s := p0) slice_39 rfl ?_)
 obtain ⟨h1, h2, h3, h4, h⟩ := h
 obtain ⟨b1, hb1_⟩ : ∃ b_, b_ = w.heap.size := ⟨_, rfl⟩
 obtain ⟨w2, hw2_⟩ : ∃ w_, w_ = w.alloc (.cells (List.replicate (Int.toNat (p0.len : Int) * 1) (Value.int .u8 0)).toArray 5) := ⟨_, rfl⟩
 have h := h b1 w2 hb1_ hw2_
 obtain ⟨x3, hx3_⟩ : ∃ s_ : Sl, s_ = ⟨some ⟨b1, 0, none⟩, Int.toNat (p0.len : Int), Int.toNat (p0.len : Int)⟩ := ⟨_, rfl⟩
 rw [← hx3_] at h
 refine RL.opS trivial rfl (OpW.makeSliceE mk_39 (by decide) rfl rfl h1 h2 h3 h4 hb1_ hw2_ hx3_ ?_)
 refine RL.opS trivial rfl (OpW.assign (v := Sl.v x3) rfl ?_)
 refine RL.nil ?_
 refine CW.seq ?_
 refine CW.region ?_
 refine RL.opS trivial rfl (OpW.move (v := Sl.v x3) rfl ?_)
 refine RL.opS trivial rfl (OpW.move (v := Sl.v p0) rfl ?_)
 obtain ⟨x4, w5, hr_, h⟩ := h
 refine RL.opS trivial rfl (OpW.copyL (v := .int .i64 x4) rfl hr_ ?_)
 refine RL.nil ?_
 refine CW.seq ?_
 refine CW.region ?_
 refine RL.opS trivial rfl (OpW.move (v := Sl.v x3) rfl ?_)
 refine RL.opS trivial rfl (OpW.buildL (vs := [(0, Sl.v x3)]) (cs := [Sl.v x3, Value.int .i64 0]) (by rfl) (fun _ => by kernel_rfl) ?_)
 obtain ⟨b6, hb6_⟩ : ∃ b_, b_ = w5.heap.size := ⟨_, rfl⟩
 obtain ⟨w7, hw7_⟩ : ∃ w_, w_ = w5.alloc (.cells (List.toArray [Sl.v x3, Value.int .i64 0]) 140) := ⟨_, rfl⟩
 have h := h b6 w7 hb6_ hw7_
 refine RL.opS trivial rfl (OpW.boxE (cs := [Sl.v x3, Value.int .i64 0]) (rfl) hb6_ hw7_ ?_)
 refine RL.opS trivial rfl (OpW.assign (v := .pointer (some ⟨b6, 0, none⟩)) rfl ?_)
 refine RL.nil ?_
 refine CW.ret ?_
 exact ret_intro (res1 rfl rfl) ⟨some ⟨b6, 0, none⟩, rfl, h⟩
end Go.Proofs.Ytagkcbbbdlmcjaa
end
section
/- The typed readings of the functions, and that the program meets each: written by gen.py (a program of this session). -/
namespace Go.Proofs.Ytagkcbbbdlmcjaa
open Go.Lift
set_option maxRecDepth 100000 in
set_option maxHeartbeats 4000000 in
theorem s73_calls (K : Int → World → Prop) (p0 : Option Addr) (w : World) (h : s73 K p0 w) :
  Calls Try.prog 73 #[.pointer p0] w (Ret r73 K) := by
 unfold s73 at h
 refine calls_of_CW (n := 70) Try.func73 rfl rfl rfl ?_
 refine CW.seq ?_
 refine CW.region ?_
 refine RL.opS trivial rfl (OpW.assign (v := .int .u64 0) rfl ?_)
 refine RL.nil ?_
 refine CW.seq ?_
 refine CW.seq ?_
 refine CW.region ?_
 refine RL.opS trivial rfl (OpW.move (v := .pointer p0) rfl ?_)
 refine RL.opS trivial rfl (OpW.callR (al := [.pointer p0]) Try.func75 fb_75 fn_75 rfl h (fun x1 w2 h => ?_))
 refine RL.opS trivial rfl (OpW.bin (k := .i64) (a := x1) (b := 0) (v := .bool (!decide (x1 = 0))) rfl rfl rfl ?_)
 refine RL.nil ?_
 obtain ⟨ha, hc⟩ := h
 refine CW.cond (b := (!decide (x1 = 0))) rfl (fun hb3 => ?_) (fun hb3 => ?_)
 ·have h := ha hb3; clear ha hc
  refine CW.seq ?_
  refine CW.region ?_
  refine RL.opS trivial rfl (OpW.assign (v := .int .u64 0) rfl ?_)
  refine RL.nil ?_
  refine CW.ret ?_
  exact ret_intro (res1 rfl rfl) ⟨0, rfl, h⟩
 ·have h := hc hb3; clear ha hc
  refine CW.skip ?_
  refine CW.seq ?_
  refine CW.region ?_
  refine RL.opS trivial rfl (OpW.assign (v := .int .u64 0) rfl ?_)
  refine RL.opS trivial rfl (OpW.assign (v := .int .i64 0) rfl ?_)
  refine RL.nil ?_
  refine CW.seq ?_
  refine CW.seq ?_
  refine CW.region ?_
  refine RL.opS trivial rfl (OpW.move (v := .int .i64 0) rfl ?_)
  refine RL.nil ?_
  refine CW.block ?_
  obtain ⟨I62, mu63, hI, hs⟩ := h
  refine CW.loop (σ := Int × Int × Int) (fun s4 ρ => ρ 3 = .int .u64 s4.1 ∧ ρ 4 = .int .i64 s4.2.1 ∧ ρ 10 = .int .i64 s4.2.2 ∧ ρ 0 = .pointer p0) I62 mu63 (0, 0, 0) ⟨rfl, rfl, rfl, rfl⟩ hI ?_
  rintro s4 ρ w5 ⟨e7, e8, e9, e10⟩ hI
  have h := hs s4 w5 hI
  clear hs hI
  refine CW.seq ?_
  refine CW.region ?_
  refine RL.opS trivial rfl (OpW.bin (k := .i64) (a := s4.2.2) (b := 10) (v := .bool (decide (s4.2.2 < 10))) e9 rfl rfl ?_)
  refine RL.nil ?_
  refine CW.seq ?_
  obtain ⟨ha, hc⟩ := h
  refine CW.cond (b := (decide (s4.2.2 < 10))) rfl (fun hb11 => ?_) (fun hb11 => ?_)
  ·have h := ha hb11; clear ha hc
   refine CW.skip ?_
   refine CW.seq ?_
   refine CW.block ?_
   refine CW.seq ?_
   refine CW.region ?_
   refine RL.opS trivial rfl (OpW.move (v := .int .i64 s4.2.2) e9 ?_)
   refine RL.opS trivial rfl (OpW.assign (v := .int .i64 s4.2.2) rfl ?_)
   refine RL.nil ?_
   refine CW.seq ?_
   refine CW.seq ?_
   refine CW.region ?_
   refine RL.opS trivial rfl (OpW.move (v := .int .i64 s4.2.2) rfl ?_)
   refine RL.opS trivial rfl (OpW.move (v := .pointer p0) e10 ?_)
   obtain ⟨a12, ha13, h⟩ := h
   refine RL.opS trivial rfl (OpW.nilCheck (a := a12) (congrArg Value.pointer ha13) ?_)
   refine RL.opS trivial rfl (OpW.fieldAddr (off := 0) field_140_0 rfl ?_)
   obtain ⟨x14, h1, h⟩ := h
   refine RL.opS trivial rfl (OpW.load1 (v := Sl.v x14) one_39 rfl h1 ?_)
   refine RL.opS trivial rfl (OpW.len (s := x14) slice_39 rfl ?_)
   refine RL.opS trivial rfl (OpW.bin (k := .i64) (a := s4.2.2) (b := (x14.len : Int)) (v := .bool (decide (s4.2.2 = (x14.len : Int)))) rfl rfl rfl ?_)
   refine RL.nil ?_
   obtain ⟨ha, hc⟩ := h
   refine CW.cond (b := (decide (s4.2.2 = (x14.len : Int)))) rfl (fun hb15 => ?_) (fun hb15 => ?_)
   ·have h := ha hb15; clear ha hc
    refine CW.seq ?_
    refine CW.region ?_
    refine RL.opS trivial rfl (OpW.move (v := .pointer p0) e10 ?_)
    refine RL.opS trivial rfl (OpW.callR (al := [.pointer p0, .int .i64 10]) Try.func85 fb_85 fn_85 rfl h (fun x16 w17 h => ?_))
    refine RL.opS trivial rfl (OpW.assign (v := .int .u64 x16) rfl ?_)
    refine RL.nil ?_
    refine CW.ret ?_
    exact ret_intro (res1 rfl rfl) ⟨x16, rfl, h⟩
   ·have h := hc hb15; clear ha hc
    refine CW.skip ?_
    refine CW.seq ?_
    refine CW.region ?_
    refine RL.opS trivial rfl (OpW.move (v := .pointer p0) e10 ?_)
    obtain ⟨a18, ha19, h⟩ := h
    refine RL.opS trivial rfl (OpW.nilCheck (a := a18) (congrArg Value.pointer ha19) ?_)
    refine RL.opS trivial rfl (OpW.fieldAddr (off := 0) field_140_0 rfl ?_)
    obtain ⟨x20, h1, h⟩ := h
    refine RL.opS trivial rfl (OpW.load1 (v := Sl.v x20) one_39 rfl h1 ?_)
    refine RL.opS trivial rfl (OpW.move (v := .int .i64 s4.2.2) rfl ?_)
    obtain ⟨a21_, a21, h1, h2, h3, h4, h⟩ := h
    refine RL.opS trivial rfl (OpW.indexE (a' := a21) slice_39 rfl rfl h1 h2 h3 h4 ?_)
    obtain ⟨x23, h1, h⟩ := h
    refine RL.opS trivial rfl (OpW.load1 (v := .int .u8 x23) one_5 rfl h1 ?_)
    refine RL.opS trivial rfl (OpW.assign (v := .int .u8 x23) rfl ?_)
    refine RL.nil ?_
    refine CW.seq ?_
    refine CW.seq ?_
    refine CW.region ?_
    refine RL.opS trivial rfl (OpW.move (v := .int .i64 s4.2.2) rfl ?_)
    refine RL.opS trivial rfl (OpW.bin (k := .i64) (a := s4.2.2) (b := 9) (v := .bool (decide (s4.2.2 = 9))) rfl rfl rfl ?_)
    refine RL.opS trivial rfl (OpW.move (v := .bool (decide (s4.2.2 = 9))) rfl ?_)
    refine jn_elim h ?_; clear h; intro k58 hk59 h
    refine RL.joinAt (A := Bool) 3 (fun s26 ρ => ρ 34 = .bool s26 ∧ ρ 0 = .pointer p0 ∧ ρ 3 = .int .u64 s4.1 ∧ ρ 4 = .int .i64 s4.2.1 ∧ ρ 5 = .int .i64 s4.2.2 ∧ ρ 6 = .int .u8 x23 ∧ ρ 10 = .int .i64 s4.2.2) k58 ?_ ?_
    ·rintro s26 ρ w27 ⟨e28, e29, e30, e31, e32, e33, e34⟩ h
     subst hk59
     dsimp only [List.drop]
     refine RL.nil ?_
     obtain ⟨ha, hc⟩ := h
     refine CW.cond (b := s26) e28 (fun hb35 => ?_) (fun hb35 => ?_)
     ·have h := ha hb35; clear ha hc
      refine CW.seq ?_
      refine CW.region ?_
      refine RL.opS trivial rfl (OpW.move (v := .pointer p0) e29 ?_)
      refine RL.opS trivial rfl (OpW.callR (al := [.pointer p0, .int .i64 7]) Try.func85 fb_85 fn_85 rfl h (fun x36 w37 h => ?_))
      refine RL.opS trivial rfl (OpW.assign (v := .int .u64 x36) rfl ?_)
      refine RL.nil ?_
      refine CW.ret ?_
      exact ret_intro (res1 rfl rfl) ⟨x36, rfl, h⟩
     ·have h := hc hb35; clear ha hc
      refine CW.skip ?_
      refine CW.seq ?_
      refine CW.region ?_
      refine RL.opS trivial rfl (OpW.move (v := .int .u64 s4.1) e30 ?_)
      refine RL.opS trivial rfl (OpW.move (v := .int .u8 x23) e33 ?_)
      refine RL.opS trivial rfl (OpW.quo (a := x23) (b := 128) (v := .int .u8 (Int.tmod x23 128)) rfl rfl (by decide) rfl ?_)
      refine RL.opS trivial rfl (OpW.convInt (a := (Int.tmod x23 128)) int_5 int_25 rfl ?_)
      refine RL.opS trivial rfl (OpW.move (v := .int .i64 s4.2.1) e31 ?_)
      obtain ⟨hq_, h⟩ := h
      refine RL.opS trivial rfl (OpW.shift (a := (IntKind.u64.wrap (Int.tmod x23 128))) (b := s4.2.1) (v := .int .u64 (shlI .u64 (IntKind.u64.wrap (Int.tmod x23 128)) s4.2.1)) rfl rfl hq_ rfl ?_)
      refine RL.opS trivial rfl (OpW.bin (k := .u64) (a := s4.1) (b := (shlI .u64 (IntKind.u64.wrap (Int.tmod x23 128)) s4.2.1)) (v := .int .u64 (orI .u64 s4.1 (shlI .u64 (IntKind.u64.wrap (Int.tmod x23 128)) s4.2.1))) rfl rfl rfl ?_)
      refine RL.opS trivial rfl (OpW.assign (v := .int .u64 (orI .u64 s4.1 (shlI .u64 (IntKind.u64.wrap (Int.tmod x23 128)) s4.2.1))) rfl ?_)
      refine RL.nil ?_
      refine CW.seq ?_
      refine CW.region ?_
      refine RL.opS trivial rfl (OpW.move (v := .int .i64 s4.2.1) e31 ?_)
      refine RL.opS trivial rfl (OpW.bin (k := .i64) (a := s4.2.1) (b := 7) (v := .int .i64 (IntKind.i64.wrap (s4.2.1 + 7))) rfl rfl rfl ?_)
      refine RL.opS trivial rfl (OpW.assign (v := .int .i64 (IntKind.i64.wrap (s4.2.1 + 7))) rfl ?_)
      refine RL.nil ?_
      refine CW.seq ?_
      refine CW.seq ?_
      refine CW.region ?_
      refine RL.opS trivial rfl (OpW.move (v := .int .u8 x23) e33 ?_)
      refine RL.opS trivial rfl (OpW.bin (k := .u8) (a := x23) (b := 128) (v := .bool (decide (128 ≤ x23))) rfl rfl rfl ?_)
      refine RL.nil ?_
      obtain ⟨ha, hc⟩ := h
      refine CW.cond (b := (decide (128 ≤ x23))) rfl (fun hb38 => ?_) (fun hb38 => ?_)
      ·have h := ha hb38; clear ha hc
       refine CW.exit ?_
       refine CW.region ?_
       refine RL.opS trivial rfl (OpW.bin (k := .i64) (a := s4.2.2) (b := 1) (v := .int .i64 (IntKind.i64.wrap (s4.2.2 + 1))) e34 rfl rfl ?_)
       refine RL.opS trivial rfl (OpW.move (v := .int .i64 (IntKind.i64.wrap (s4.2.2 + 1))) rfl ?_)
       refine RL.nil ?_
       exact ⟨((orI .u64 s4.1 (shlI .u64 (IntKind.u64.wrap (Int.tmod x23 128)) s4.2.1)), (IntKind.i64.wrap (s4.2.1 + 7)), (IntKind.i64.wrap (s4.2.2 + 1))), ⟨rfl, rfl, rfl, e29⟩, h⟩
      ·have h := hc hb38; clear ha hc
       refine CW.skip ?_
       refine CW.seq ?_
       refine CW.seq ?_
       refine CW.region ?_
       refine RL.opS trivial rfl (OpW.move (v := .int .u8 x23) e33 ?_)
       refine RL.opS trivial rfl (OpW.bin (k := .u8) (a := x23) (b := 0) (v := .bool (decide (x23 = 0))) rfl rfl rfl ?_)
       refine RL.opS trivial rfl (OpW.move (v := .bool (decide (x23 = 0))) rfl ?_)
       refine jn_elim h ?_; clear h; intro k56 hk57 h
       refine RL.joinAt (A := Bool) 3 (fun s41 ρ => ρ 53 = .bool s41 ∧ ρ 0 = .pointer p0 ∧ ρ 3 = .int .u64 (orI .u64 s4.1 (shlI .u64 (IntKind.u64.wrap (Int.tmod x23 128)) s4.2.1)) ∧ ρ 5 = .int .i64 s4.2.2) k56 ?_ ?_
       ·rintro s41 ρ w42 ⟨e43, e44, e45, e46⟩ h
        subst hk57
        dsimp only [List.drop]
        refine RL.nil ?_
        obtain ⟨ha, hc⟩ := h
        refine CW.cond (b := s41) e43 (fun hb47 => ?_) (fun hb47 => ?_)
        ·have h := ha hb47; clear ha hc
         refine CW.seq ?_
         refine CW.region ?_
         refine RL.opS trivial rfl (OpW.move (v := .pointer p0) e44 ?_)
         refine RL.opS trivial rfl (OpW.callR (al := [.pointer p0, .int .i64 7]) Try.func85 fb_85 fn_85 rfl h (fun x48 w49 h => ?_))
         refine RL.opS trivial rfl (OpW.assign (v := .int .u64 x48) rfl ?_)
         refine RL.nil ?_
         refine CW.ret ?_
         exact ret_intro (res1 rfl rfl) ⟨x48, rfl, h⟩
        ·have h := hc hb47; clear ha hc
         refine CW.skip ?_
         refine CW.seq ?_
         refine CW.region ?_
         refine RL.opS trivial rfl (OpW.move (v := .pointer p0) e44 ?_)
         refine RL.opS trivial rfl (OpW.move (v := .pointer p0) e44 ?_)
         obtain ⟨a50, ha51, h⟩ := h
         refine RL.opS trivial rfl (OpW.nilCheck (a := a50) (congrArg Value.pointer ha51) ?_)
         refine RL.opS trivial rfl (OpW.fieldAddr (off := 0) field_140_0 rfl ?_)
         obtain ⟨x52, h1, h⟩ := h
         refine RL.opS trivial rfl (OpW.load1 (v := Sl.v x52) one_39 rfl h1 ?_)
         refine RL.opS trivial rfl (OpW.move (v := .int .i64 s4.2.2) e46 ?_)
         refine RL.opS trivial rfl (OpW.bin (k := .i64) (a := s4.2.2) (b := 1) (v := .int .i64 (IntKind.i64.wrap (s4.2.2 + 1))) rfl rfl rfl ?_)
         obtain ⟨⟨h1, h2⟩, h⟩ := h
         refine RL.opS trivial rfl (OpW.sliceSl (l := (IntKind.i64.wrap (s4.2.2 + 1))) (h := (x52.len : Int)) slice_39 rfl ⟨_, rfl⟩ rfl h1 h2 (.inl rfl) ?_)
         obtain ⟨a53, ha54, h⟩ := h
         refine RL.opS trivial rfl (OpW.nilCheck (a := a53) (congrArg Value.pointer ha54) ?_)
         refine RL.opS trivial rfl (OpW.fieldAddr (off := 0) field_140_0 rfl ?_)
         obtain ⟨u_, h1, h2, h⟩ := h
         obtain ⟨w55, hw55_⟩ : ∃ w_, w_ = w42.setCell (Addr.add a53 0) (Sl.v (x52.cut 1 (IntKind.i64.wrap (s4.2.2 + 1)) (x52.len : Int) x52.cap)) := ⟨_, rfl⟩
         have h := h w55 hw55_
         refine RL.opN trivial (OpW.store1E (v := Sl.v (x52.cut 1 (IntKind.i64.wrap (s4.2.2 + 1)) (x52.len : Int) x52.cap)) size_39 rfl rfl rfl h1 h2 hw55_ ?_)
         refine RL.nil ?_
         refine CW.seq ?_
         refine CW.region ?_
         refine RL.opS trivial rfl (OpW.move (v := .int .u64 (orI .u64 s4.1 (shlI .u64 (IntKind.u64.wrap (Int.tmod x23 128)) s4.2.1))) e45 ?_)
         refine RL.opS trivial rfl (OpW.assign (v := .int .u64 (orI .u64 s4.1 (shlI .u64 (IntKind.u64.wrap (Int.tmod x23 128)) s4.2.1))) rfl ?_)
         refine RL.nil ?_
         refine CW.ret ?_
         exact ret_intro (res1 rfl rfl) ⟨(orI .u64 s4.1 (shlI .u64 (IntKind.u64.wrap (Int.tmod x23 128)) s4.2.1)), rfl, h⟩
       ·clear hk57
        dsimp only [List.take]
        obtain ⟨ha, hc⟩ := h
        rcases Bool.eq_false_or_eq_true (decide (x23 = 0)) with hb39 | hb39
        ·have h := ha hb39; clear ha hc
         refine RL.opS (wanted_of rfl rfl hb39) rfl (OpW.move (v := .int .i64 s4.2.2) e32 ?_)
         refine RL.opS (wanted_of rfl rfl hb39) rfl (OpW.bin (k := .i64) (a := s4.2.2) (b := 0) (v := .bool (decide (0 < s4.2.2))) rfl rfl rfl ?_)
         refine RL.opS trivial rfl (OpW.pick (b := true) (v := .bool (decide (0 < s4.2.2))) (congrArg Value.bool hb39) rfl ?_)
         refine RL.nil ?_
         exact ⟨(decide (0 < s4.2.2)), ⟨rfl, e29, rfl, e32⟩, h⟩
        ·have h := hc hb39; clear ha hc
         refine RL.skipS (notWanted_of rfl rfl hb39) rfl ?_
         refine RL.skipS (notWanted_of rfl rfl hb39) rfl ?_
         refine RL.opS trivial rfl (OpW.pick (b := false) (v := .bool false) (congrArg Value.bool hb39) rfl ?_)
         refine RL.nil ?_
         exact ⟨false, ⟨rfl, e29, rfl, e32⟩, h⟩
    ·clear hk59
     dsimp only [List.take]
     obtain ⟨ha, hc⟩ := h
     rcases Bool.eq_false_or_eq_true (decide (s4.2.2 = 9)) with hb24 | hb24
     ·have h := ha hb24; clear ha hc
      refine RL.opS (wanted_of rfl rfl hb24) rfl (OpW.move (v := .int .u8 x23) rfl ?_)
      refine RL.opS (wanted_of rfl rfl hb24) rfl (OpW.bin (k := .u8) (a := x23) (b := 1) (v := .bool (decide (1 < x23))) rfl rfl rfl ?_)
      refine RL.opS trivial rfl (OpW.pick (b := true) (v := .bool (decide (1 < x23))) (congrArg Value.bool hb24) rfl ?_)
      refine RL.nil ?_
      exact ⟨(decide (1 < x23)), ⟨rfl, e10, e7, e8, rfl, rfl, e9⟩, h⟩
     ·have h := hc hb24; clear ha hc
      refine RL.skipS (notWanted_of rfl rfl hb24) rfl ?_
      refine RL.skipS (notWanted_of rfl rfl hb24) rfl ?_
      refine RL.opS trivial rfl (OpW.pick (b := false) (v := .bool false) (congrArg Value.bool hb24) rfl ?_)
      refine RL.nil ?_
      exact ⟨false, ⟨rfl, e10, e7, e8, rfl, rfl, e9⟩, h⟩
  ·have h := hc hb11; clear ha hc
   refine CW.exit ?_
   refine CW.seq ?_
   refine CW.region ?_
   refine RL.opS trivial rfl (OpW.move (v := .pointer p0) e10 ?_)
   refine RL.opS trivial rfl (OpW.callR (al := [.pointer p0, .int .i64 7]) Try.func85 fb_85 fn_85 rfl h (fun x60 w61 h => ?_))
   refine RL.opS trivial rfl (OpW.assign (v := .int .u64 x60) rfl ?_)
   refine RL.nil ?_
   refine CW.ret ?_
   exact ret_intro (res1 rfl rfl) ⟨x60, rfl, h⟩
end Go.Proofs.Ytagkcbbbdlmcjaa
end
section
/- The typed readings of the functions, and that the program meets each: written by gen.py (a program of this session). -/
namespace Go.Proofs.Ytagkcbbbdlmcjaa
open Go.Lift
set_option maxRecDepth 100000 in
set_option maxHeartbeats 4000000 in
theorem s74_calls (K : Int → World → Prop) (p0 : Option Addr) (w : World) (h : s74 K p0 w) :
  Calls Try.prog 74 #[.pointer p0] w (Ret r74 K) := by
 unfold s74 at h
 refine calls_of_CW (n := 10) Try.func74 rfl rfl rfl ?_
 refine CW.seq ?_
 refine CW.region ?_
 refine RL.opS trivial rfl (OpW.assign (v := .int .i64 0) rfl ?_)
 refine RL.nil ?_
 refine CW.seq ?_
 refine CW.seq ?_
 refine CW.region ?_
 refine RL.opS trivial rfl (OpW.move (v := .pointer p0) rfl ?_)
 refine RL.opS trivial rfl (OpW.ptrNil (b := p0.isNone) (p := p0) ptr_126 rfl rfl rfl ?_)
 refine RL.nil ?_
 obtain ⟨ha, hc⟩ := h
 refine CW.cond (b := (p0.isNone)) rfl (fun hb1 => ?_) (fun hb1 => ?_)
 ·have h := ha hb1; clear ha hc
  refine CW.seq ?_
  refine CW.region ?_
  refine RL.opS trivial rfl (OpW.assign (v := .int .i64 0) rfl ?_)
  refine RL.nil ?_
  refine CW.ret ?_
  exact ret_intro (res1 rfl rfl) ⟨0, rfl, h⟩
 ·have h := hc hb1; clear ha hc
  refine CW.skip ?_
  refine CW.seq ?_
  refine CW.region ?_
  refine RL.opS trivial rfl (OpW.move (v := .pointer p0) rfl ?_)
  obtain ⟨a2, ha3, h⟩ := h
  refine RL.opS trivial rfl (OpW.nilCheck (a := a2) (congrArg Value.pointer ha3) ?_)
  refine RL.opS trivial rfl (OpW.fieldAddr (off := 0) field_140_0 rfl ?_)
  obtain ⟨x4, h1, h⟩ := h
  refine RL.opS trivial rfl (OpW.load1 (v := Sl.v x4) one_39 rfl h1 ?_)
  refine RL.opS trivial rfl (OpW.len (s := x4) slice_39 rfl ?_)
  refine RL.opS trivial rfl (OpW.assign (v := .int .i64 (x4.len : Int)) rfl ?_)
  refine RL.nil ?_
  refine CW.ret ?_
  exact ret_intro (res1 rfl rfl) ⟨(x4.len : Int), rfl, h⟩
end Go.Proofs.Ytagkcbbbdlmcjaa
end
section
/- The typed readings of the functions, and that the program meets each: written by gen.py (a program of this session). -/
namespace Go.Proofs.Ytagkcbbbdlmcjaa
open Go.Lift
set_option maxRecDepth 100000 in
set_option maxHeartbeats 4000000 in
theorem s75_calls (K : Int → World → Prop) (p0 : Option Addr) (w : World) (h : s75 K p0 w) :
  Calls Try.prog 75 #[.pointer p0] w (Ret r75 K) := by
 unfold s75 at h
 refine calls_of_CW (n := 9) Try.func75 rfl rfl rfl ?_
 refine CW.seq ?_
 refine CW.region ?_
 refine RL.opS trivial rfl (OpW.assign (v := .int .i64 0) rfl ?_)
 refine RL.nil ?_
 refine CW.seq ?_
 refine CW.seq ?_
 refine CW.region ?_
 refine RL.opS trivial rfl (OpW.move (v := .pointer p0) rfl ?_)
 refine RL.opS trivial rfl (OpW.ptrNil (b := p0.isNone) (p := p0) ptr_126 rfl rfl rfl ?_)
 refine RL.nil ?_
 obtain ⟨ha, hc⟩ := h
 refine CW.cond (b := (p0.isNone)) rfl (fun hb1 => ?_) (fun hb1 => ?_)
 ·have h := ha hb1; clear ha hc
  refine CW.seq ?_
  refine CW.region ?_
  refine RL.opS trivial rfl (OpW.assign (v := .int .i64 1) rfl ?_)
  refine RL.nil ?_
  refine CW.ret ?_
  exact ret_intro (res1 rfl rfl) ⟨1, rfl, h⟩
 ·have h := hc hb1; clear ha hc
  refine CW.skip ?_
  refine CW.seq ?_
  refine CW.region ?_
  refine RL.opS trivial rfl (OpW.move (v := .pointer p0) rfl ?_)
  obtain ⟨a2, ha3, h⟩ := h
  refine RL.opS trivial rfl (OpW.nilCheck (a := a2) (congrArg Value.pointer ha3) ?_)
  refine RL.opS trivial rfl (OpW.fieldAddr field_140_1 rfl ?_)
  obtain ⟨x4, h1, h⟩ := h
  refine RL.opS trivial rfl (OpW.load1 (v := .int .i64 x4) one_32 rfl h1 ?_)
  refine RL.opS trivial rfl (OpW.assign (v := .int .i64 x4) rfl ?_)
  refine RL.nil ?_
  refine CW.ret ?_
  exact ret_intro (res1 rfl rfl) ⟨x4, rfl, h⟩
end Go.Proofs.Ytagkcbbbdlmcjaa
end
section
/- The typed readings of the functions, and that the program meets each: written by gen.py (a program of this session). -/
namespace Go.Proofs.Ytagkcbbbdlmcjaa
open Go.Lift
set_option maxRecDepth 100000 in
set_option maxHeartbeats 4000000 in
theorem s78_calls (K : Sl → World → Prop) (p0 : Int) (w : World) (h : s78 K p0 w) :
  Calls Try.prog 78 #[.int .u64 p0] w (Ret r78 K) := by
 unfold s78 at h
 refine calls_of_CW (n := 20) Try.func78 rfl rfl rfl ?_
 refine CW.seq ?_
 refine CW.region ?_
 refine RL.opS trivial rfl (OpW.assign (v := Sl.v nilSl) rfl ?_)
 refine RL.nil ?_
 refine CW.seq ?_
 refine CW.region ?_
 refine RL.opS trivial rfl (OpW.assign (v := Sl.v nilSl) rfl ?_)
 refine RL.nil ?_
 refine CW.seq ?_
 refine CW.block ?_
 obtain ⟨I15, mu16, hI, hs⟩ := h
 refine CW.loop (σ := Int × Sl) (fun s1 ρ => ρ 0 = .int .u64 s1.1 ∧ ρ 3 = Sl.v s1.2) I15 mu16 (p0, nilSl) ⟨rfl, rfl⟩ hI ?_
 rintro s1 ρ w2 ⟨e4, e5⟩ hI
 have h := hs s1 w2 hI
 clear hs hI
 refine CW.seq ?_
 refine CW.seq ?_
 refine CW.region ?_
 refine RL.opS trivial rfl (OpW.move (v := .int .u64 s1.1) e4 ?_)
 refine RL.opS trivial rfl (OpW.bin (k := .u64) (a := s1.1) (b := 128) (v := .bool (decide (128 ≤ s1.1))) rfl rfl rfl ?_)
 refine RL.nil ?_
 obtain ⟨ha, hc⟩ := h
 refine CW.cond (b := (decide (128 ≤ s1.1))) rfl (fun hb6 => ?_) (fun hb6 => ?_)
 ·have h := ha hb6; clear ha hc
  refine CW.skip ?_
  refine CW.block ?_
  refine CW.seq ?_
  refine CW.region ?_
  refine RL.opS trivial rfl (OpW.move (v := Sl.v s1.2) e5 ?_)
  refine RL.opS trivial rfl (OpW.move (v := .int .u64 s1.1) e4 ?_)
  refine RL.opS trivial rfl (OpW.quo (a := s1.1) (b := 128) (v := .int .u64 (Int.tmod s1.1 128)) rfl rfl (by decide) rfl ?_)
  refine RL.opS trivial rfl (OpW.convInt (a := (Int.tmod s1.1 128)) int_25 int_5 rfl ?_)
  refine RL.opS trivial rfl (OpW.bin (k := .u8) (a := (IntKind.u8.wrap (Int.tmod s1.1 128))) (b := 128) (v := .int .u8 (IntKind.u8.wrap ((IntKind.u8.wrap (Int.tmod s1.1 128)) + 128))) rfl rfl rfl ?_)
  obtain ⟨b7, hb7_⟩ : ∃ b_, b_ = w2.heap.size := ⟨_, rfl⟩
  obtain ⟨w8, hw8_⟩ : ∃ w_, w_ = w2.alloc (.cells (List.toArray [.int .u8 (IntKind.u8.wrap ((IntKind.u8.wrap (Int.tmod s1.1 128)) + 128))]) 5) := ⟨_, rfl⟩
  have h := h b7 w8 hb7_ hw8_
  refine RL.opS trivial rfl (OpW.buildSliceE (vs := [(0, .int .u8 (IntKind.u8.wrap ((IntKind.u8.wrap (Int.tmod s1.1 128)) + 128)))]) (cs := [.int .u8 (IntKind.u8.wrap ((IntKind.u8.wrap (Int.tmod s1.1 128)) + 128))]) (by rfl) (by kernel_rfl) hb7_ hw8_ ?_)
  obtain ⟨x9, w10, hr_, h⟩ := h
  refine RL.opS trivial rfl (OpW.appendL (v := Sl.v x9) rfl hr_ ?_)
  refine RL.opS trivial rfl (OpW.assign (v := Sl.v x9) rfl ?_)
  refine RL.nil ?_
  refine CW.region ?_
  refine RL.opS trivial rfl (OpW.move (v := .int .u64 s1.1) e4 ?_)
  refine RL.opS trivial rfl (OpW.quo (a := s1.1) (b := 128) (v := .int .u64 (IntKind.u64.wrap (Int.tdiv s1.1 128))) rfl rfl (by decide) rfl ?_)
  refine RL.opS trivial rfl (OpW.assign (v := .int .u64 (IntKind.u64.wrap (Int.tdiv s1.1 128))) rfl ?_)
  refine RL.nil ?_
  exact ⟨((IntKind.u64.wrap (Int.tdiv s1.1 128)), x9), ⟨rfl, rfl⟩, h⟩
 ·have h := hc hb6; clear ha hc
  refine CW.exit ?_
  refine CW.seq ?_
  refine CW.region ?_
  refine RL.opS trivial rfl (OpW.move (v := Sl.v s1.2) e5 ?_)
  refine RL.opS trivial rfl (OpW.move (v := .int .u64 s1.1) e4 ?_)
  refine RL.opS trivial rfl (OpW.convInt (a := s1.1) int_25 int_5 rfl ?_)
  obtain ⟨b11, hb11_⟩ : ∃ b_, b_ = w2.heap.size := ⟨_, rfl⟩
  obtain ⟨w12, hw12_⟩ : ∃ w_, w_ = w2.alloc (.cells (List.toArray [.int .u8 (IntKind.u8.wrap s1.1)]) 5) := ⟨_, rfl⟩
  have h := h b11 w12 hb11_ hw12_
  refine RL.opS trivial rfl (OpW.buildSliceE (vs := [(0, .int .u8 (IntKind.u8.wrap s1.1))]) (cs := [.int .u8 (IntKind.u8.wrap s1.1)]) (by rfl) (by kernel_rfl) hb11_ hw12_ ?_)
  obtain ⟨x13, w14, hr_, h⟩ := h
  refine RL.opS trivial rfl (OpW.appendL (v := Sl.v x13) rfl hr_ ?_)
  refine RL.opS trivial rfl (OpW.assign (v := Sl.v x13) rfl ?_)
  refine RL.nil ?_
  refine CW.ret ?_
  exact ret_intro (res1 rfl rfl) ⟨x13, rfl, h⟩
end Go.Proofs.Ytagkcbbbdlmcjaa
end
section
/- The typed readings of the functions, and that the program meets each: written by gen.py (a program of this session). -/
namespace Go.Proofs.Ytagkcbbbdlmcjaa
open Go.Lift
set_option maxRecDepth 100000 in
set_option maxHeartbeats 4000000 in
theorem s85_calls (K : Int → World → Prop) (p0 : Option Addr) (p1 : Int) (w : World) (h : s85 K p0 p1 w) :
  Calls Try.prog 85 #[.pointer p0, .int .i64 p1] w (Ret r85 K) := by
 unfold s85 at h
 refine calls_of_CW (n := 9) Try.func85 rfl rfl rfl ?_
 refine CW.seq ?_
 refine CW.region ?_
 refine RL.opS trivial rfl (OpW.assign (v := .int .u64 0) rfl ?_)
 refine RL.nil ?_
 refine CW.seq ?_
 refine CW.region ?_
 refine RL.opS trivial rfl (OpW.move (v := .pointer p0) rfl ?_)
 refine RL.opS trivial rfl (OpW.move (v := .int .i64 p1) rfl ?_)
 obtain ⟨a1, ha2, h⟩ := h
 refine RL.opS trivial rfl (OpW.nilCheck (a := a1) (congrArg Value.pointer ha2) ?_)
 refine RL.opS trivial rfl (OpW.fieldAddr field_140_1 rfl ?_)
 obtain ⟨u_, h1, h2, h⟩ := h
 obtain ⟨w3, hw3_⟩ : ∃ w_, w_ = w.setCell (Addr.add a1 1) (.int .i64 p1) := ⟨_, rfl⟩
 have h := h w3 hw3_
 refine RL.opN trivial (OpW.store1E (v := .int .i64 p1) size_32 rfl rfl rfl h1 h2 hw3_ ?_)
 refine RL.nil ?_
 refine CW.seq ?_
 refine CW.region ?_
 refine RL.opS trivial rfl (OpW.assign (v := .int .u64 0) rfl ?_)
 refine RL.nil ?_
 refine CW.ret ?_
 exact ret_intro (res1 rfl rfl) ⟨0, rfl, h⟩
end Go.Proofs.Ytagkcbbbdlmcjaa
end
section
/- What the journal's functions on records do: numbers, frames, the reader, what is parsed. -/
namespace Go.Proofs.Ytagkcbbbdlmcjaa
open Go.Lift Go.Lift.Disk Go.Lift.Crc Go.Lift.Wal Go.RowKit
theorem numByte (n : Nat) : IntKind.u8.wrap (IntKind.u8.wrap (Int.tmod (n : Int) 128) + 128) = ((UInt8.ofNat (n % 128 + 128)).toNat : Int) := by
 rw [Int.tmod_eq_emod_of_nonneg (by omega), wu8_eq (x := (n : Int) % 128) (by omega) (by omega)]
 have : (n : Int) % 128 + 128 = ((n % 128 + 128 : Nat) : Int) := by omega
 rw [this, u8n]
theorem num_ok (w : World) (n : Nat) (hn : n < 18446744073709551616) : Calls Try.prog 78 #[.int .u64 (n : Int)] w (Ret r78 fun x w' => Own w' w.heap.size 5 1 x (u8s (numB n)) ∧ Ext w w') := by
 apply s78_calls
 refine ⟨fun st w' => ∃ (m : Nat) (pre : List UInt8), m ≤ n ∧ st.1 = (m : Int) ∧ pre ++ numB m = numB n ∧ Own w' w.heap.size 5 1 st.2 (u8s pre) ∧ Ext w w', fun st _ => st.1.toNat, ⟨n, [], Nat.le_refl _, rfl, rfl, Own.nil _ _ _ _, Ext.refl _⟩, ?_⟩
 rintro ⟨st, s⟩ w2 ⟨m, pre, hm, rfl, hpre, ho, hx⟩
 simp only at ho ⊢
 have hol := ho.length
 rw [u8s_length] at hol
 have hnl := (numB_len n hn).2
 have hml := (numB_len m (by omega)).1
 have hpl : pre.length + (numB m).length ≤ 10 := by rw [← List.length_append, hpre]; exact hnl
 refine ⟨fun hge => ?_, fun hlt => ?_⟩
 ·have hge : 128 ≤ m := by have := of_decide_eq_true hge; omega
  intro b7 w8 hb7 hw8
  have hx8 : Ext w2 w8 := Ext.new hw8
  rw [numByte] at hw8
  refine app_ok (base := w.heap.size) mk_39 rfl (by decide) (ho.ext hx8) (news := u8s [UInt8.ofNat (m % 128 + 128)]) rfl (At.new hb7 hw8) (u8s_one _) (by simp only [maxLen]; omega) (by first | omega | (simp only; omega)) (hx.trans hx8).size ?_
  intro s' w' hl' ho' _ hB'
  have e : IntKind.u64.wrap (Int.tdiv (m : Int) 128) = ((m / 128 : Nat) : Int) := by
   rw [Int.tdiv_eq_ediv_of_nonneg (by omega), wu64_eq (by omega) (by omega)]; omega
  rw [e]
  refine ⟨⟨m / 128, pre ++ [UInt8.ofNat (m % 128 + 128)], by omega, rfl, ?_, by rw [u8s_append]; exact ho', hB' _ _ (hx.trans hx8) (Nat.le_refl _) (hx.trans hx8).size⟩, by omega⟩
  rw [← hpre]
  conv => rhs; rw [numB]
  rw [if_neg (by omega), List.append_assoc]
  rfl
 ·have hlt : m < 128 := by have := of_decide_eq_false hlt; omega
  intro b7 w8 hb7 hw8
  have hx8 : Ext w2 w8 := Ext.new hw8
  rw [u8n] at hw8
  refine app_ok (base := w.heap.size) mk_39 rfl (by decide) (ho.ext hx8) (news := u8s [UInt8.ofNat m]) rfl (At.new hb7 hw8) (u8s_one _) (by simp only [maxLen]; omega) (by first | omega | (simp only; omega)) (hx.trans hx8).size ?_
  intro s' w' hl' ho' _ hB'
  refine ⟨?_, hB' _ _ (hx.trans hx8) (Nat.le_refl _) (hx.trans hx8).size⟩
  rw [← hpre]
  conv => arg 6; rw [numB, if_pos hlt, u8s_append]
  exact ho'
theorem frame_ok (w : World) (p : Sl) (bs : List UInt8) (hp : Bytes w p bs) (hl : bs.length ≤ 1000000000) :
  Calls Try.prog 54 #[p.v] w (Ret r54 fun x w' => Own w' w.heap.size 5 1 x (u8s (frameB bs)) ∧ Ext w w') := by
 apply s54_calls
 intro b1 w2 hb1 hw2
 have hx2 : Ext w w2 := Ext.new hw2
 refine cR_of (sum_ok w2 _ [bs] (parts_one hb1 hw2 hp) (by simp [maxLen]) (by simp [maxLen]; omega)) ?_
 rintro x w3 ⟨rfl, rfl⟩
 simp only [List.flatten_cons, List.flatten_nil, List.append_nil]
 have hplen := hp.1
 have e0 : IntKind.u64.wrap ((p.len : Nat) : Int) = ((bs.length : Nat) : Int) := by rw [wu64_eq (by omega) (by omega)]; omega
 rw [e0]
 have hN := (numB_len bs.length (by omega)).2
 refine cR_of (num_ok w3 bs.length (by omega)) ?_
 rintro x5 w6 ⟨ho5, hx6⟩
 have hx6' := hx2.trans hx6
 refine ⟨fun st w' => ∃ i : Nat, i ≤ 4 ∧ st.2.2 = (i : Int) ∧ st.1 = ((crc bs >>> (8 * i)).toNat : Int) ∧ Own w' w.heap.size 5 1 st.2.1 (u8s (numB bs.length ++ (le4 (crc bs)).take i)) ∧ Ext w w', fun st _ => 4 - st.2.2.toNat, ⟨0, by omega, rfl, by simp, by rw [List.take_zero, List.append_nil]; exact Own.lower ho5 hx2.size, hx6'⟩, ?_⟩
 rintro ⟨s, sl, n⟩ w9 ⟨i, hi, rfl, rfl, ho, hx⟩
 simp only at ho ⊢
 have hol := ho.length
 simp only [u8s_length, List.length_append, List.length_take, le4_len] at hol
 refine ⟨fun hlt => ?_, fun hge => ?_⟩
 ·have hlt : i < 4 := by have := of_decide_eq_true hlt; omega
  intro b16 w17 hb16 hw17
  have hx17 : Ext w9 w17 := Ext.new hw17
  rw [low8] at hw17
  refine app_ok (base := w.heap.size) mk_39 rfl (by decide) (ho.ext hx17) (news := u8s [⟨(crc bs >>> (8 * i)).setWidth 8⟩]) rfl (At.new hb16 hw17) (u8s_one _) (by simp only [maxLen]; omega) (by first | omega | (simp only; omega)) (Nat.le_trans hx.size hx17.size) ?_
  intro s' w' hl' ho' _ hB'
  refine ⟨⟨i + 1, by omega, ?_, ?_, ?_, hB' _ _ (hx.trans hx17) (Nat.le_refl _) (Nat.le_trans hx.size hx17.size)⟩, ?_⟩
  ·rw [w64_eq (by omega) (by omega)]; omega
  ·exact shrI_8 _ i hlt
  ·rw [le4_get _ i hlt, ← List.append_assoc, u8s_append]; exact ho'
  ·rw [w64_eq (by omega) (by omega)]; omega
 ·have hge : i = 4 := by have := of_decide_eq_false hge; omega
  subst hge
  have e4 : (le4 (crc bs)).take 4 = le4 (crc bs) := List.take_of_length_le (by simp [le4_len])
  rw [e4] at ho
  refine app_ok (base := w.heap.size) mk_39 rfl (by decide) ho (news := u8s bs) (by rw [u8s_length]; omega) (hp.ext hx).2 (u8s_one _) (by simp only [maxLen]; omega) (by first | omega | (simp only; omega)) hx.size ?_
  intro s' w' hl' ho' _ hB'
  refine ⟨?_, hB' _ _ hx (Nat.le_refl _) hx.size⟩
  rw [frameB, ← List.append_assoc, u8s_append]
  exact ho'

/-! ### the reader -/
/-- a reader: what is left, and its error -/
structure RdAt (w : World) (g : Nat) (b : List UInt8) (e : Int) : Prop where
 ex : ∃ s : Sl, Blk w g 140 [s.v, .int .i64 e] ∧ Bytes w s b ∧ s.len ≤ s.cap ∧ ∀ a, s.a = some a → a.block ≠ g
theorem read72_ok (w : World) (p : Sl) (b : List UInt8) (hp : Bytes w p b) (hn : p.a = none → p.len = 0 ∧ p.cap = 0) (hl : b.length ≤ 1000000000) :
  Calls Try.prog 72 #[p.v] w (Ret r72 fun x w' => ∃ g, x = some ⟨g, 0, none⟩ ∧ w.heap.size ≤ g ∧ RdAt w' g b 0 ∧ Ext w w') := by
 apply s72_calls
 have hpl := hp.1
 refine ⟨by omega, by omega, by omega, by omega, fun b3 w3 hb3 hw3 => ?_⟩
 have hx3 : Ext w w3 := Ext.new hw3
 rw [Int.toNat_natCast, zeros_u8'] at hw3
 have hB3 : Blk w3 b3 5 (u8s (List.replicate (p.len * 1) 0)) := Blk.new hb3 hw3
 have hp3 := hp.ext hx3
 rw [Int.toNat_natCast]
 refine cpy_blk (g := b3) (o := 0) (dLen := p.len) (dCap := p.len) (s := p) (cs := u8s b) mk_39 hB3 (by rw [u8s_len]; omega) hp3.2 (by rw [u8s_len, u8s_len, List.length_replicate]; omega) (u8s_one _) hn fun w5 hB5 hf5 => ?_
 have hsp : splice (u8s (List.replicate (p.len * 1) 0)) 0 (u8s b) = u8s b := by
  unfold splice
  rw [List.take_zero, List.nil_append, List.drop_of_length_le (by rw [u8s_len, u8s_len, List.length_replicate]; omega), List.append_nil]
 rw [hsp] at hB5
 have hx5 : Ext w w5 := hf5.ext hx3 fun k _ e => by rw [e, hb3]; exact Nat.le_refl _
 intro b6 w7 hb6 hw7
 have hx7 : Ext w5 w7 := Ext.new hw7
 refine ⟨b6, rfl, by rw [hb6]; exact hx5.size, ⟨_, Blk.new hb6 hw7, ⟨by show b.length = p.len; omega, ?_⟩, Nat.le_refl _, ?_⟩, hx5.trans hx7⟩
 ·exact (hB5.ext hx7).at (by rw [List.drop_zero, List.take_length])
 ·intro a ha
  cases ha
  have := hB5.lt
  show b3 ≠ b6
  omega
section
variable {w : World} {g : Nat} {b : List UInt8} {e : Int}
theorem left_ok (h : RdAt w g b e) : Calls Try.prog 74 #[.pointer (some ⟨g, 0, none⟩)] w (Ret r74 fun x w' => x = (b.length : Int) ∧ w = w') := by
 obtain ⟨s, hB, hb, _⟩ := h.ex
 apply s74_calls
 refine ⟨fun h => absurd h (by simp), fun _ => ?_⟩
 exact ⟨_, rfl, s, by rw [add_plain]; exact hB.cell rfl, by rw [hb.1], rfl⟩
theorem err_ok (h : RdAt w g b e) : Calls Try.prog 75 #[.pointer (some ⟨g, 0, none⟩)] w (Ret r75 fun x w' => x = e ∧ w = w') := by
 obtain ⟨s, hB, hb, _⟩ := h.ex
 apply s75_calls
 refine ⟨fun h => absurd h (by simp), fun _ => ?_⟩
 exact ⟨_, rfl, e, by rw [add_plain]; exact hB.cell rfl, rfl, rfl⟩
theorem RdAt.lt (h : RdAt w g b e) : g < w.heap.size := by
 obtain ⟨s, hB, _⟩ := h.ex
 exact hB.lt
theorem fail_ok (h : RdAt w g b e) (e' : Int) : Calls Try.prog 85 #[.pointer (some ⟨g, 0, none⟩), .int .i64 e'] w (Ret r85 fun x w' => x = 0 ∧ RdAt w' g b e' ∧ Fr (· = g) w w') := by
 obtain ⟨s, hB, hb, hc, hne⟩ := h.ex
 apply s85_calls
 refine ⟨_, rfl, ?_⟩
 show st1 _ _ _ _
 rw [add_plain]
 refine st1_blk hB (by simp) fun w' hB' hf' => ?_
 exact ⟨rfl, ⟨s, hB', hf'.bytes (fun a ha => hne a ha) hb, hc, hne⟩, hf'⟩
theorem numRd_ok (h : RdAt w g b 0) (hl : b.length ≤ 1000000000) : Calls Try.prog 73 #[.pointer (some ⟨g, 0, none⟩)] w (Ret r73 fun x w' => Fr (· = g) w w' ∧
  ((takeNum b = none ∧ ∃ e, e ≠ 0 ∧ RdAt w' g b e) ∨ ∃ n rest, takeNum b = some (n, rest) ∧ x = (n : Int) ∧ n < 18446744073709551616 ∧ RdAt w' g rest 0)) := by
 apply s73_calls
 refine cR_of (err_ok h) ?_
 rintro x1 w2 ⟨rfl, rfl⟩
 refine ⟨fun h => absurd h (by simp), fun _ => ?_⟩
 obtain ⟨s, hB, hb, hc, hne⟩ := h.ex
 have hbl := hb.1
 refine ⟨fun st w' => w = w' ∧ ∃ (i acc : Nat), i ≤ 9 ∧ i ≤ b.length ∧ st.2.2 = (i : Int) ∧ st.2.1 = ((7 * i : Nat) : Int) ∧ st.1 = (acc : Int) ∧ acc < 128 ^ i ∧ takeAux i acc (b.drop i) = takeNum b, fun st _ => 10 - st.2.2.toNat, ⟨rfl, 0, 0, by omega, by omega, rfl, rfl, rfl, by decide, rfl⟩, ?_⟩
 rintro ⟨a, sh, i'⟩ w5 ⟨rfl, i, acc, hi, hib, rfl, rfl, rfl, hacc, htake⟩
 simp only at htake ⊢
 have bad : ∀ e : Int, e ≠ 0 → takeNum b = none → cR Try.prog 85 r85 #[.pointer (some ⟨g, 0, none⟩), .int .i64 e] w fun x w' => Fr (· = g) w w' ∧
   ((takeNum b = none ∧ ∃ e, e ≠ 0 ∧ RdAt w' g b e) ∨ ∃ n rest, takeNum b = some (n, rest) ∧ x = (n : Int) ∧ n < 18446744073709551616 ∧ RdAt w' g rest 0) := by
  intro e he hn
  refine cR_of (fail_ok h e) ?_
  rintro x w' ⟨rfl, h', hf'⟩
  exact ⟨hf', .inl ⟨hn, e, he, h'⟩⟩
 refine ⟨fun _ => ?_, fun hge => absurd (of_decide_eq_false hge) (by omega)⟩
 refine ⟨_, rfl, s, by rw [add_plain]; exact hB.cell rfl, ?_⟩
 refine ⟨fun heq => ?_, fun hneq => ?_⟩
 ·have heq : i = b.length := by have := of_decide_eq_true heq; omega
  refine bad 10 (by decide) ?_
  rw [← htake, heq, List.drop_length]
  rfl
 have hlt : i < b.length := by have := of_decide_eq_false hneq; omega
 rw [List.drop_eq_getElem_cons hlt] at htake
 obtain ⟨a, ha, hcell⟩ := hb.get hlt
 have hcl := u8_lt b[i]
 refine ⟨_, rfl, s, by rw [add_plain]; exact hB.cell rfl, a, _, ha, by omega, by omega, rfl, ?_⟩
 rw [Int.toNat_natCast, Nat.mul_one]
 refine ⟨_, hcell, ?_⟩
 generalize hcd : b[i] = c at htake hcl ⊢
 refine jn_of fun k1 hk1 => ?_
 unfold takeAux at htake
 rw [if_neg (by omega)] at htake
 have hpow : 128 ^ i ≤ 128 ^ 9 := Nat.pow_le_pow_right (by decide) hi
 -- the number so far
 have hor : c.toNat < 128 ∨ i < 9 → orI .u64 (acc : Int) (shlI .u64 (IntKind.u64.wrap (Int.tmod (c.toNat : Int) 128)) ((7 * i : Nat) : Int)) = ((acc + c.toNat % 128 * 128 ^ i : Nat) : Int) ∨ (i = 9 ∧ 1 < c.toNat) := by
  intro _
  by_cases h9 : i = 9 ∧ 1 < c.toNat
  ·exact .inr h9
  left
  rw [Int.tmod_eq_emod_of_nonneg (by omega), wu64_eq (by omega) (by omega)]
  have e1 : (c.toNat : Int) % 128 = ((c.toNat % 128 : Nat) : Int) := by omega
  have e2 : (2 : Nat) ^ (7 * i) = 128 ^ i := by rw [Nat.pow_mul]
  have hsm : c.toNat % 128 * 128 ^ i < 18446744073709551616 := by
   by_cases h8 : i ≤ 8
   ·have : 128 ^ i ≤ 128 ^ 8 := Nat.pow_le_pow_right (by decide) h8
    have h3 : c.toNat % 128 < 128 := Nat.mod_lt _ (by decide)
    calc c.toNat % 128 * 128 ^ i ≤ 127 * 128 ^ 8 := Nat.mul_le_mul (by omega) this
     _ < 18446744073709551616 := by decide
   ·have h9' : i = 9 := by omega
    have h1 : c.toNat ≤ 1 := by
     rcases Nat.lt_or_ge 1 c.toNat with h | h
     ·exact absurd ⟨h9', h⟩ h9
     ·exact h
    subst h9'
    calc c.toNat % 128 * 128 ^ 9 ≤ 1 * 128 ^ 9 := Nat.mul_le_mul_right _ (by omega)
     _ < 18446744073709551616 := by decide
  have hac2 : acc < 18446744073709551616 := Nat.lt_of_lt_of_le hacc (Nat.le_trans hpow (by decide))
  rw [e1, shlI_nat (by omega), e2, Nat.mod_eq_of_lt hsm, orI_nat hac2 hsm]
  congr 1
  rw [← e2, Nat.mul_comm, Nat.or_comm, ← Nat.two_pow_add_eq_or_of_lt (by rw [e2]; exact hacc), Nat.add_comm]
 have key1 : ∀ q : Bool, (q = true ↔ (i = 9 ∧ 1 < c.toNat)) → k1 q w := by
  intro q hq
  rw [hk1]
  refine ⟨fun ht => bad 7 (by decide) ?_, fun hf => ?_⟩
  ·rw [if_pos (hq.1 ht)] at htake
   exact htake.symm
  have hn9 : ¬ (i = 9 ∧ 1 < c.toNat) := fun hh => by rw [hq.2 hh] at hf; cases hf
  rw [if_neg hn9] at htake
  refine ⟨by omega, ?_⟩
  refine ⟨fun hge => ?_, fun hlt' => ?_⟩
  ·have hge : 128 ≤ c.toNat := by have := of_decide_eq_true hge; omega
   rw [if_pos hge] at htake
   have hi8 : i ≤ 8 := by
    rcases Nat.lt_or_ge i 9 with h | h
    ·omega
    ·exact absurd ⟨by omega, by omega⟩ hn9
   rw [(hor (.inr (by omega))).resolve_right hn9, w64_eq (by omega) (by omega), w64_eq (by omega) (by omega)]
   refine ⟨⟨rfl, i + 1, acc + c.toNat % 128 * 128 ^ i, by omega, by omega, by omega, by omega, rfl, ?_, htake⟩, by omega⟩
   have h3 : c.toNat % 128 ≤ 127 := by omega
   have h4 := Nat.mul_le_mul_right (128 ^ i) h3
   rw [Nat.pow_succ]
   omega
  ·have hlt' : c.toNat < 128 := by have := of_decide_eq_false hlt'; omega
   rw [if_neg (by omega)] at htake
   refine jn_of fun k2 hk2 => ?_
   have key2 : ∀ q : Bool, (q = true ↔ (c.toNat = 0 ∧ 0 < i)) → k2 q w := by
    intro q hq
    rw [hk2]
    refine ⟨fun ht => bad 7 (by decide) ?_, fun hf => ?_⟩
    ·rw [if_pos (hq.1 ht)] at htake
     exact htake.symm
    rw [if_neg (fun hh => by rw [hq.2 hh] at hf; cases hf)] at htake
    refine ⟨_, rfl, s, by rw [add_plain]; exact hB.cell rfl, ?_⟩
    rw [w64_eq (by omega) (by omega)]
    refine ⟨⟨by omega, by omega⟩, _, rfl, ?_⟩
    show st1 _ _ _ _
    rw [add_plain]
    refine st1_blk hB (by simp) fun w' hB' hf' => ?_
    have e1 : ((i : Int) + 1) = ((i + 1 : Nat) : Int) := by omega
    rw [e1] at hB'
    have hcut : Bytes w (s.cut 1 ((i + 1 : Nat) : Int) (s.len : Int) (s.cap : Int)) ((b.take s.len).drop (i + 1)) := hb.cut (l := i + 1) (e := s.len) (m := s.cap) (by omega) hc (by omega)
    rw [List.take_of_length_le (by omega)] at hcut
    refine ⟨hf', .inr ⟨_, _, htake.symm, ?_, ?_, ⟨_, hB', hf'.bytes ?_ hcut, ?_, ?_⟩⟩⟩
    ·rw [(hor (.inl hlt')).resolve_right hn9, Nat.mod_eq_of_lt hlt']
    ·have h5 := (hor (.inl hlt')).resolve_right hn9
     have h6 : (0 : Int) ≤ 0 := by omega
     have hb : c.toNat * 128 ^ i + acc < 18446744073709551616 := by
      by_cases h8 : i ≤ 8
      ·have h7 : 128 ^ i ≤ 128 ^ 8 := Nat.pow_le_pow_right (by decide) h8
       have h9 : c.toNat * 128 ^ i ≤ 127 * 128 ^ 8 := Nat.mul_le_mul (by omega) h7
       have : (127 * 128 ^ 8 + 128 ^ 8 : Nat) < 18446744073709551616 := by decide
       omega
      ·have h9' : i = 9 := by omega
       have h1 : c.toNat ≤ 1 := by
        rcases Nat.lt_or_ge 1 c.toNat with h | h
        ·exact absurd ⟨h9', h⟩ hn9
        ·exact h
       subst h9'
       have h9 : c.toNat * 128 ^ 9 ≤ 1 * 128 ^ 9 := Nat.mul_le_mul_right _ h1
       have : (1 * 128 ^ 9 + 128 ^ 9 : Nat) ≤ 18446744073709551616 := by decide
       omega
     omega
    ·intro a' ha'
     unfold Sl.cut at ha'
     simp only at ha'
     split at ha'
     ·exact hne a' ha'
     ·rw [ha] at ha'
      simp only [Option.map_some, Option.some.injEq] at ha'
      rw [← ha', add_block]
      exact hne a ha
    ·show _ - _ ≤ _ - _
     omega
    ·intro a' ha'
     unfold Sl.cut at ha'
     simp only at ha'
     split at ha'
     ·exact hne a' ha'
     ·rw [ha] at ha'
      simp only [Option.map_some, Option.some.injEq] at ha'
      rw [← ha', add_block]
      exact hne a ha
   refine ⟨fun h0 => key2 _ ?_, fun h0 => key2 false ⟨fun h => absurd h (by decide), fun hh => absurd (of_decide_eq_false h0) (by omega)⟩⟩
   have h0 := of_decide_eq_true h0
   rw [decide_eq_true_iff]
   omega
 refine ⟨fun h9 => key1 _ ?_, fun h9 => key1 false ⟨fun h => absurd h (by decide), fun hh => absurd (of_decide_eq_false h9) (by omega)⟩⟩
 have h9 := of_decide_eq_true h9
 rw [decide_eq_true_iff]
 omega
end
end Go.Proofs.Ytagkcbbbdlmcjaa
end
section
/- What is parsed: records out of bytes. -/
namespace Go.Proofs.Ytagkcbbbdlmcjaa
open Go.Lift Go.Lift.Disk Go.Lift.Crc Go.Lift.Wal Go.RowKit
theorem takeAux_suffix : ∀ (b : List UInt8) (i acc : Nat) {n : Nat} {rest : List UInt8}, takeAux i acc b = some (n, rest) → ∃ pre, b = pre ++ rest
 | [], _, _, _, _, h => by cases h
 | c :: b, i, acc, n, rest, h => by
  unfold takeAux at h
  split at h
  ·cases h
  ·split at h
   ·cases h
   ·split at h
    ·obtain ⟨pre, e⟩ := takeAux_suffix b _ _ h
     exact ⟨c :: pre, by rw [e]; rfl⟩
    ·split at h
     ·cases h
     ·simp only [Option.some.injEq, Prod.mk.injEq] at h
      exact ⟨[c], by rw [h.2]; rfl⟩
theorem mk_22 : mkCells Try.prog 22 = some (39, 1, 24, List.replicate 1 (Value.slice none 0 0)) := by kernel_rfl
/-- parts in a row of one's own, each in a row of its own -/
def OwnParts (w : World) (base : Nat) (s : Sl) (l : List (List UInt8)) : Prop :=
 ∃ ss : List Sl, ss.length = l.length ∧ Own w base 39 1 s (ss.map Sl.v) ∧ ∀ (k : Nat) (s : Sl) (b : List UInt8), ss[k]? = some s → l[k]? = some b → Own w base 5 1 s (u8s b)
theorem OwnParts.nil (w : World) (base : Nat) : OwnParts w base nilSl [] := ⟨[], rfl, Own.nil _ _ _ _, fun k s b h => by simp at h⟩
theorem OwnParts.ext {w w' : World} {base : Nat} {s : Sl} {l : List (List UInt8)} (h : OwnParts w base s l) (hx : Ext w w') : OwnParts w' base s l := by
 obtain ⟨ss, h1, h2, h3⟩ := h
 exact ⟨ss, h1, h2.ext hx, fun k s b hs hb => (h3 k s b hs hb).ext hx⟩
theorem OwnParts.len {w : World} {base : Nat} {s : Sl} {l : List (List UInt8)} (h : OwnParts w base s l) : s.len = l.length := by
 obtain ⟨ss, h1, h2, h3⟩ := h
 have := h2.length
 simp only [List.length_map] at this
 omega
theorem OwnParts.parts {w : World} {base : Nat} {s : Sl} {l : List (List UInt8)} (h : OwnParts w base s l) : Parts w s l := by
 have hl := h.len
 obtain ⟨ss, h1, h2, h3⟩ := h
 exact ⟨ss, by omega, h1, h2.at, fun k s b hs hb => (h3 k s b hs hb).bytes⟩
theorem sl_one (ss : List Sl) : ∀ u ∈ ss.map Sl.v, u.oneCell' = true := by
 intro u hu
 obtain ⟨s, _, rfl⟩ := List.mem_map.1 hu
 rfl
theorem own_other {w : World} {b1 b2 : Nat} {s q : Sl} {xs ys : List Value} (h : Own w b1 39 1 s xs) (k : Own w b2 5 1 q ys) : q.v.ownBlock = none ∨ q.v.ownBlock ≠ s.v.ownBlock := by
 rcases k.2 with ⟨h1, _⟩ | ⟨g, cap, cur, h1, _, h3, _⟩
 ·left; rw [h1]; rfl
 ·right
  rcases h.2 with ⟨k1, _⟩ | ⟨g', cap', cur', k1, _, k3, _⟩
  ·rw [h1, k1]; simp [Value.ownBlock]
  ·rw [h1, k1]
   simp only [Value.ownBlock, ne_eq, Option.some.injEq]
   intro e
   subst e
   rw [h3] at k3
   simp at k3
/-- one more part -/
theorem OwnParts.add {w w1 : World} {base b50 : Nat} {s x : Sl} {l : List (List UInt8)} {bs : List UInt8} {K : Sl → World → Prop} (h : OwnParts w base s l) (hx : Own w base 5 1 x (u8s bs))
  (hb : b50 = w.heap.size) (hw : w1 = w.alloc (.cells [x.v].toArray 39)) (hl : l.length ≤ 4000000) (hbase : base ≤ w.heap.size)
  (hk : ∀ s' w', OwnParts w' base s' (l ++ [bs]) → (∀ a, Ext a w → base = a.heap.size → Ext a w') → (∀ {e B : Nat} {q : Sl} {ys : List Value}, Own w B e 1 q ys → q.v.ownBlock = none ∨ q.v.ownBlock ≠ s.v.ownBlock → Own w' B e 1 q ys) → K s' w') : app Try.prog 22 s ⟨some ⟨b50, 0, none⟩, 1, 1⟩ w1 K := by
 have hsl := h.len
 obtain ⟨ss, h1, h2, h3⟩ := h
 have hx1 : Ext w w1 := Ext.new hw
 have hsz := hx1.size
 refine app_ok (base := base) mk_22 rfl (by decide) (h2.ext hx1) (news := [x].map Sl.v) rfl (At.new hb hw) (sl_one _) (by simp only [maxLen]; omega) (by first | omega | (simp only; omega)) (by omega) ?_
 intro s' w' hl' ho' hg' hB'
 rw [← List.map_append] at ho'
 have hx' : ∀ a, Ext a w → base = a.heap.size → Ext a w' := fun a ha he => hB' _ _ (ha.trans hx1) (by omega) (ha.trans hx1).size
 have hold : ∀ {e B : Nat} {q : Sl} {ys : List Value}, Own w B e 1 q ys → q.v.ownBlock = none ∨ q.v.ownBlock ≠ s.v.ownBlock → Own w' B e 1 q ys := fun hq hne => World.ownsRow.kept (hq.ext hx1) hg' hne
 refine hk s' w' ⟨ss ++ [x], by simp [h1], ho', ?_⟩ hx' hold
 intro k q c hq hc
 rcases Nat.lt_or_ge k ss.length with hlt | hge
 ·rw [List.getElem?_append_left hlt] at hq
  rw [List.getElem?_append_left (by omega)] at hc
  have := h3 k q c hq hc
  exact hold this (own_other h2 this)
 ·rw [List.getElem?_append_right hge] at hq
  rw [List.getElem?_append_right (by omega)] at hc
  have : k - ss.length = 0 := by
   rcases Nat.eq_zero_or_pos (k - ss.length) with h | h
   ·exact h
   ·rw [List.getElem?_eq_none (show [x].length ≤ _ by rw [List.length_singleton]; omega)] at hq; cases hq
  rw [this] at hq
  rw [← h1, this] at hc
  simp at hq hc
  subst hq; subst hc
  exact hold hx (own_other h2 hx)
theorem cut_some {p : Sl} {n : Nat} {i j m : Int} (h : p.a ≠ none) : (p.cut n i j m).a ≠ none := by
 unfold Sl.cut
 simp only
 split
 ·exact h
 ·simpa using h
theorem bytes_some {w : World} {p : Sl} {b : List UInt8} (h : Bytes w p b) (hb : b ≠ []) : p.a ≠ none := by
 obtain ⟨c, b', rfl⟩ := List.exists_cons_of_ne_nil hb
 have := h.2
 intro e
 rw [e] at this
 cases this
theorem parse_ok (w : World) (p : Sl) (b : List UInt8) (hp : Bytes w p b) (hc : p.len ≤ p.cap) (hn : p.a = none → p.len = 0 ∧ p.cap = 0) (hl : b.length ≤ 4000000) :
  Calls Try.prog 50 #[p.v] w (Ret r50 fun x w' => x.2 = (parse b).2 ∧ OwnParts w' w.heap.size x.1 (parse b).1 ∧ Ext w w') := by
 apply s50_calls
 refine ⟨fun st w' => ∃ (f : Nat) (b' : List UInt8) (out : List (List UInt8)), b'.length ≤ f ∧ parseF f b' out = parse b ∧ out.length + b'.length ≤ b.length ∧ Bytes w st.1 b' ∧ st.1.len ≤ st.1.cap ∧ (st.1.a = none → st.1.len = 0 ∧ st.1.cap = 0) ∧
   OwnParts w' w.heap.size st.2 out ∧ Ext w w',
  fun st _ => st.1.len, ⟨b.length, b, [], Nat.le_refl _, rfl, by simp, hp, hc, hn, OwnParts.nil _ _, Ext.refl _⟩, ?_⟩
 rintro ⟨p, s⟩ w2 ⟨f, b', out, hf, hpar, hob, hb0, hcap, hnil, ho, hx2⟩
 simp only at hb0 hcap hnil ho ⊢
 have hb := hb0.ext hx2
 have hbl := hb.1
 refine ⟨fun hgt => ?_, fun h0 => ?_⟩
 ·have hgt : 0 < p.len := by have := of_decide_eq_true hgt; omega
  have hne : b' ≠ [] := by intro e; rw [e] at hbl; simp at hbl; omega
  obtain ⟨f, rfl⟩ : ∃ f', f = f' + 1 := ⟨f - 1, by omega⟩
  rw [parseF, if_neg hne] at hpar
  refine cR_of (read72_ok w2 p b' hb hnil (by omega)) ?_
  rintro x7 w8 ⟨g, rfl, hg, hr8, hx8⟩
  refine cR_of (numRd_ok hr8 (by omega)) ?_
  rintro x9 w10 ⟨hf10, hcase⟩
  have hx10 : Ext w2 w10 := hf10.ext hx8 fun k _ e => by rw [e]; exact hg
  have hx10' := hx2.trans hx10
  rcases hcase with ⟨htn, e, he, hr10⟩ | ⟨n, rest, htn, rfl, hn64, hr10⟩
  ·rw [htn] at hpar
   simp only at hpar
   refine cR_of (left_ok hr10) ?_
   rintro x11 w12 ⟨rfl, rfl⟩
   refine cR_of (err_ok hr10) ?_
   rintro x13 w14 ⟨rfl, rfl⟩
   refine jn_of fun k1 hk1 => ?_
   refine ⟨fun _ => ?_, fun h => absurd (nd_f h) he⟩
   rw [hk1]
   refine jn_of fun k2 hk2 => ⟨fun _ => ?_, fun h => absurd h (by simp)⟩
   rw [hk2]
   refine ⟨fun _ => ?_, fun h => absurd h (by simp)⟩
   rw [← hpar]
   exact ⟨rfl, OwnParts.nil _ _, hx10'⟩
  ·rw [htn] at hpar
   simp only at hpar
   have hrl := takeNum_len htn
   obtain ⟨pre, hpre⟩ := takeAux_suffix _ _ _ htn
   have hprl : b'.length = pre.length + rest.length := by rw [hpre, List.length_append]
   refine cR_of (left_ok hr10) ?_
   rintro x11 w12 ⟨rfl, rfl⟩
   refine cR_of (err_ok hr10) ?_
   rintro x13 w14 ⟨rfl, rfl⟩
   refine jn_of fun k1 hk1 => ?_
   refine ⟨fun h => absurd h (by simp), fun _ => ?_⟩
   refine cR_of (left_ok hr10) ?_
   rintro x17 w18 ⟨rfl, rfl⟩
   rw [hk1]
   refine jn_of fun k2 hk2 => ?_
   have key : ∀ q : Bool, (q = true ↔ (rest.length < 4 ∨ rest.length - 4 < n)) → k2 q w10 := by
    intro q hq
    rw [hk2]
    refine ⟨fun ht => ?_, fun hfl => ?_⟩
    ·rw [if_pos (hq.1 ht)] at hpar
     rw [← hpar]
     exact ⟨rfl, OwnParts.nil _ _, hx10'⟩
    have hnn : ¬ (rest.length < 4 ∨ rest.length - 4 < n) := fun hh => by rw [hq.2 hh] at hfl; cases hfl
    rw [if_neg hnn] at hpar
    have e1 : IntKind.i64.wrap (IntKind.i64.wrap ((p.len : Int) - (rest.length : Int)) + 4) = ((pre.length + 4 : Nat) : Int) := by
     rw [w64_eq (x := (p.len : Int) - (rest.length : Int)) (by omega) (by omega), w64_eq (by omega) (by omega)]; omega
    have e2 : IntKind.i64.wrap (IntKind.i64.wrap (IntKind.i64.wrap ((p.len : Int) - (rest.length : Int)) + 4) + IntKind.i64.wrap (n : Int)) = ((pre.length + 4 + n : Nat) : Int) := by
     rw [e1, w64_eq (x := (n : Int)) (by omega) (by omega), w64_eq (by omega) (by omega)]; omega
    rw [e2, e1]
    have hsl : sliceB b' (pre.length + 4) (pre.length + 4 + n) = sliceB rest 4 (4 + n) := by
     unfold sliceB
     rw [hpre, List.take_append, List.take_of_length_le (show pre.length ≤ pre.length + 4 + n by omega), List.drop_append, List.drop_of_length_le (show pre.length ≤ pre.length + 4 by omega), List.nil_append]
     congr 1
     ·omega
     ·congr 1; omega
    have htk : b'.take (b'.length - rest.length + 4 + n) = sliceB b' 0 (pre.length + 4 + n) := by
     unfold sliceB
     rw [List.drop_zero]
     congr 1; omega
    rw [← hsl, htk] at hpar
    refine ⟨⟨by omega, by omega, by omega⟩, ?_⟩
    intro w39 hw39
    have hx39 : Ext w10 w39 := by subst hw39; exact Ext.drew _
    have hb10 := hb.ext hx10
    have hc0 := cut_ok hb10 hcap (i := 0) (j := pre.length + 4 + n) (by omega) (by omega)
    have hc1 := cut_ok hb10 hcap (i := pre.length + 4) (j := pre.length + 4 + n) (by omega) (by omega)
    have hcl : (sliceB b' (pre.length + 4) (pre.length + 4 + n)).length ≤ 4000000 := by simp [sliceB]; omega
    refine ⟨⟨by omega, by omega, by omega⟩, _, hc0.1, hc0.2, ?_⟩
    refine cR_of (frame_ok w39 _ _ (hc1.ext hx39) (by omega)) ?_
    rintro x42 w43 ⟨ho42, hx43⟩
    have hx43' := hx39.trans hx43
    refine ⟨hx43', _, ho42.bytes.1, ho42.bytes.2, ?_⟩
    refine ⟨fun hne' => ?_, fun heq => ?_⟩
    ·rw [if_neg (nd_t hne')] at hpar
     rw [← hpar]
     exact ⟨rfl, OwnParts.nil _ _, hx10'.trans hx43'⟩
    ·rw [if_pos (nd_f heq)] at hpar
     refine cR_of (cloneB_ok _ _ (hc1.ext hx43') (cut_some (bytes_some hb hne)) (by omega)) ?_
     rintro x48 w49 ⟨ho48, hx49⟩
     have hx49' := (hx10.trans hx43').trans hx49
     have hx49w := hx2.trans hx49'
     intro b50 w51 hb50 hw51
     have ho49 := ho.ext hx49'
     refine OwnParts.add ho49 (Own.lower ho48 (hx10'.trans hx43').size) hb50 hw51 (by omega) hx49w.size fun s' w' hs' hx' hold => ?_
     have hxw := hx' w hx49w rfl
     refine ⟨⟨by omega, by omega⟩, ?_⟩
     have hc2 := cut_ok hb0 hcap (i := pre.length + 4 + n) (j := b'.length) (by omega) (Nat.le_refl _)
     have hbe : (b'.length : Int) = (p.len : Int) := by omega
     rw [hbe] at hc2
     have e3 : sliceB b' (pre.length + 4 + n) b'.length = rest.drop (4 + n) := by
      unfold sliceB
      rw [List.take_length]
      conv => lhs; rw [hpre]
      rw [List.drop_append, List.drop_of_length_le (by omega), List.nil_append]
      congr 1; omega
     rw [e3] at hc2
     have hrd : (rest.drop (4 + n)).length = rest.length - (4 + n) := List.length_drop
     refine ⟨⟨f, rest.drop (4 + n), out ++ [sliceB b' (pre.length + 4) (pre.length + 4 + n)], by rw [hrd]; omega, hpar, by rw [List.length_append, List.length_singleton, hrd]; omega, ?_, ?_, ?_, hs', hxw⟩, ?_⟩
     ·exact hc2
     ·show _ - _ ≤ _ - _
      omega
     ·exact fun hn => absurd hn (cut_some (bytes_some hb hne))
     ·show _ - _ < _
      omega
   refine ⟨fun h4 => ?_, fun h4 => ?_⟩
   ·exact key true ⟨fun _ => .inl (by have := of_decide_eq_true h4; omega), fun _ => rfl⟩
   ·have h4' : ¬ (rest.length < 4) := by have := of_decide_eq_false h4; omega
    refine cR_of (left_ok hr10) ?_
    rintro x29 w30 ⟨rfl, rfl⟩
    rw [w64_eq (by omega) (by omega), wu64_eq (by omega) (by omega)]
    refine key _ ?_
    rw [decide_eq_true_iff]
    omega
 ·have h0 : p.len = 0 := by have := of_decide_eq_false h0; omega
  have hb0 : b' = [] := List.eq_nil_of_length_eq_zero (by omega)
  subst hb0
  have : parseF f [] out = (out, 0) := by cases f <;> rfl
  rw [this] at hpar
  rw [← hpar]
  exact ⟨rfl, ho, hx2⟩
end Go.Proofs.Ytagkcbbbdlmcjaa
end
section
/- The typed readings of the functions, and that the program meets each: written by gen.py (a program of this session). -/
namespace Go.Proofs.Ytagkcbbbdlmcjaa
open Go.Lift
set_option maxRecDepth 100000 in
set_option maxHeartbeats 4000000 in
theorem s17_calls (K : Int → World → Prop) (p0 : Option Addr) (w : World) (h : s17 K p0 w) :
  Calls Try.prog 17 #[.pointer p0] w (Ret r17 K) := by
 unfold s17 at h
 refine calls_of_CW (n := 15) Try.func17 rfl rfl rfl ?_
 refine CW.seq ?_
 refine CW.region ?_
 refine RL.opS trivial rfl (OpW.assign (v := .int .i64 0) rfl ?_)
 refine RL.nil ?_
 refine CW.seq ?_
 refine CW.seq ?_
 refine CW.region ?_
 refine RL.opS trivial rfl (OpW.move (v := .pointer p0) rfl ?_)
 refine RL.opS trivial rfl (OpW.ptrNil (b := p0.isNone) (p := p0) ptr_35 rfl rfl rfl ?_)
 refine RL.nil ?_
 obtain ⟨ha, hc⟩ := h
 refine CW.cond (b := (p0.isNone)) rfl (fun hb1 => ?_) (fun hb1 => ?_)
 ·have h := ha hb1; clear ha hc
  refine CW.seq ?_
  refine CW.region ?_
  refine RL.opS trivial rfl (OpW.assign (v := .int .i64 0) rfl ?_)
  refine RL.nil ?_
  refine CW.ret ?_
  exact ret_intro (res1 rfl rfl) ⟨0, rfl, h⟩
 ·have h := hc hb1; clear ha hc
  refine CW.skip ?_
  refine CW.seq ?_
  obtain ⟨w2, hw2_⟩ : ∃ w_, w_ = w.drew := ⟨_, rfl⟩
  have h := h w2 hw2_
  have hx3 : Ext w w2 := by rw [hw2_]; exact Ext.drew _
  refine CW.draws (m := 11) (listed := #[F,F,F,F,F,F,F,F,F,F,F]) mixed [0, 1, 2, 3, 4, 5, 6, 7, 8, 9, 10] (Ext w) rfl rfl ?_
  rw [← hw2_]
  refine DL.takeP (listed' := #[T,F,F,F,F,F,F,F,F,F,F]) (v := .pointer p0) 0 rfl rfl (by kernel_rfl) rfl trivial rfl (fun w_ K_ h_ => OpW.move (v := .pointer p0) rfl h_) ?_
  obtain ⟨a4, ha5, h⟩ := h
  refine DL.takeP (listed' := #[T,T,F,F,F,F,F,F,F,F,F]) (v := .pointer (some a4)) 1 rfl rfl (by kernel_rfl) rfl trivial rfl (fun w_ K_ h_ => OpW.nilCheck (a := a4) (congrArg Value.pointer ha5) h_) ?_
  refine DL.takeP (listed' := #[T,T,T,F,F,F,F,F,F,F,F]) (v := .pointer (some (Addr.add a4 2))) 2 rfl rfl (by kernel_rfl) rfl trivial rfl (fun w_ K_ h_ => OpW.fieldAddr field_95_2 rfl h_) ?_
  obtain ⟨x6, h1, h⟩ := h
  refine DL.takeK (listed' := #[T,T,T,T,F,F,F,F,F,F,F]) (v := .int .i64 x6) 3 rfl rfl (by kernel_rfl) (by kernel_rfl) rfl trivial rfl hx3 (fun w_ hS_ K_ h_ => OpW.load1 (v := .int .i64 x6) one_3 rfl (hS_.cell h1) h_) ?_
  refine DL.takeP (listed' := #[T,T,T,T,T,F,F,F,F,F,F]) (v := .pointer p0) 4 rfl rfl (by kernel_rfl) rfl trivial rfl (fun w_ K_ h_ => OpW.move (v := .pointer p0) rfl h_) ?_
  obtain ⟨a7, ha8, h⟩ := h
  refine DL.takeP (listed' := #[T,T,T,T,T,T,F,F,F,F,F]) (v := .pointer (some a7)) 5 rfl rfl (by kernel_rfl) rfl trivial rfl (fun w_ K_ h_ => OpW.nilCheck (a := a7) (congrArg Value.pointer ha8) h_) ?_
  refine DL.takeP (listed' := #[T,T,T,T,T,T,T,F,F,F,F]) (v := .pointer (some (Addr.add a7 4))) 6 rfl rfl (by kernel_rfl) rfl trivial rfl (fun w_ K_ h_ => OpW.fieldAddr field_95_4 rfl h_) ?_
  obtain ⟨x9, h1, h⟩ := h
  refine DL.takeK (listed' := #[T,T,T,T,T,T,T,T,F,F,F]) (v := Sl.v x9) 7 rfl rfl (by kernel_rfl) (by kernel_rfl) rfl trivial rfl hx3 (fun w_ hS_ K_ h_ => OpW.load1 (v := Sl.v x9) one_39 rfl (hS_.cell h1) h_) ?_
  refine DL.takeP (listed' := #[T,T,T,T,T,T,T,T,T,F,F]) (v := .int .i64 (x9.len : Int)) 8 rfl rfl (by kernel_rfl) rfl trivial rfl (fun w_ K_ h_ => OpW.len (s := x9) slice_39 rfl h_) ?_
  refine DL.takeP (listed' := #[T,T,T,T,T,T,T,T,T,T,F]) (v := .int .i64 (IntKind.i64.wrap (x6 - (x9.len : Int)))) 9 rfl rfl (by kernel_rfl) rfl trivial rfl (fun w_ K_ h_ => OpW.bin (k := .i64) (a := x6) (b := (x9.len : Int)) (v := .int .i64 (IntKind.i64.wrap (x6 - (x9.len : Int)))) rfl rfl rfl h_) ?_
  refine DL.takeP (listed' := #[T,T,T,T,T,T,T,T,T,T,T]) (v := .int .i64 (IntKind.i64.wrap (x6 - (x9.len : Int)))) 10 rfl rfl (by kernel_rfl) rfl trivial rfl (fun w_ K_ h_ => OpW.assign (v := .int .i64 (IntKind.i64.wrap (x6 - (x9.len : Int)))) rfl h_) ?_
  refine DL.done (by kernel_rfl) ?_
  refine CW.ret ?_
  exact ret_intro (res1 rfl rfl) ⟨(IntKind.i64.wrap (x6 - (x9.len : Int))), rfl, h⟩
end Go.Proofs.Ytagkcbbbdlmcjaa
end
section
/- The typed readings of the functions, and that the program meets each: written by gen.py (a program of this session). -/
namespace Go.Proofs.Ytagkcbbbdlmcjaa
open Go.Lift
set_option maxRecDepth 100000 in
set_option maxHeartbeats 4000000 in
theorem s21_calls (K : Int → World → Prop) (p0 : Option Addr) (w : World) (h : s21 K p0 w) :
  Calls Try.prog 21 #[.pointer p0] w (Ret r21 K) := by
 unfold s21 at h
 refine calls_of_CW (n := 27) Try.func21 rfl rfl rfl ?_
 refine CW.seq ?_
 refine CW.region ?_
 refine RL.opS trivial rfl (OpW.assign (v := .int .i64 0) rfl ?_)
 refine RL.nil ?_
 refine CW.seq ?_
 refine CW.seq ?_
 refine CW.region ?_
 refine RL.opS trivial rfl (OpW.move (v := .pointer p0) rfl ?_)
 refine RL.opS trivial rfl (OpW.callR (al := [.pointer p0]) Try.func46 fb_46 fn_46 rfl h (fun x1 w2 h => ?_))
 refine RL.nil ?_
 obtain ⟨ha, hc⟩ := h
 refine CW.cond (b := x1) rfl (fun hb3 => ?_) (fun hb3 => ?_)
 ·have h := ha hb3; clear ha hc
  refine CW.seq ?_
  refine CW.region ?_
  refine RL.opS trivial rfl (OpW.assign (v := .int .i64 3) rfl ?_)
  refine RL.nil ?_
  refine CW.ret ?_
  exact ret_intro (res1 rfl rfl) ⟨3, rfl, h⟩
 ·have h := hc hb3; clear ha hc
  refine CW.skip ?_
  refine CW.seq ?_
  refine CW.seq ?_
  refine CW.region ?_
  refine RL.opS trivial rfl (OpW.move (v := .pointer p0) rfl ?_)
  obtain ⟨a4, ha5, h⟩ := h
  refine RL.opS trivial rfl (OpW.nilCheck (a := a4) (congrArg Value.pointer ha5) ?_)
  refine RL.opS trivial rfl (OpW.fieldAddr field_95_3 rfl ?_)
  obtain ⟨x6, h1, h⟩ := h
  refine RL.opS trivial rfl (OpW.load1 (v := .int .u64 x6) one_25 rfl h1 ?_)
  refine RL.opS trivial rfl (OpW.bin (k := .u64) (a := x6) (b := 4611686018427387904) (v := .bool (decide (x6 = 4611686018427387904))) rfl rfl rfl ?_)
  refine RL.nil ?_
  obtain ⟨ha, hc⟩ := h
  refine CW.cond (b := (decide (x6 = 4611686018427387904))) rfl (fun hb7 => ?_) (fun hb7 => ?_)
  ·have h := ha hb7; clear ha hc
   refine CW.seq ?_
   refine CW.region ?_
   refine RL.opS trivial rfl (OpW.assign (v := .int .i64 40) rfl ?_)
   refine RL.nil ?_
   refine CW.ret ?_
   exact ret_intro (res1 rfl rfl) ⟨40, rfl, h⟩
  ·have h := hc hb7; clear ha hc
   refine CW.skip ?_
   refine CW.seq ?_
   refine CW.seq ?_
   refine CW.region ?_
   refine RL.opS trivial rfl (OpW.move (v := .pointer p0) rfl ?_)
   refine RL.opS trivial rfl (OpW.move (v := .pointer p0) rfl ?_)
   obtain ⟨a8, ha9, h⟩ := h
   refine RL.opS trivial rfl (OpW.nilCheck (a := a8) (congrArg Value.pointer ha9) ?_)
   refine RL.opS trivial rfl (OpW.fieldAddr field_95_3 rfl ?_)
   obtain ⟨x10, h1, h⟩ := h
   refine RL.opS trivial rfl (OpW.load1 (v := .int .u64 x10) one_25 rfl h1 ?_)
   refine RL.opS trivial rfl (OpW.bin (k := .u64) (a := x10) (b := 1) (v := .int .u64 (IntKind.u64.wrap (x10 + 1))) rfl rfl rfl ?_)
   refine RL.opS trivial rfl (OpW.callR (al := [.pointer p0, .int .u64 (IntKind.u64.wrap (x10 + 1)), .int .i64 0]) Try.func48 fb_48 fn_48 rfl h (fun x11 w12 h => ?_))
   refine RL.opS trivial rfl (OpW.assign (v := .int .i64 x11) rfl ?_)
   refine RL.nil ?_
   refine CW.seq ?_
   refine CW.region ?_
   refine RL.opS trivial rfl (OpW.move (v := .int .i64 x11) rfl ?_)
   refine RL.opS trivial rfl (OpW.bin (k := .i64) (a := x11) (b := 0) (v := .bool (!decide (x11 = 0))) rfl rfl rfl ?_)
   refine RL.nil ?_
   obtain ⟨ha, hc⟩ := h
   refine CW.cond (b := (!decide (x11 = 0))) rfl (fun hb13 => ?_) (fun hb13 => ?_)
   ·have h := ha hb13; clear ha hc
    refine CW.seq ?_
    refine CW.region ?_
    refine RL.opS trivial rfl (OpW.move (v := .int .i64 x11) rfl ?_)
    refine RL.opS trivial rfl (OpW.assign (v := .int .i64 x11) rfl ?_)
    refine RL.nil ?_
    refine CW.ret ?_
    exact ret_intro (res1 rfl rfl) ⟨x11, rfl, h⟩
   ·have h := hc hb13; clear ha hc
    refine CW.skip ?_
    refine CW.seq ?_
    refine CW.region ?_
    refine RL.opS trivial rfl (OpW.move (v := .pointer p0) rfl ?_)
    refine RL.opS trivial rfl (OpW.move (v := .pointer p0) rfl ?_)
    obtain ⟨a14, ha15, h⟩ := h
    refine RL.opS trivial rfl (OpW.nilCheck (a := a14) (congrArg Value.pointer ha15) ?_)
    refine RL.opS trivial rfl (OpW.fieldAddr field_95_4 rfl ?_)
    obtain ⟨u_, h1, h2, h⟩ := h
    obtain ⟨w16, hw16_⟩ : ∃ w_, w_ = w12.setCell (Addr.add a14 4) (Sl.v nilSl) := ⟨_, rfl⟩
    have h := h w16 hw16_
    refine RL.opN trivial (OpW.store1E (v := Sl.v nilSl) size_39 rfl rfl rfl h1 h2 hw16_ ?_)
    obtain ⟨a17, ha18, h⟩ := h
    refine RL.opS trivial rfl (OpW.nilCheck (a := a17) (congrArg Value.pointer ha18) ?_)
    refine RL.opS trivial rfl (OpW.fieldAddr field_95_5 rfl ?_)
    obtain ⟨u_, h1, h2, h⟩ := h
    obtain ⟨w19, hw19_⟩ : ∃ w_, w_ = w16.setCell (Addr.add a17 5) (.int .i64 0) := ⟨_, rfl⟩
    have h := h w19 hw19_
    refine RL.opN trivial (OpW.store1E (v := .int .i64 0) size_3 rfl rfl rfl h1 h2 hw19_ ?_)
    refine RL.nil ?_
    refine CW.seq ?_
    refine CW.region ?_
    refine RL.opS trivial rfl (OpW.assign (v := .int .i64 0) rfl ?_)
    refine RL.nil ?_
    refine CW.ret ?_
    exact ret_intro (res1 rfl rfl) ⟨0, rfl, h⟩
end Go.Proofs.Ytagkcbbbdlmcjaa
end
section
/- The typed readings of the functions, and that the program meets each: written by gen.py (a program of this session). -/
namespace Go.Proofs.Ytagkcbbbdlmcjaa
open Go.Lift
set_option maxRecDepth 100000 in
set_option maxHeartbeats 4000000 in
theorem s22_calls (K : Int → World → Prop) (p0 : Option Addr) (w : World) (h : s22 K p0 w) :
  Calls Try.prog 22 #[.pointer p0] w (Ret r22 K) := by
 unfold s22 at h
 refine calls_of_CW (n := 9) Try.func22 rfl rfl rfl ?_
 refine CW.seq ?_
 refine CW.region ?_
 refine RL.opS trivial rfl (OpW.assign (v := .int .i64 0) rfl ?_)
 refine RL.nil ?_
 refine CW.seq ?_
 refine CW.seq ?_
 refine CW.region ?_
 refine RL.opS trivial rfl (OpW.move (v := .pointer p0) rfl ?_)
 refine RL.opS trivial rfl (OpW.ptrNil (b := p0.isNone) (p := p0) ptr_35 rfl rfl rfl ?_)
 refine RL.nil ?_
 obtain ⟨ha, hc⟩ := h
 refine CW.cond (b := (p0.isNone)) rfl (fun hb1 => ?_) (fun hb1 => ?_)
 ·have h := ha hb1; clear ha hc
  refine CW.seq ?_
  refine CW.region ?_
  refine RL.opS trivial rfl (OpW.assign (v := .int .i64 0) rfl ?_)
  refine RL.nil ?_
  refine CW.ret ?_
  exact ret_intro (res1 rfl rfl) ⟨0, rfl, h⟩
 ·have h := hc hb1; clear ha hc
  refine CW.skip ?_
  refine CW.seq ?_
  refine CW.region ?_
  refine RL.opS trivial rfl (OpW.move (v := .pointer p0) rfl ?_)
  obtain ⟨a2, ha3, h⟩ := h
  refine RL.opS trivial rfl (OpW.nilCheck (a := a2) (congrArg Value.pointer ha3) ?_)
  refine RL.opS trivial rfl (OpW.fieldAddr field_95_5 rfl ?_)
  obtain ⟨x4, h1, h⟩ := h
  refine RL.opS trivial rfl (OpW.load1 (v := .int .i64 x4) one_3 rfl h1 ?_)
  refine RL.opS trivial rfl (OpW.assign (v := .int .i64 x4) rfl ?_)
  refine RL.nil ?_
  refine CW.ret ?_
  exact ret_intro (res1 rfl rfl) ⟨x4, rfl, h⟩
end Go.Proofs.Ytagkcbbbdlmcjaa
end
section
/- The typed readings of the functions, and that the program meets each: written by gen.py (a program of this session). -/
namespace Go.Proofs.Ytagkcbbbdlmcjaa
open Go.Lift
set_option maxRecDepth 100000 in
set_option maxHeartbeats 4000000 in
theorem s46_calls (K : Bool → World → Prop) (p0 : Option Addr) (w : World) (h : s46 K p0 w) :
  Calls Try.prog 46 #[.pointer p0] w (Ret r46 K) := by
 unfold s46 at h
 refine calls_of_CW (n := 11) Try.func46 rfl rfl rfl ?_
 refine CW.seq ?_
 refine CW.region ?_
 refine RL.opS trivial rfl (OpW.assign (v := .bool false) rfl ?_)
 refine RL.nil ?_
 refine CW.seq ?_
 refine CW.region ?_
 refine RL.opS trivial rfl (OpW.move (v := .pointer p0) rfl ?_)
 refine RL.opS trivial rfl (OpW.ptrNil (b := p0.isNone) (p := p0) ptr_35 rfl rfl rfl ?_)
 refine RL.opS trivial rfl (OpW.move (v := .bool (p0.isNone)) rfl ?_)
 refine jn_elim h ?_; clear h; intro k9 hk10 h
 refine RL.joinAt (A := Bool) 5 (fun s6 ρ => ρ 10 = .bool s6) k9 ?_ ?_
 ·rintro s6 ρ w7 e8 h
  subst hk10
  dsimp only [List.drop]
  refine RL.opS trivial rfl (OpW.assign (v := .bool s6) e8 ?_)
  refine RL.nil ?_
  refine CW.ret ?_
  exact ret_intro (res1 rfl rfl) ⟨s6, rfl, h⟩
 ·clear hk10
  dsimp only [List.take]
  obtain ⟨ha, hc⟩ := h
  rcases Bool.eq_false_or_eq_true (p0.isNone) with hb1 | hb1
  ·have h := ha hb1; clear ha hc
   refine RL.skipS (notWanted_of rfl rfl hb1) rfl ?_
   refine RL.skipS (notWanted_of rfl rfl hb1) rfl ?_
   refine RL.skipS (notWanted_of rfl rfl hb1) rfl ?_
   refine RL.skipS (notWanted_of rfl rfl hb1) rfl ?_
   refine RL.opS trivial rfl (OpW.pick (b := true) (v := .bool true) (congrArg Value.bool hb1) rfl ?_)
   refine RL.nil ?_
   exact ⟨true, rfl, h⟩
  ·have h := hc hb1; clear ha hc
   refine RL.opS (wanted_of rfl rfl hb1) rfl (OpW.move (v := .pointer p0) rfl ?_)
   obtain ⟨a3, ha4, h⟩ := h
   refine RL.opS (wanted_of rfl rfl hb1) rfl (OpW.nilCheck (a := a3) (congrArg Value.pointer ha4) ?_)
   refine RL.opS (wanted_of rfl rfl hb1) rfl (OpW.fieldAddr field_95_6 rfl ?_)
   obtain ⟨x5, h1, h⟩ := h
   refine RL.opS (wanted_of rfl rfl hb1) rfl (OpW.load1 (v := .bool x5) one_4 rfl h1 ?_)
   refine RL.opS trivial rfl (OpW.pick (b := false) (v := .bool x5) (congrArg Value.bool hb1) rfl ?_)
   refine RL.nil ?_
   exact ⟨x5, rfl, h⟩
end Go.Proofs.Ytagkcbbbdlmcjaa
end
section
/- The typed readings of the functions, and that the program meets each: written by gen.py (a program of this session). -/
namespace Go.Proofs.Ytagkcbbbdlmcjaa
open Go.Lift
set_option maxRecDepth 100000 in
set_option maxHeartbeats 4000000 in
theorem s48_calls (K : Int → World → Prop) (p0 : Option Addr) (p1 : Int) (p2 : Int) (w : World) (h : s48 K p0 p1 p2 w) :
  Calls Try.prog 48 #[.pointer p0, .int .u64 p1, .int .i64 p2] w (Ret r48 K) := by
 unfold s48 at h
 refine calls_of_CW (n := 53) Try.func48 rfl rfl rfl ?_
 refine CW.seq ?_
 refine CW.region ?_
 refine RL.opS trivial rfl (OpW.assign (v := .int .i64 0) rfl ?_)
 refine RL.nil ?_
 refine CW.seq ?_
 refine CW.region ?_
 obtain ⟨h1, h2, h3, h4, h⟩ := h
 obtain ⟨b1, hb1_⟩ : ∃ b_, b_ = w.heap.size := ⟨_, rfl⟩
 obtain ⟨w2, hw2_⟩ : ∃ w_, w_ = w.alloc (.cells (List.replicate (Int.toNat 512 * 1) (Value.int .u8 0)).toArray 5) := ⟨_, rfl⟩
 have h := h b1 w2 hb1_ hw2_
 obtain ⟨x3, hx3_⟩ : ∃ s_ : Sl, s_ = ⟨some ⟨b1, 0, none⟩, Int.toNat 512, Int.toNat 512⟩ := ⟨_, rfl⟩
 rw [← hx3_] at h
 refine RL.opS trivial rfl (OpW.makeSliceE mk_39 (by decide) rfl rfl h1 h2 h3 h4 hb1_ hw2_ hx3_ ?_)
 refine RL.opS trivial rfl (OpW.assign (v := Sl.v x3) rfl ?_)
 refine RL.nil ?_
 refine CW.seq ?_
 refine CW.region ?_
 refine RL.opS trivial rfl (OpW.move (v := Sl.v x3) rfl ?_)
 refine RL.opS trivial rfl (OpW.move (v := .int .u64 p1) rfl ?_)
 refine RL.opS trivial rfl (OpW.move (v := .int .i64 p2) rfl ?_)
 refine RL.opS trivial rfl (OpW.convInt (a := p2) int_3 int_25 rfl ?_)
 refine RL.opS trivial rfl (OpW.callR (al := [.int .u64 p1, .int .u64 (IntKind.u64.wrap p2)]) Try.func70 fb_70 fn_70 rfl h (fun x4 w5 h => ?_))
 refine RL.opS trivial rfl (OpW.move (v := .int .i64 p2) rfl ?_)
 refine RL.opS trivial rfl (OpW.convInt (a := p2) int_3 int_25 rfl ?_)
 refine RL.opS trivial rfl (OpW.move (v := .int .u64 p1) rfl ?_)
 refine RL.opS trivial rfl (OpW.callR (al := [.int .u64 (IntKind.u64.wrap p2), .int .u64 p1]) Try.func70 fb_70 fn_70 rfl h (fun x6 w7 h => ?_))
 obtain ⟨b8, hb8_⟩ : ∃ b_, b_ = w7.heap.size := ⟨_, rfl⟩
 obtain ⟨w9, hw9_⟩ : ∃ w_, w_ = w7.alloc (.cells (List.toArray [Sl.v x4, Sl.v x6]) 39) := ⟨_, rfl⟩
 have h := h b8 w9 hb8_ hw9_
 refine RL.opS trivial rfl (OpW.buildSliceE (vs := [(0, Sl.v x4), (1, Sl.v x6)]) (cs := [Sl.v x4, Sl.v x6]) (by rfl) (by kernel_rfl) hb8_ hw9_ ?_)
 refine RL.opS trivial rfl (OpW.callR (al := [Sl.v ⟨some ⟨b8, 0, none⟩, 2, 2⟩]) Try.func71 fb_71 fn_71 rfl h (fun x10 w11 h => ?_))
 obtain ⟨x12, w13, hr_, h⟩ := h
 refine RL.opS trivial rfl (OpW.copyL (v := .int .i64 x12) rfl hr_ ?_)
 refine RL.nil ?_
 refine CW.seq ?_
 obtain ⟨w14, hw14_⟩ : ∃ w_, w_ = w13.drew := ⟨_, rfl⟩
 have h := h w14 hw14_
 have hx15 : Ext w13 w14 := by rw [hw14_]; exact Ext.drew _
 refine CW.draws (m := 15) (listed := #[F,F,F,F,F,F,F,F,F,F,F,F,F,F,F]) mixed [0, 1, 2, 3, 4, 5, 6, 7, 8, 9, 10, 11, 12, 14] (Ext w13) rfl rfl ?_
 rw [← hw14_]
 refine DL.takeP (listed' := #[T,F,F,F,F,F,F,F,F,F,F,F,F,F,F]) (v := .pointer p0) 0 rfl rfl (by kernel_rfl) rfl trivial rfl (fun w_ K_ h_ => OpW.move (v := .pointer p0) rfl h_) ?_
 obtain ⟨a16, ha17, h⟩ := h
 refine DL.takeP (listed' := #[T,T,F,F,F,F,F,F,F,F,F,F,F,F,F]) (v := .pointer (some a16)) 1 rfl rfl (by kernel_rfl) rfl trivial rfl (fun w_ K_ h_ => OpW.nilCheck (a := a16) (congrArg Value.pointer ha17) h_) ?_
 refine DL.takeP (listed' := #[T,T,T,F,F,F,F,F,F,F,F,F,F,F,F]) (v := .pointer (some (Addr.add a16 0))) 2 rfl rfl (by kernel_rfl) rfl trivial rfl (fun w_ K_ h_ => OpW.fieldAddr (off := 0) field_95_0 rfl h_) ?_
 obtain ⟨x18, h1, h⟩ := h
 refine DL.takeK (listed' := #[T,T,T,T,F,F,F,F,F,F,F,F,F,F,F]) (v := .pointer x18) 3 rfl rfl (by kernel_rfl) (by kernel_rfl) rfl trivial rfl hx15 (fun w_ hS_ K_ h_ => OpW.load1 (v := .pointer x18) one_31 rfl (hS_.cell h1) h_) ?_
 refine DL.takeP (listed' := #[T,T,T,T,T,F,F,F,F,F,F,F,F,F,F]) (v := .pointer p0) 4 rfl rfl (by kernel_rfl) rfl trivial rfl (fun w_ K_ h_ => OpW.move (v := .pointer p0) rfl h_) ?_
 obtain ⟨a19, ha20, h⟩ := h
 refine DL.takeP (listed' := #[T,T,T,T,T,T,F,F,F,F,F,F,F,F,F]) (v := .pointer (some a19)) 5 rfl rfl (by kernel_rfl) rfl trivial rfl (fun w_ K_ h_ => OpW.nilCheck (a := a19) (congrArg Value.pointer ha20) h_) ?_
 refine DL.takeP (listed' := #[T,T,T,T,T,T,T,F,F,F,F,F,F,F,F]) (v := .pointer (some (Addr.add a19 1))) 6 rfl rfl (by kernel_rfl) rfl trivial rfl (fun w_ K_ h_ => OpW.fieldAddr field_95_1 rfl h_) ?_
 obtain ⟨x21, h1, h⟩ := h
 refine DL.takeK (listed' := #[T,T,T,T,T,T,T,T,F,F,F,F,F,F,F]) (v := .int .i64 x21) 7 rfl rfl (by kernel_rfl) (by kernel_rfl) rfl trivial rfl hx15 (fun w_ hS_ K_ h_ => OpW.load1 (v := .int .i64 x21) one_3 rfl (hS_.cell h1) h_) ?_
 refine DL.takeP (listed' := #[T,T,T,T,T,T,T,T,T,F,F,F,F,F,F]) (v := .int .u64 p1) 8 rfl rfl (by kernel_rfl) rfl trivial rfl (fun w_ K_ h_ => OpW.move (v := .int .u64 p1) rfl h_) ?_
 refine DL.takeP (listed' := #[T,T,T,T,T,T,T,T,T,T,F,F,F,F,F]) (v := .int .u64 (Int.tmod p1 2)) 9 rfl rfl (by kernel_rfl) rfl trivial rfl (fun w_ K_ h_ => OpW.quo (a := p1) (b := 2) (v := .int .u64 (Int.tmod p1 2)) rfl rfl (by decide) rfl h_) ?_
 refine DL.takeP (listed' := #[T,T,T,T,T,T,T,T,T,T,T,F,F,F,F]) (v := .int .i64 (IntKind.i64.wrap (Int.tmod p1 2))) 10 rfl rfl (by kernel_rfl) rfl trivial rfl (fun w_ K_ h_ => OpW.convInt (a := (Int.tmod p1 2)) int_25 int_3 rfl h_) ?_
 refine DL.takeP (listed' := #[T,T,T,T,T,T,T,T,T,T,T,T,F,F,F]) (v := .int .i64 (IntKind.i64.wrap (x21 + (IntKind.i64.wrap (Int.tmod p1 2))))) 11 rfl rfl (by kernel_rfl) rfl trivial rfl (fun w_ K_ h_ => OpW.bin (k := .i64) (a := x21) (b := (IntKind.i64.wrap (Int.tmod p1 2))) (v := .int .i64 (IntKind.i64.wrap (x21 + (IntKind.i64.wrap (Int.tmod p1 2))))) rfl rfl rfl h_) ?_
 refine DL.takeP (listed' := #[T,T,T,T,T,T,T,T,T,T,T,T,T,F,F]) (v := Sl.v x3) 12 rfl rfl (by kernel_rfl) rfl trivial rfl (fun w_ K_ h_ => OpW.move (v := Sl.v x3) rfl h_) ?_
 refine DL.execS (listed' := #[T,T,T,T,T,T,T,T,T,T,T,T,T,T,F]) 13 rfl (by kernel_rfl) rfl trivial rfl (OpW.callR (al := [.pointer x18, .int .i64 (IntKind.i64.wrap (x21 + (IntKind.i64.wrap (Int.tmod p1 2)))), Sl.v x3]) Try.func33 fb_33 fn_33 rfl h (fun x22 w23 h => ?_))
 refine ⟨(fun h_ => absurd h_ (by decide)), ?_⟩
 refine DL.takeP (listed' := #[T,T,T,T,T,T,T,T,T,T,T,T,T,T,T]) (v := .int .i64 x22) 14 rfl rfl (by kernel_rfl) rfl trivial rfl (fun w_ K_ h_ => OpW.assign (v := .int .i64 x22) rfl h_) ?_
 refine DL.done (by kernel_rfl) ?_
 refine jn_elim h ?_; clear h; intro k43 hk44 h
 refine CW.seqJ (A := Int) (fun s31 ρ => ρ 8 = .int .i64 s31 ∧ ρ 0 = .pointer p0 ∧ ρ 1 = .int .u64 p1) k43 ?_ ?_
 ·rintro s31 ρ w32 ⟨e33, e34, e35⟩ h
  subst hk44
  refine CW.seq ?_
  refine CW.seq ?_
  refine CW.region ?_
  refine RL.opS trivial rfl (OpW.move (v := .int .i64 s31) e33 ?_)
  refine RL.opS trivial rfl (OpW.bin (k := .i64) (a := s31) (b := 0) (v := .bool (!decide (s31 = 0))) rfl rfl rfl ?_)
  refine RL.nil ?_
  obtain ⟨ha, hc⟩ := h
  refine CW.cond (b := (!decide (s31 = 0))) rfl (fun hb36 => ?_) (fun hb36 => ?_)
  ·have h := ha hb36; clear ha hc
   refine CW.seq ?_
   refine CW.region ?_
   refine RL.opS trivial rfl (OpW.move (v := .pointer p0) e34 ?_)
   obtain ⟨a37, ha38, h⟩ := h
   refine RL.opS trivial rfl (OpW.nilCheck (a := a37) (congrArg Value.pointer ha38) ?_)
   refine RL.opS trivial rfl (OpW.fieldAddr field_95_6 rfl ?_)
   obtain ⟨u_, h1, h2, h⟩ := h
   obtain ⟨w39, hw39_⟩ : ∃ w_, w_ = w32.setCell (Addr.add a37 6) (.bool true) := ⟨_, rfl⟩
   have h := h w39 hw39_
   refine RL.opN trivial (OpW.store1E (v := .bool true) size_4 rfl rfl rfl h1 h2 hw39_ ?_)
   refine RL.nil ?_
   refine CW.seq ?_
   refine CW.region ?_
   refine RL.opS trivial rfl (OpW.move (v := .int .i64 s31) e33 ?_)
   refine RL.opS trivial rfl (OpW.assign (v := .int .i64 s31) rfl ?_)
   refine RL.nil ?_
   refine CW.ret ?_
   exact ret_intro (res1 rfl rfl) ⟨s31, rfl, h⟩
  ·have h := hc hb36; clear ha hc
   refine CW.skip ?_
   refine CW.seq ?_
   refine CW.region ?_
   refine RL.opS trivial rfl (OpW.move (v := .pointer p0) e34 ?_)
   refine RL.opS trivial rfl (OpW.move (v := .int .u64 p1) e35 ?_)
   obtain ⟨a40, ha41, h⟩ := h
   refine RL.opS trivial rfl (OpW.nilCheck (a := a40) (congrArg Value.pointer ha41) ?_)
   refine RL.opS trivial rfl (OpW.fieldAddr field_95_3 rfl ?_)
   obtain ⟨u_, h1, h2, h⟩ := h
   obtain ⟨w42, hw42_⟩ : ∃ w_, w_ = w32.setCell (Addr.add a40 3) (.int .u64 p1) := ⟨_, rfl⟩
   have h := h w42 hw42_
   refine RL.opN trivial (OpW.store1E (v := .int .u64 p1) size_25 rfl rfl rfl h1 h2 hw42_ ?_)
   refine RL.nil ?_
   refine CW.seq ?_
   refine CW.region ?_
   refine RL.opS trivial rfl (OpW.assign (v := .int .i64 0) rfl ?_)
   refine RL.nil ?_
   refine CW.ret ?_
   exact ret_intro (res1 rfl rfl) ⟨0, rfl, h⟩
 ·clear hk44
  refine CW.seq ?_
  refine CW.region ?_
  refine RL.opS trivial rfl (OpW.move (v := .int .i64 x22) rfl ?_)
  refine RL.opS trivial rfl (OpW.bin (k := .i64) (a := x22) (b := 0) (v := .bool (decide (x22 = 0))) rfl rfl rfl ?_)
  refine RL.nil ?_
  obtain ⟨ha, hc⟩ := h
  refine CW.cond (b := (decide (x22 = 0))) rfl (fun hb25 => ?_) (fun hb25 => ?_)
  ·have h := ha hb25; clear ha hc
   refine CW.region ?_
   refine RL.opS trivial rfl (OpW.move (v := .pointer p0) rfl ?_)
   obtain ⟨a26, ha27, h⟩ := h
   refine RL.opS trivial rfl (OpW.nilCheck (a := a26) (congrArg Value.pointer ha27) ?_)
   refine RL.opS trivial rfl (OpW.fieldAddr (off := 0) field_95_0 rfl ?_)
   obtain ⟨x28, h1, h⟩ := h
   refine RL.opS trivial rfl (OpW.load1 (v := .pointer x28) one_31 rfl h1 ?_)
   refine RL.opS trivial rfl (OpW.callR (al := [.pointer x28]) Try.func34 fb_34 fn_34 rfl h (fun x29 w30 h => ?_))
   refine RL.opS trivial rfl (OpW.assign (v := .int .i64 x29) rfl ?_)
   refine RL.nil ?_
   exact ⟨x29, ⟨rfl, rfl, rfl⟩, h⟩
  ·have h := hc hb25; clear ha hc
   refine CW.skip ?_
   exact ⟨x22, ⟨rfl, rfl, rfl⟩, h⟩
end Go.Proofs.Ytagkcbbbdlmcjaa
end
section
/- The journal in memory; a head that is written; room, length, what is broken; an emptying. -/
namespace Go.Proofs.Ytagkcbbbdlmcjaa
open Go.Lift Go.Lift.Disk Go.Lift.Crc Go.Lift.Wal Go.RowKit
def WFoot (pd bb pl : Nat) : Nat → Prop := fun k => Foot pd bb k ∨ k = pl
abbrev logC (pd frm room seq : Nat) (sd : Sl) (count : Nat) (broken : Bool) : List Value :=
 [.pointer (dp pd), .int .i64 (frm : Int), .int .i64 (room : Int), .int .u64 (seq : Int), sd.v, .int .i64 (count : Int), .bool broken]
structure LgWf (L : Lg) (frm room : Nat) : Prop where
 hfrm : frm ≤ 4096
 hroom : room ≤ 2097152
 hseq : L.seq ≤ last
 hdata : L.data.length ≤ room
 hcount : L.count ≤ L.data.length
structure WX (w : World) (lo : Nat → Prop) (pd bb pl frm room g : Nat) (sd : Sl) (D : Dk) (L : Lg) : Prop where
 disk : DAt w (fun k => (lo k ∧ k ≠ pl) ∧ k ≠ g) pd bb D
 log : Blk w pl 95 (logC pd frm room L.seq sd L.count L.broken)
 data : Bytes w sd L.data
 cap : sd.len ≤ sd.cap
 nil : sd.a = none → sd.len = 0 ∧ sd.cap = 0
 row : ∀ a, sd.a = some a → a.block = g ∧ g ≠ pl ∧ lo g
 glt : g < w.heap.size
 lopl : lo pl
 wf : LgWf L frm room
def WAt (w : World) (lo : Nat → Prop) (pd bb pl frm room : Nat) (D : Dk) (L : Lg) : Prop := ∃ g sd, WX w lo pd bb pl frm room g sd D L
section
variable {w w' : World} {lo : Nat → Prop} {pd bb pl frm room g : Nat} {sd : Sl} {D : Dk} {L : Lg}
theorem WX.fr {X : Nat → Prop} (h : WX w lo pd bb pl frm room g sd D L) (hf : Fr X w w') (hX : ∀ k, lo k → ¬ X k) : WX w' lo pd bb pl frm room g sd D L :=
 ⟨h.disk.fr hf fun k hk => hX k hk.1.1, h.log.fr hf (hX pl h.lopl), hf.bytes (fun a ha => by obtain ⟨e1, _, e3⟩ := h.row a ha; rw [e1]; exact hX g e3) h.data, h.cap, h.nil, h.row, Nat.lt_of_lt_of_le h.glt hf.size, h.lopl, h.wf⟩
theorem WX.ext (h : WX w lo pd bb pl frm room g sd D L) (hf : Ext w w') : WX w' lo pd bb pl frm room g sd D L :=
 h.fr (X := fun _ => False) (Fr.of hf) (fun _ _ h => h)
theorem WAt.ext (h : WAt w lo pd bb pl frm room D L) (hf : Ext w w') : WAt w' lo pd bb pl frm room D L := by
 obtain ⟨g, sd, h⟩ := h
 exact ⟨g, sd, h.ext hf⟩
theorem WX.lt (h : WX w lo pd bb pl frm room g sd D L) : pl < w.heap.size ∧ pd < w.heap.size ∧ bb < w.heap.size ∧ ¬ Foot pd bb pl ∧ ¬ Foot pd bb g := by
 obtain ⟨h1, h2, h3, h4⟩ := h.disk.lt
 refine ⟨h.log.lt, h3, h4, ?_, ?_⟩
 ·rintro (e | e)
  ·exact h1.1.2 e.symm
  ·exact h2.1.2 e.symm
 ·rintro (e | e)
  ·exact h1.2 e.symm
  ·exact h2.2 e.symm
theorem WAt.disk (h : WAt w lo pd bb pl frm room D L) : DAt w lo pd bb D := by
 obtain ⟨g, sd, h⟩ := h
 exact h.disk.mono fun k _ hk => hk.1.1
theorem WAt.wf (h : WAt w lo pd bb pl frm room D L) : LgWf L frm room := by
 obtain ⟨g, sd, h⟩ := h
 exact h.wf
theorem WAt.lt (h : WAt w lo pd bb pl frm room D L) : lo pl ∧ lo pd ∧ lo bb ∧ pl < w.heap.size ∧ pd < w.heap.size ∧ bb < w.heap.size := by
 obtain ⟨g, sd, h⟩ := h
 obtain ⟨a, b, c, _⟩ := h.lt
 obtain ⟨d, e, _⟩ := h.disk.lt
 exact ⟨h.lopl, d.1.1, e.1.1, a, b, c⟩
abbrev lp (pl : Nat) : Option Addr := some ⟨pl, 0, none⟩
theorem room_ok (h : WAt w lo pd bb pl frm room D L) : Calls Try.prog 17 #[.pointer (lp pl)] w (Ret r17 fun x w' => x = (room : Int) - (L.data.length : Int) ∧ Ext w w') := by
 obtain ⟨g, sd, h⟩ := h
 apply s17_calls
 refine ⟨fun h => absurd h (by simp), fun _ => ?_⟩
 intro w2 hw2
 have hx2 : Ext w w2 := by subst hw2; exact Ext.drew _
 refine ⟨_, rfl, (room : Int), by rw [add_plain]; exact h.log.cell rfl, _, rfl, sd, by rw [add_plain]; exact h.log.cell rfl, ?_, hx2⟩
 have h1 := h.data.1
 have h2 := h.wf.hroom
 have h3 := h.wf.hdata
 rw [w64_eq (by omega) (by omega)]
 omega
theorem len_ok (h : WAt w lo pd bb pl frm room D L) : Calls Try.prog 22 #[.pointer (lp pl)] w (Ret r22 fun x w' => x = (L.count : Int) ∧ w = w') := by
 obtain ⟨g, sd, h⟩ := h
 apply s22_calls
 refine ⟨fun h => absurd h (by simp), fun _ => ?_⟩
 exact ⟨_, rfl, (L.count : Int), by rw [add_plain]; exact h.log.cell rfl, rfl, rfl⟩
theorem broken_ok (h : WAt w lo pd bb pl frm room D L) : Calls Try.prog 46 #[.pointer (lp pl)] w (Ret r46 fun x w' => x = L.broken ∧ w = w') := by
 obtain ⟨g, sd, h⟩ := h
 apply s46_calls
 refine jn_of fun k hk => ⟨fun h => absurd h (by simp), fun _ => ?_⟩
 refine ⟨_, rfl, L.broken, by rw [add_plain]; exact h.log.cell rfl, ?_⟩
 rw [hk]
 exact ⟨rfl, rfl⟩
theorem room_nil (w : World) : Calls Try.prog 17 #[.pointer none] w (Ret r17 fun x w' => x = 0 ∧ w = w') := by
 apply s17_calls
 exact ⟨fun _ => ⟨rfl, rfl⟩, fun h => absurd h (by simp)⟩
theorem len_nil (w : World) : Calls Try.prog 22 #[.pointer none] w (Ret r22 fun x w' => x = 0 ∧ w = w') := by
 apply s22_calls
 exact ⟨fun _ => ⟨rfl, rfl⟩, fun h => absurd h (by simp)⟩
theorem broken_nil (w : World) : Calls Try.prog 46 #[.pointer none] w (Ret r46 fun x w' => x = true ∧ w = w') := by
 apply s46_calls
 refine jn_of fun k hk => ⟨fun _ => ?_, fun h => absurd h (by simp)⟩
 rw [hk]
 exact ⟨rfl, rfl⟩
end
/-- how much may still be done to a disk -/
def Bnd (D : Dk) (k : Nat) : Prop := D.changes + k < 1000000000 ∧ D.pend.length + k < 1000000
theorem crash_size (D : Dk) (f : Fall) : (D.crash f).changes = D.changes ∧ (D.crash f).pend.length ≤ D.pend.length := by
 unfold Dk.crash
 split
 ·exact ⟨rfl, Nat.le_refl _⟩
 ·exact ⟨rfl, Nat.zero_le _⟩
theorem strike_size (D : Dk) : D.strike.1.changes = D.changes + 1 ∧ D.strike.1.pend.length ≤ D.pend.length := by
 cases hf : D.falls.find? (fun f => f.1 == (D.changes : Int)) with
 | none => rw [strike_none hf]; exact ⟨rfl, Nat.le_refl _⟩
 | some f => rw [strike_some hf]; exact crash_size (Dk.tick D) f
theorem Bnd.write {D : Dk} {k : Nat} (h : Bnd D (k + 1)) (i : Int) (b : List UInt8) : Bnd (D.write i b).1 k := by
 obtain ⟨h1, h2⟩ := h
 unfold Dk.write
 split
 ·exact ⟨by show D.changes + k < _; omega, by show D.pend.length + k < _; omega⟩
 ·split
  ·exact ⟨by show D.changes + k < _; omega, by show D.pend.length + k < _; omega⟩
  ·obtain ⟨a, b⟩ := strike_size (D.put i.toNat b)
   have e1 : (D.put i.toNat ‹List UInt8›).changes = D.changes := rfl
   have e2 : (D.put i.toNat ‹List UInt8›).pend.length = D.pend.length + 1 := by unfold Dk.put; simp
   exact ⟨by omega, by omega⟩
theorem Bnd.flush {D : Dk} {k : Nat} (h : Bnd D (k + 1)) : Bnd D.flush.1 k := by
 obtain ⟨h1, h2⟩ := h
 unfold Dk.flush
 split
 ·exact ⟨by show D.changes + k < _; omega, by show D.pend.length + k < _; omega⟩
 ·obtain ⟨a, b⟩ := strike_size D
  split
  ·exact ⟨by omega, by omega⟩
  ·exact ⟨by show D.strike.1.changes + k < _; omega, by show 0 + k < _; omega⟩
theorem Bnd.mono {D : Dk} {k m : Nat} (h : Bnd D k) (hm : m ≤ k) : Bnd D m := ⟨by have := h.1; omega, by have := h.2; omega⟩
theorem Bnd.head {D : Dk} {k : Nat} (h : Bnd D (k + 2)) (frm seq n : Nat) : Bnd (headW D frm seq n).1 k := by
 unfold headW
 split
 ·exact (Bnd.write (k := k + 1) h _ _).flush
 ·exact (Bnd.write (k := k + 1) h _ _).mono (by omega)

theorem head_ok {w : World} {base : Nat → Prop} {pd bb pl frm room seq0 c : Nat} {sd : Sl} {D : Dk} (h : DAt w base pd bb D) (hpl : ¬ base pl) (hl : Blk w pl 95 (logC pd frm room seq0 sd c false)) (hB : ∀ k, w.heap.size ≤ k → base k)
  (hb : Bnd D 2) (hfrm : frm ≤ 4096) (seq n : Nat) (hs : seq < 9223372036854775808) (hn : n ≤ 1000000000) :
  Calls Try.prog 48 #[.pointer (lp pl), .int .u64 (seq : Int), .int .i64 (n : Int)] w (Ret r48 fun x w' => x = (headW D frm seq n).2 ∧ DAt w' base pd bb (headW D frm seq n).1 ∧
   Blk w' pl 95 (logC pd frm room (if (headW D frm seq n).2 = 0 then seq else seq0) sd c (decide ((headW D frm seq n).2 ≠ 0))) ∧ Fr (WFoot pd bb pl) w w') := by
 apply s48_calls
 obtain ⟨hpd, hbb, hpdl, hbbl⟩ := h.lt
 have hpln : ¬ Foot pd bb pl := by
  rintro (e | e)
  ·rw [e] at hpl; exact hpl hpd
  ·rw [e] at hpl; exact hpl hbb
 have hpll := hl.lt
 refine ⟨by decide, by decide, by decide, by decide, fun b3 w2 hb3 hw2 => ?_⟩
 have hx2 : Ext w w2 := Ext.new hw2
 have hB2 : Blk w2 b3 5 (u8s (zeros 512)) := by
  unfold zeros
  rw [← zeros_u8']
  exact Blk.new hb3 hw2
 rw [wu64_eq (by omega) (by omega)]
 refine cR_of (half_ok w2 seq n (by omega) (by omega)) ?_
 rintro x4 w5 ⟨ho4, hl4, hx5⟩
 refine cR_of (half_ok w5 n seq (by omega) (by omega)) ?_
 rintro x6 w7 ⟨ho6, hl6, hx7⟩
 intro b8 w9 hb8 hw9
 have hx9 : Ext w7 w9 := Ext.new hw9
 have hp : Parts w9 ⟨some ⟨b8, 0, none⟩, 2, 2⟩ [halfB seq n, halfB n seq] := by
  refine ⟨[x4, x6], rfl, rfl, At.new hb8 hw9, ?_⟩
  intro k s c hs hc
  rcases k with _ | _ | k
  ·simp at hs hc
   subst hs; subst hc
   exact ((ho4.ext hx7).ext hx9).bytes
  ·simp at hs hc
   subst hs; subst hc
   exact (ho6.ext hx9).bytes
  ·simp at hs
 have hfl : [halfB seq n, halfB n seq].flatten = halfB seq n ++ halfB n seq := by simp
 have hfll : (halfB seq n ++ halfB n seq).length = 48 := by rw [List.length_append, halfB_len, halfB_len]
 refine cR_of (concat_ok w9 _ _ hp (by simp) (by rw [hfl, hfll]; decide)) ?_
 rintro x10 w11 ⟨ho10, hl10, hx11⟩
 rw [hfl] at ho10 hl10
 rw [hfll] at hl10
 have hxx := ((hx5.trans hx7).trans hx9).trans hx11
 have hB11 := hB2.ext hxx
 refine cpy_blk (g := b3) (o := 0) (dLen := 512) (dCap := 512) (s := x10) (cs := u8s (halfB seq n ++ halfB n seq)) mk_39 hB11 (by rw [u8s_len, hfll, hl10]; rfl) ho10.at (by rw [u8s_len, u8s_len, hfll, zeros, List.length_replicate]; decide) (u8s_one _) ?_ fun w13 hB13 hf13 => ?_
 ·intro hna
  have := bytes_some ho10.bytes (by intro e; rw [e] at hfll; cases hfll)
  exact absurd hna this
 have hsp : splice (u8s (zeros 512)) 0 (u8s (halfB seq n ++ halfB n seq)) = u8s (headB seq n) := by
  unfold splice
  rw [List.take_zero, List.nil_append, u8s_len, hfll, u8s_drop, ← u8s_append]
  unfold zeros headB zeros
  rw [List.drop_replicate, List.append_assoc]
 rw [hsp] at hB13
 have hx13 : Ext w w13 := hf13.ext (hx2.trans hxx) fun k _ e => by rw [e, hb3]; exact Nat.le_refl _
 intro w14 hw14
 have hx14 : Ext w13 w14 := by subst hw14; exact Ext.drew _
 have hl13 := hl.ext hx13
 have hx14' := hx13.trans hx14
 refine ⟨_, rfl, dp pd, by rw [add_plain]; exact hl13.cell rfl, _, rfl, (frm : Int), by rw [add_plain]; exact hl13.cell rfl, ?_⟩
 have e2 : IntKind.i64.wrap ((frm : Int) + IntKind.i64.wrap (Int.tmod (seq : Int) 2)) = ((frm + seq % 2 : Nat) : Int) := by
  rw [Int.tmod_eq_emod_of_nonneg (by omega), w64_eq (x := (seq : Int) % 2) (by omega) (by omega), w64_eq (by omega) (by omega)]; omega
 show cR _ _ _ _ _ _
 rw [e2]
 have hby : Bytes w14 ⟨some ⟨b3, 0, none⟩, 512, 512⟩ (headB seq n) := ⟨by rw [headB_len], (hB13.ext hx14).at (by rw [List.drop_zero, List.take_length])⟩
 refine cR_of (write_ok (h.ext hx14') (by have := hb.1; omega) (by have := hb.2; omega) (fun k hk => hB k (Nat.le_trans hx14'.size hk)) ((frm + seq % 2 : Nat) : Int) _ _ hby) ?_
 rintro x22 w23 ⟨rfl, h23, hf23⟩
 have hbw := Bnd.write (k := 1) hb ((frm + seq % 2 : Nat) : Int) (headB seq n)
 have hl23 := (hl.ext hx14').fr hf23 hpln
 have hF23 : Fr (Foot pd bb) w w23 := (Fr.of hx14').trans hf23
 unfold headW
 generalize D.write ((frm + seq % 2 : Nat) : Int) (headB seq n) = R at h23 hbw ⊢
 refine jn_of fun k1 hk1 => ?_
 have key : ∀ (S : Dk × Int) (w' : World), (if R.2 = 0 then R.1.flush else R) = S → DAt w' base pd bb S.1 → Blk w' pl 95 (logC pd frm room seq0 sd c false) → Fr (Foot pd bb) w w' → k1 S.2 w' := by
  intro S w' hS hD' hl' hF'
  rw [hk1, hS]
  refine ⟨fun hne => ?_, fun he => ?_⟩
  ·have hne := nd_t hne
   refine ⟨_, rfl, ?_⟩
   show st1 _ _ _ _
   rw [add_plain]
   refine st1_blk hl' (by simp) fun w39 hB39 hf39 => ?_
   rw [if_neg hne, decide_eq_true hne]
   exact ⟨rfl, hD'.fr hf39 fun k hk e => hpl (by have e : k = pl := e; rw [← e]; exact hk), hB39, (hF'.mono fun k _ hk => .inl hk).trans (hf39.mono fun k _ hk => .inr hk)⟩
  ·have he := nd_f he
   refine ⟨_, rfl, ?_⟩
   show st1 _ _ _ _
   rw [add_plain]
   refine st1_blk hl' (by simp) fun w39 hB39 hf39 => ?_
   rw [if_pos he, decide_eq_false (by rw [he]; simp)]
   exact ⟨he.symm, hD'.fr hf39 fun k hk e => hpl (by have e : k = pl := e; rw [← e]; exact hk), hB39, (hF'.mono fun k _ hk => .inl hk).trans (hf39.mono fun k _ hk => .inr hk)⟩
 refine ⟨fun h0 => ?_, fun h0 => ?_⟩
 ·have h0 := of_decide_eq_true h0
  refine ⟨_, rfl, dp pd, by rw [add_plain]; exact hl23.cell rfl, ?_⟩
  refine cR_of (flush_ok h23 (by have := hbw.1; omega)) ?_
  rintro x29 w30 ⟨rfl, h30, hf30⟩
  exact key R.1.flush w30 (if_pos h0) h30 (hl23.fr hf30 hpln) (hF23.trans hf30)
 ·have h0 := of_decide_eq_false h0
  exact key R w23 (if_neg h0) h23 hl23 hF23

/-! ### an emptying -/
theorem reset_ok {w : World} {lo : Nat → Prop} {pd bb pl frm room : Nat} {D : Dk} {L : Lg} (h : WAt w lo pd bb pl frm room D L) (hlo : ∀ k, w.heap.size ≤ k → lo k) (hb : Bnd D 2) :
  Calls Try.prog 21 #[.pointer (lp pl)] w (Ret r21 fun x w' => x = (resetD D L frm).2.2 ∧ WAt w' lo pd bb pl frm room (resetD D L frm).1 (resetD D L frm).2.1 ∧ Fr (WFoot pd bb pl) w w') := by
 apply s21_calls
 refine cR_of (broken_ok h) ?_
 rintro x1 w2 ⟨rfl, rfl⟩
 unfold resetD
 refine ⟨fun hbr => ?_, fun hbr => ?_⟩
 ·rw [if_pos hbr]
  exact ⟨rfl, h, Fr.refl _⟩
 rw [if_neg (by rw [hbr]; simp)]
 obtain ⟨g, sd, h⟩ := h
 have hwf := h.wf
 have hsq := hwf.hseq
 have hrm := hwf.hroom
 have hct := hwf.hcount
 have hdt := hwf.hdata
 have hll : last = 4611686018427387904 := rfl
 obtain ⟨hpll, hpdl, hbbl, hpln, hgn⟩ := h.lt
 have hlog := h.log
 rw [hbr] at hlog
 refine ⟨_, rfl, (L.seq : Int), by rw [add_plain]; exact hlog.cell rfl, ?_⟩
 refine ⟨fun he => ?_, fun he => ?_⟩
 ·have he := of_decide_eq_true he
  rw [if_pos (by omega)]
  exact ⟨rfl, ⟨g, sd, h⟩, Fr.refl _⟩
 have he := of_decide_eq_false he
 rw [if_neg (by omega)]
 refine ⟨_, rfl, (L.seq : Int), by rw [add_plain]; exact hlog.cell rfl, ?_⟩
 have e1 : IntKind.u64.wrap ((L.seq : Int) + 1) = ((L.seq + 1 : Nat) : Int) := by rw [wu64_eq (by omega) (by omega)]; omega
 show cR _ _ _ _ _ _
 rw [e1]
 have hgl := h.glt
 refine cR_of (head_ok h.disk (fun hk => hk.1.2 rfl) hlog (fun k hk => ⟨⟨hlo k hk, by omega⟩, by omega⟩) hb hwf.hfrm (L.seq + 1) 0 (by omega) (by decide)) ?_
 rintro x11 w12 ⟨rfl, h12, hl12, hf12⟩
 have hd12 : ∀ a, sd.a = some a → ¬ WFoot pd bb pl a.block := by
  intro a ha
  obtain ⟨e1, e2, _⟩ := h.row a ha
  rw [e1]
  rintro (e | e)
  ·exact hgn e
  ·exact e2 e
 refine ⟨fun hne => ?_, fun h0 => ?_⟩
 ·have hne := nd_t hne
  rw [if_neg hne]
  rw [if_neg hne, decide_eq_true hne] at hl12
  exact ⟨rfl, ⟨g, sd, h12, hl12, hf12.bytes hd12 h.data, h.cap, h.nil, h.row, Nat.lt_of_lt_of_le hgl hf12.size, h.lopl, ⟨hwf.hfrm, hwf.hroom, hwf.hseq, hwf.hdata, hwf.hcount⟩⟩, hf12⟩
 ·have h0 := nd_f h0
  rw [if_pos h0]
  rw [if_pos h0, decide_eq_false (by rw [h0]; simp)] at hl12
  refine ⟨_, rfl, ?_⟩
  show st1 _ _ _ _
  rw [add_plain]
  refine st1_blk hl12 (by simp) fun w16 hB16 hf16 => ?_
  refine ⟨_, rfl, ?_⟩
  show st1 _ _ _ _
  rw [add_plain]
  refine st1_blk hB16 (by simp) fun w19 hB19 hf19 => ?_
  have hff := hf16.trans hf19
  refine ⟨rfl, ⟨g, nilSl, h12.fr hff fun k hk e => hk.1.2 e, hB19, ⟨rfl, rfl⟩, Nat.le_refl _, fun _ => ⟨rfl, rfl⟩, (fun a ha => by cases ha), ?_, h.lopl, ⟨hwf.hfrm, hwf.hroom, by show L.seq + 1 ≤ last; omega, Nat.zero_le _, Nat.le_refl _⟩⟩, hf12.trans (hff.mono fun k _ hk => .inr hk)⟩
  exact Nat.lt_of_lt_of_le hgl (Nat.le_trans hf12.size hff.size)
theorem reset_nil (w : World) : Calls Try.prog 21 #[.pointer none] w (Ret r21 fun x w' => x = 3 ∧ w = w') := by
 apply s21_calls
 refine cR_of (broken_nil w) ?_
 rintro x1 w2 ⟨rfl, rfl⟩
 exact ⟨fun _ => ⟨rfl, rfl⟩, fun h => absurd h (by simp)⟩
end Go.Proofs.Ytagkcbbbdlmcjaa
end
section
/- The typed readings of the functions, and that the program meets each: written by gen.py (a program of this session). -/
namespace Go.Proofs.Ytagkcbbbdlmcjaa
open Go.Lift
set_option maxRecDepth 100000 in
set_option maxHeartbeats 4000000 in
theorem s20_calls (K : Int → World → Prop) (p0 : Option Addr) (p1 : Sl) (w : World) (h : s20 K p0 p1 w) :
  Calls Try.prog 20 #[.pointer p0, Sl.v p1] w (Ret r20 K) := by
 unfold s20 at h
 refine calls_of_CW (n := 133) Try.func20 rfl rfl rfl ?_
 refine CW.seq ?_
 refine CW.region ?_
 refine RL.opS trivial rfl (OpW.assign (v := .int .i64 0) rfl ?_)
 refine RL.nil ?_
 refine CW.seq ?_
 refine CW.seq ?_
 refine CW.region ?_
 refine RL.opS trivial rfl (OpW.move (v := .pointer p0) rfl ?_)
 refine RL.opS trivial rfl (OpW.callR (al := [.pointer p0]) Try.func46 fb_46 fn_46 rfl h (fun x1 w2 h => ?_))
 refine RL.nil ?_
 obtain ⟨ha, hc⟩ := h
 refine CW.cond (b := x1) rfl (fun hb3 => ?_) (fun hb3 => ?_)
 ·have h := ha hb3; clear ha hc
  refine CW.seq ?_
  refine CW.region ?_
  refine RL.opS trivial rfl (OpW.assign (v := .int .i64 3) rfl ?_)
  refine RL.nil ?_
  refine CW.ret ?_
  exact ret_intro (res1 rfl rfl) ⟨3, rfl, h⟩
 ·have h := hc hb3; clear ha hc
  refine CW.skip ?_
  refine CW.seq ?_
  refine CW.seq ?_
  refine CW.region ?_
  refine RL.opS trivial rfl (OpW.move (v := Sl.v p1) rfl ?_)
  refine RL.opS trivial rfl (OpW.len (s := p1) slice_22 rfl ?_)
  refine RL.opS trivial rfl (OpW.bin (k := .i64) (a := (p1.len : Int)) (b := 0) (v := .bool (decide ((p1.len : Int) = 0))) rfl rfl rfl ?_)
  refine RL.nil ?_
  obtain ⟨ha, hc⟩ := h
  refine CW.cond (b := (decide ((p1.len : Int) = 0))) rfl (fun hb4 => ?_) (fun hb4 => ?_)
  ·have h := ha hb4; clear ha hc
   refine CW.seq ?_
   refine CW.region ?_
   refine RL.opS trivial rfl (OpW.assign (v := .int .i64 0) rfl ?_)
   refine RL.nil ?_
   refine CW.ret ?_
   exact ret_intro (res1 rfl rfl) ⟨0, rfl, h⟩
  ·have h := hc hb4; clear ha hc
   refine CW.skip ?_
   refine CW.seq ?_
   refine CW.region ?_
   refine RL.opS trivial rfl (OpW.move (v := .pointer p0) rfl ?_)
   obtain ⟨a5, ha6, h⟩ := h
   refine RL.opS trivial rfl (OpW.nilCheck (a := a5) (congrArg Value.pointer ha6) ?_)
   refine RL.opS trivial rfl (OpW.fieldAddr field_95_4 rfl ?_)
   obtain ⟨x7, h1, h⟩ := h
   refine RL.opS trivial rfl (OpW.load1 (v := Sl.v x7) one_39 rfl h1 ?_)
   refine RL.opS trivial rfl (OpW.callR (al := [Sl.v x7]) Try.func53 fb_53 fn_53 rfl h (fun x8 w9 h => ?_))
   refine RL.opS trivial rfl (OpW.assign (v := Sl.v x8) rfl ?_)
   refine RL.nil ?_
   refine CW.seq ?_
   refine CW.seq ?_
   refine CW.region ?_
   refine RL.opS trivial rfl (OpW.move (v := Sl.v p1) rfl ?_)
   refine RL.opS trivial rfl (OpW.len (s := p1) slice_22 rfl ?_)
   refine RL.opS trivial rfl (OpW.move (v := .int .i64 0) rfl ?_)
   refine RL.nil ?_
   refine CW.block ?_
   obtain ⟨I104, mu105, hI, hs⟩ := h
   refine CW.loop (σ := Sl × Int) (fun s10 ρ => ρ 5 = Sl.v s10.1 ∧ ρ 25 = .int .i64 s10.2 ∧ ρ 0 = .pointer p0 ∧ ρ 1 = Sl.v p1 ∧ ρ 23 = Sl.v p1 ∧ ρ 24 = .int .i64 (p1.len : Int)) I104 mu105 (x8, 0) ⟨rfl, rfl, rfl, rfl, rfl, rfl⟩ hI ?_
   rintro s10 ρ w11 ⟨e13, e14, e15, e16, e17, e18⟩ hI
   have h := hs s10 w11 hI
   clear hs hI
   refine CW.seq ?_
   refine CW.region ?_
   refine RL.opS trivial rfl (OpW.bin (k := .i64) (a := s10.2) (b := (p1.len : Int)) (v := .bool (decide (s10.2 < (p1.len : Int)))) e14 e18 rfl ?_)
   refine RL.nil ?_
   refine CW.seq ?_
   obtain ⟨ha, hc⟩ := h
   refine CW.cond (b := (decide (s10.2 < (p1.len : Int)))) rfl (fun hb19 => ?_) (fun hb19 => ?_)
   ·have h := ha hb19; clear ha hc
    refine CW.skip ?_
    refine CW.seq ?_
    refine CW.block ?_
    refine CW.seq ?_
    refine CW.region ?_
    obtain ⟨a20_, a20, h1, h2, h3, h4, h⟩ := h
    refine RL.opS trivial rfl (OpW.indexE (a' := a20) slice_22 e17 e14 h1 h2 h3 h4 ?_)
    obtain ⟨x22, h1, h⟩ := h
    refine RL.opS trivial rfl (OpW.load1 (v := Sl.v x22) one_39 rfl h1 ?_)
    refine RL.opS trivial rfl (OpW.assign (v := Sl.v x22) rfl ?_)
    refine RL.nil ?_
    refine CW.seq ?_
    refine CW.seq ?_
    refine CW.region ?_
    refine RL.opS trivial rfl (OpW.move (v := Sl.v x22) rfl ?_)
    refine RL.opS trivial rfl (OpW.len (s := x22) slice_39 rfl ?_)
    refine RL.opS trivial rfl (OpW.move (v := .pointer p0) e15 ?_)
    obtain ⟨a23, ha24, h⟩ := h
    refine RL.opS trivial rfl (OpW.nilCheck (a := a23) (congrArg Value.pointer ha24) ?_)
    refine RL.opS trivial rfl (OpW.fieldAddr field_95_2 rfl ?_)
    obtain ⟨x25, h1, h⟩ := h
    refine RL.opS trivial rfl (OpW.load1 (v := .int .i64 x25) one_3 rfl h1 ?_)
    refine RL.opS trivial rfl (OpW.move (v := Sl.v s10.1) e13 ?_)
    refine RL.opS trivial rfl (OpW.len (s := s10.1) slice_39 rfl ?_)
    refine RL.opS trivial rfl (OpW.bin (k := .i64) (a := x25) (b := (s10.1.len : Int)) (v := .int .i64 (IntKind.i64.wrap (x25 - (s10.1.len : Int)))) rfl rfl rfl ?_)
    refine RL.opS trivial rfl (OpW.bin (k := .i64) (a := (x22.len : Int)) (b := (IntKind.i64.wrap (x25 - (s10.1.len : Int)))) (v := .bool (decide ((IntKind.i64.wrap (x25 - (s10.1.len : Int))) < (x22.len : Int)))) rfl rfl rfl ?_)
    refine RL.nil ?_
    obtain ⟨ha, hc⟩ := h
    refine CW.cond (b := (decide ((IntKind.i64.wrap (x25 - (s10.1.len : Int))) < (x22.len : Int)))) rfl (fun hb26 => ?_) (fun hb26 => ?_)
    ·have h := ha hb26; clear ha hc
     refine CW.seq ?_
     refine CW.region ?_
     refine RL.opS trivial rfl (OpW.assign (v := .int .i64 40) rfl ?_)
     refine RL.nil ?_
     refine CW.ret ?_
     exact ret_intro (res1 rfl rfl) ⟨40, rfl, h⟩
    ·have h := hc hb26; clear ha hc
     refine CW.skip ?_
     refine CW.region ?_
     refine RL.opS trivial rfl (OpW.move (v := Sl.v s10.1) e13 ?_)
     refine RL.opS trivial rfl (OpW.move (v := Sl.v x22) rfl ?_)
     refine RL.opS trivial rfl (OpW.callR (al := [Sl.v x22]) Try.func54 fb_54 fn_54 rfl h (fun x27 w28 h => ?_))
     obtain ⟨x29, w30, hr_, h⟩ := h
     refine RL.opS trivial rfl (OpW.appendL (v := Sl.v x29) rfl hr_ ?_)
     refine RL.opS trivial rfl (OpW.assign (v := Sl.v x29) rfl ?_)
     refine RL.nil ?_
     refine CW.region ?_
     refine RL.opS trivial rfl (OpW.bin (k := .i64) (a := s10.2) (b := 1) (v := .int .i64 (IntKind.i64.wrap (s10.2 + 1))) e14 rfl rfl ?_)
     refine RL.opS trivial rfl (OpW.move (v := .int .i64 (IntKind.i64.wrap (s10.2 + 1))) rfl ?_)
     refine RL.nil ?_
     exact ⟨(x29, (IntKind.i64.wrap (s10.2 + 1))), ⟨rfl, rfl, e15, e16, e17, e18⟩, h⟩
   ·have h := hc hb19; clear ha hc
    refine CW.exit ?_
    refine CW.seq ?_
    refine CW.seq ?_
    refine CW.region ?_
    refine RL.opS trivial rfl (OpW.move (v := Sl.v s10.1) e13 ?_)
    refine RL.opS trivial rfl (OpW.len (s := s10.1) slice_39 rfl ?_)
    refine RL.opS trivial rfl (OpW.move (v := .pointer p0) e15 ?_)
    obtain ⟨a31, ha32, h⟩ := h
    refine RL.opS trivial rfl (OpW.nilCheck (a := a31) (congrArg Value.pointer ha32) ?_)
    refine RL.opS trivial rfl (OpW.fieldAddr field_95_2 rfl ?_)
    obtain ⟨x33, h1, h⟩ := h
    refine RL.opS trivial rfl (OpW.load1 (v := .int .i64 x33) one_3 rfl h1 ?_)
    refine RL.opS trivial rfl (OpW.bin (k := .i64) (a := (s10.1.len : Int)) (b := x33) (v := .bool (decide (x33 < (s10.1.len : Int)))) rfl rfl rfl ?_)
    refine RL.opS trivial rfl (OpW.move (v := .bool (decide (x33 < (s10.1.len : Int)))) rfl ?_)
    refine jn_elim h ?_; clear h; intro k102 hk103 h
    refine RL.joinAt (A := Bool) 6 (fun s39 ρ => ρ 57 = .bool s39 ∧ ρ 0 = .pointer p0 ∧ ρ 1 = Sl.v p1 ∧ ρ 5 = Sl.v s10.1) k102 ?_ ?_
    ·rintro s39 ρ w40 ⟨e41, e42, e43, e44⟩ h
     subst hk103
     dsimp only [List.drop]
     refine RL.nil ?_
     obtain ⟨ha, hc⟩ := h
     refine CW.cond (b := s39) e41 (fun hb45 => ?_) (fun hb45 => ?_)
     ·have h := ha hb45; clear ha hc
      refine CW.seq ?_
      refine CW.region ?_
      refine RL.opS trivial rfl (OpW.assign (v := .int .i64 40) rfl ?_)
      refine RL.nil ?_
      refine CW.ret ?_
      exact ret_intro (res1 rfl rfl) ⟨40, rfl, h⟩
     ·have h := hc hb45; clear ha hc
      refine CW.skip ?_
      refine CW.seq ?_
      refine CW.seq ?_
      refine CW.region ?_
      refine RL.opS trivial rfl (OpW.move (v := .pointer p0) e42 ?_)
      obtain ⟨a46, ha47, h⟩ := h
      refine RL.opS trivial rfl (OpW.nilCheck (a := a46) (congrArg Value.pointer ha47) ?_)
      refine RL.opS trivial rfl (OpW.fieldAddr field_95_4 rfl ?_)
      obtain ⟨x48, h1, h⟩ := h
      refine RL.opS trivial rfl (OpW.load1 (v := Sl.v x48) one_39 rfl h1 ?_)
      refine RL.opS trivial rfl (OpW.len (s := x48) slice_39 rfl ?_)
      refine RL.opS trivial rfl (OpW.quo (a := (x48.len : Int)) (b := 512) (v := .int .i64 (IntKind.i64.wrap (Int.tdiv (x48.len : Int) 512))) rfl rfl (by decide) rfl ?_)
      refine RL.opS trivial rfl (OpW.assign (v := .int .i64 (IntKind.i64.wrap (Int.tdiv (x48.len : Int) 512))) rfl ?_)
      refine RL.nil ?_
      refine CW.block ?_
      obtain ⟨I100, mu101, hI, hs⟩ := h
      refine CW.loop (σ := Int) (fun s49 ρ => ρ 8 = .int .i64 s49 ∧ ρ 0 = .pointer p0 ∧ ρ 1 = Sl.v p1 ∧ ρ 5 = Sl.v s10.1) I100 mu101 (IntKind.i64.wrap (Int.tdiv (x48.len : Int) 512)) ⟨rfl, e42, e43, e44⟩ hI ?_
      rintro s49 ρ w50 ⟨e52, e53, e54, e55⟩ hI
      have h := hs s49 w50 hI
      clear hs hI
      refine CW.seq ?_
      refine CW.seq ?_
      refine CW.region ?_
      refine RL.opS trivial rfl (OpW.move (v := .int .i64 s49) e52 ?_)
      refine RL.opS trivial rfl (OpW.bin (k := .i64) (a := s49) (b := 512) (v := .int .i64 (IntKind.i64.wrap (s49 * 512))) rfl rfl rfl ?_)
      refine RL.opS trivial rfl (OpW.move (v := Sl.v s10.1) e55 ?_)
      refine RL.opS trivial rfl (OpW.len (s := s10.1) slice_39 rfl ?_)
      refine RL.opS trivial rfl (OpW.bin (k := .i64) (a := (IntKind.i64.wrap (s49 * 512))) (b := (s10.1.len : Int)) (v := .bool (decide ((IntKind.i64.wrap (s49 * 512)) < (s10.1.len : Int)))) rfl rfl rfl ?_)
      refine RL.nil ?_
      obtain ⟨ha, hc⟩ := h
      refine CW.cond (b := (decide ((IntKind.i64.wrap (s49 * 512)) < (s10.1.len : Int)))) rfl (fun hb56 => ?_) (fun hb56 => ?_)
      ·have h := ha hb56; clear ha hc
       refine CW.skip ?_
       refine CW.seq ?_
       refine CW.block ?_
       refine CW.seq ?_
       refine CW.region ?_
       obtain ⟨h1, h2, h3, h4, h⟩ := h
       obtain ⟨b57, hb57_⟩ : ∃ b_, b_ = w50.heap.size := ⟨_, rfl⟩
       obtain ⟨w58, hw58_⟩ : ∃ w_, w_ = w50.alloc (.cells (List.replicate (Int.toNat 512 * 1) (Value.int .u8 0)).toArray 5) := ⟨_, rfl⟩
       have h := h b57 w58 hb57_ hw58_
       obtain ⟨x59, hx59_⟩ : ∃ s_ : Sl, s_ = ⟨some ⟨b57, 0, none⟩, Int.toNat 512, Int.toNat 512⟩ := ⟨_, rfl⟩
       rw [← hx59_] at h
       refine RL.opS trivial rfl (OpW.makeSliceE mk_39 (by decide) rfl rfl h1 h2 h3 h4 hb57_ hw58_ hx59_ ?_)
       refine RL.opS trivial rfl (OpW.assign (v := Sl.v x59) rfl ?_)
       refine RL.nil ?_
       refine CW.seq ?_
       refine CW.region ?_
       refine RL.opS trivial rfl (OpW.move (v := Sl.v x59) rfl ?_)
       refine RL.opS trivial rfl (OpW.move (v := Sl.v s10.1) e55 ?_)
       refine RL.opS trivial rfl (OpW.move (v := .int .i64 s49) e52 ?_)
       refine RL.opS trivial rfl (OpW.bin (k := .i64) (a := s49) (b := 512) (v := .int .i64 (IntKind.i64.wrap (s49 * 512))) rfl rfl rfl ?_)
       obtain ⟨⟨h1, h2⟩, h⟩ := h
       refine RL.opS trivial rfl (OpW.sliceSl (l := (IntKind.i64.wrap (s49 * 512))) (h := (s10.1.len : Int)) slice_39 rfl ⟨_, rfl⟩ rfl h1 h2 (.inl rfl) ?_)
       obtain ⟨x60, w61, hr_, h⟩ := h
       refine RL.opS trivial rfl (OpW.copyL (v := .int .i64 x60) rfl hr_ ?_)
       refine RL.nil ?_
       refine CW.seq ?_
       obtain ⟨w62, hw62_⟩ : ∃ w_, w_ = w61.drew := ⟨_, rfl⟩
       have h := h w62 hw62_
       have hx63 : Ext w61 w62 := by rw [hw62_]; exact Ext.drew _
       refine CW.draws (m := 14) (listed := #[F,F,F,F,F,F,F,F,F,F,F,F,F,F]) mixed [0, 1, 2, 3, 4, 5, 6, 7, 8, 9, 10, 11, 13] (Ext w61) rfl rfl ?_
       rw [← hw62_]
       refine DL.takeP (listed' := #[T,F,F,F,F,F,F,F,F,F,F,F,F,F]) (v := .pointer p0) 0 rfl rfl (by kernel_rfl) rfl trivial rfl (fun w_ K_ h_ => OpW.move (v := .pointer p0) e53 h_) ?_
       obtain ⟨a64, ha65, h⟩ := h
       refine DL.takeP (listed' := #[T,T,F,F,F,F,F,F,F,F,F,F,F,F]) (v := .pointer (some a64)) 1 rfl rfl (by kernel_rfl) rfl trivial rfl (fun w_ K_ h_ => OpW.nilCheck (a := a64) (congrArg Value.pointer ha65) h_) ?_
       refine DL.takeP (listed' := #[T,T,T,F,F,F,F,F,F,F,F,F,F,F]) (v := .pointer (some (Addr.add a64 0))) 2 rfl rfl (by kernel_rfl) rfl trivial rfl (fun w_ K_ h_ => OpW.fieldAddr (off := 0) field_95_0 rfl h_) ?_
       obtain ⟨x66, h1, h⟩ := h
       refine DL.takeK (listed' := #[T,T,T,T,F,F,F,F,F,F,F,F,F,F]) (v := .pointer x66) 3 rfl rfl (by kernel_rfl) (by kernel_rfl) rfl trivial rfl hx63 (fun w_ hS_ K_ h_ => OpW.load1 (v := .pointer x66) one_31 rfl (hS_.cell h1) h_) ?_
       refine DL.takeP (listed' := #[T,T,T,T,T,F,F,F,F,F,F,F,F,F]) (v := .pointer p0) 4 rfl rfl (by kernel_rfl) rfl trivial rfl (fun w_ K_ h_ => OpW.move (v := .pointer p0) e53 h_) ?_
       obtain ⟨a67, ha68, h⟩ := h
       refine DL.takeP (listed' := #[T,T,T,T,T,T,F,F,F,F,F,F,F,F]) (v := .pointer (some a67)) 5 rfl rfl (by kernel_rfl) rfl trivial rfl (fun w_ K_ h_ => OpW.nilCheck (a := a67) (congrArg Value.pointer ha68) h_) ?_
       refine DL.takeP (listed' := #[T,T,T,T,T,T,T,F,F,F,F,F,F,F]) (v := .pointer (some (Addr.add a67 1))) 6 rfl rfl (by kernel_rfl) rfl trivial rfl (fun w_ K_ h_ => OpW.fieldAddr field_95_1 rfl h_) ?_
       obtain ⟨x69, h1, h⟩ := h
       refine DL.takeK (listed' := #[T,T,T,T,T,T,T,T,F,F,F,F,F,F]) (v := .int .i64 x69) 7 rfl rfl (by kernel_rfl) (by kernel_rfl) rfl trivial rfl hx63 (fun w_ hS_ K_ h_ => OpW.load1 (v := .int .i64 x69) one_3 rfl (hS_.cell h1) h_) ?_
       refine DL.takeP (listed' := #[T,T,T,T,T,T,T,T,T,F,F,F,F,F]) (v := .int .i64 (IntKind.i64.wrap (x69 + 2))) 8 rfl rfl (by kernel_rfl) rfl trivial rfl (fun w_ K_ h_ => OpW.bin (k := .i64) (a := x69) (b := 2) (v := .int .i64 (IntKind.i64.wrap (x69 + 2))) rfl rfl rfl h_) ?_
       refine DL.takeP (listed' := #[T,T,T,T,T,T,T,T,T,T,F,F,F,F]) (v := .int .i64 s49) 9 rfl rfl (by kernel_rfl) rfl trivial rfl (fun w_ K_ h_ => OpW.move (v := .int .i64 s49) e52 h_) ?_
       refine DL.takeP (listed' := #[T,T,T,T,T,T,T,T,T,T,T,F,F,F]) (v := .int .i64 (IntKind.i64.wrap ((IntKind.i64.wrap (x69 + 2)) + s49))) 10 rfl rfl (by kernel_rfl) rfl trivial rfl (fun w_ K_ h_ => OpW.bin (k := .i64) (a := (IntKind.i64.wrap (x69 + 2))) (b := s49) (v := .int .i64 (IntKind.i64.wrap ((IntKind.i64.wrap (x69 + 2)) + s49))) rfl rfl rfl h_) ?_
       refine DL.takeP (listed' := #[T,T,T,T,T,T,T,T,T,T,T,T,F,F]) (v := Sl.v x59) 11 rfl rfl (by kernel_rfl) rfl trivial rfl (fun w_ K_ h_ => OpW.move (v := Sl.v x59) rfl h_) ?_
       refine DL.execS (listed' := #[T,T,T,T,T,T,T,T,T,T,T,T,T,F]) 12 rfl (by kernel_rfl) rfl trivial rfl (OpW.callR (al := [.pointer x66, .int .i64 (IntKind.i64.wrap ((IntKind.i64.wrap (x69 + 2)) + s49)), Sl.v x59]) Try.func33 fb_33 fn_33 rfl h (fun x70 w71 h => ?_))
       refine ⟨(fun h_ => absurd h_ (by decide)), ?_⟩
       refine DL.takeP (listed' := #[T,T,T,T,T,T,T,T,T,T,T,T,T,T]) (v := .int .i64 x70) 13 rfl rfl (by kernel_rfl) rfl trivial rfl (fun w_ K_ h_ => OpW.assign (v := .int .i64 x70) rfl h_) ?_
       refine DL.done (by kernel_rfl) ?_
       refine CW.seq ?_
       refine CW.region ?_
       refine RL.opS trivial rfl (OpW.move (v := .int .i64 x70) rfl ?_)
       refine RL.opS trivial rfl (OpW.bin (k := .i64) (a := x70) (b := 0) (v := .bool (!decide (x70 = 0))) rfl rfl rfl ?_)
       refine RL.nil ?_
       obtain ⟨ha, hc⟩ := h
       refine CW.cond (b := (!decide (x70 = 0))) rfl (fun hb72 => ?_) (fun hb72 => ?_)
       ·have h := ha hb72; clear ha hc
        refine CW.seq ?_
        refine CW.region ?_
        refine RL.opS trivial rfl (OpW.move (v := .pointer p0) e53 ?_)
        obtain ⟨a73, ha74, h⟩ := h
        refine RL.opS trivial rfl (OpW.nilCheck (a := a73) (congrArg Value.pointer ha74) ?_)
        refine RL.opS trivial rfl (OpW.fieldAddr field_95_6 rfl ?_)
        obtain ⟨u_, h1, h2, h⟩ := h
        obtain ⟨w75, hw75_⟩ : ∃ w_, w_ = w71.setCell (Addr.add a73 6) (.bool true) := ⟨_, rfl⟩
        have h := h w75 hw75_
        refine RL.opN trivial (OpW.store1E (v := .bool true) size_4 rfl rfl rfl h1 h2 hw75_ ?_)
        refine RL.nil ?_
        refine CW.seq ?_
        refine CW.region ?_
        refine RL.opS trivial rfl (OpW.move (v := .int .i64 x70) rfl ?_)
        refine RL.opS trivial rfl (OpW.assign (v := .int .i64 x70) rfl ?_)
        refine RL.nil ?_
        refine CW.ret ?_
        exact ret_intro (res1 rfl rfl) ⟨x70, rfl, h⟩
       ·have h := hc hb72; clear ha hc
        refine CW.skip ?_
        refine CW.region ?_
        refine RL.opS trivial rfl (OpW.move (v := .int .i64 s49) e52 ?_)
        refine RL.opS trivial rfl (OpW.bin (k := .i64) (a := s49) (b := 1) (v := .int .i64 (IntKind.i64.wrap (s49 + 1))) rfl rfl rfl ?_)
        refine RL.opS trivial rfl (OpW.assign (v := .int .i64 (IntKind.i64.wrap (s49 + 1))) rfl ?_)
        refine RL.nil ?_
        exact ⟨(IntKind.i64.wrap (s49 + 1)), ⟨rfl, e53, e54, e55⟩, h⟩
      ·have h := hc hb56; clear ha hc
       refine CW.exit ?_
       refine CW.seq ?_
       refine CW.seq ?_
       refine CW.region ?_
       refine RL.opS trivial rfl (OpW.move (v := .pointer p0) e53 ?_)
       obtain ⟨a76, ha77, h⟩ := h
       refine RL.opS trivial rfl (OpW.nilCheck (a := a76) (congrArg Value.pointer ha77) ?_)
       refine RL.opS trivial rfl (OpW.fieldAddr (off := 0) field_95_0 rfl ?_)
       obtain ⟨x78, h1, h⟩ := h
       refine RL.opS trivial rfl (OpW.load1 (v := .pointer x78) one_31 rfl h1 ?_)
       refine RL.opS trivial rfl (OpW.callR (al := [.pointer x78]) Try.func34 fb_34 fn_34 rfl h (fun x79 w80 h => ?_))
       refine RL.opS trivial rfl (OpW.assign (v := .int .i64 x79) rfl ?_)
       refine RL.nil ?_
       refine CW.seq ?_
       refine CW.region ?_
       refine RL.opS trivial rfl (OpW.move (v := .int .i64 x79) rfl ?_)
       refine RL.opS trivial rfl (OpW.bin (k := .i64) (a := x79) (b := 0) (v := .bool (!decide (x79 = 0))) rfl rfl rfl ?_)
       refine RL.nil ?_
       obtain ⟨ha, hc⟩ := h
       refine CW.cond (b := (!decide (x79 = 0))) rfl (fun hb81 => ?_) (fun hb81 => ?_)
       ·have h := ha hb81; clear ha hc
        refine CW.seq ?_
        refine CW.region ?_
        refine RL.opS trivial rfl (OpW.move (v := .pointer p0) e53 ?_)
        obtain ⟨a82, ha83, h⟩ := h
        refine RL.opS trivial rfl (OpW.nilCheck (a := a82) (congrArg Value.pointer ha83) ?_)
        refine RL.opS trivial rfl (OpW.fieldAddr field_95_6 rfl ?_)
        obtain ⟨u_, h1, h2, h⟩ := h
        obtain ⟨w84, hw84_⟩ : ∃ w_, w_ = w80.setCell (Addr.add a82 6) (.bool true) := ⟨_, rfl⟩
        have h := h w84 hw84_
        refine RL.opN trivial (OpW.store1E (v := .bool true) size_4 rfl rfl rfl h1 h2 hw84_ ?_)
        refine RL.nil ?_
        refine CW.seq ?_
        refine CW.region ?_
        refine RL.opS trivial rfl (OpW.move (v := .int .i64 x79) rfl ?_)
        refine RL.opS trivial rfl (OpW.assign (v := .int .i64 x79) rfl ?_)
        refine RL.nil ?_
        refine CW.ret ?_
        exact ret_intro (res1 rfl rfl) ⟨x79, rfl, h⟩
       ·have h := hc hb81; clear ha hc
        refine CW.skip ?_
        refine CW.seq ?_
        refine CW.seq ?_
        refine CW.region ?_
        refine RL.opS trivial rfl (OpW.move (v := .pointer p0) e53 ?_)
        refine RL.opS trivial rfl (OpW.move (v := .pointer p0) e53 ?_)
        obtain ⟨a85, ha86, h⟩ := h
        refine RL.opS trivial rfl (OpW.nilCheck (a := a85) (congrArg Value.pointer ha86) ?_)
        refine RL.opS trivial rfl (OpW.fieldAddr field_95_3 rfl ?_)
        obtain ⟨x87, h1, h⟩ := h
        refine RL.opS trivial rfl (OpW.load1 (v := .int .u64 x87) one_25 rfl h1 ?_)
        refine RL.opS trivial rfl (OpW.bin (k := .u64) (a := x87) (b := 1) (v := .int .u64 (IntKind.u64.wrap (x87 + 1))) rfl rfl rfl ?_)
        refine RL.opS trivial rfl (OpW.move (v := Sl.v s10.1) e55 ?_)
        refine RL.opS trivial rfl (OpW.len (s := s10.1) slice_39 rfl ?_)
        refine RL.opS trivial rfl (OpW.callR (al := [.pointer p0, .int .u64 (IntKind.u64.wrap (x87 + 1)), .int .i64 (s10.1.len : Int)]) Try.func48 fb_48 fn_48 rfl h (fun x88 w89 h => ?_))
        refine RL.opS trivial rfl (OpW.assign (v := .int .i64 x88) rfl ?_)
        refine RL.nil ?_
        refine CW.seq ?_
        refine CW.region ?_
        refine RL.opS trivial rfl (OpW.move (v := .int .i64 x88) rfl ?_)
        refine RL.opS trivial rfl (OpW.bin (k := .i64) (a := x88) (b := 0) (v := .bool (!decide (x88 = 0))) rfl rfl rfl ?_)
        refine RL.nil ?_
        obtain ⟨ha, hc⟩ := h
        refine CW.cond (b := (!decide (x88 = 0))) rfl (fun hb90 => ?_) (fun hb90 => ?_)
        ·have h := ha hb90; clear ha hc
         refine CW.seq ?_
         refine CW.region ?_
         refine RL.opS trivial rfl (OpW.move (v := .int .i64 x88) rfl ?_)
         refine RL.opS trivial rfl (OpW.assign (v := .int .i64 x88) rfl ?_)
         refine RL.nil ?_
         refine CW.ret ?_
         exact ret_intro (res1 rfl rfl) ⟨x88, rfl, h⟩
        ·have h := hc hb90; clear ha hc
         refine CW.skip ?_
         refine CW.seq ?_
         refine CW.region ?_
         refine RL.opS trivial rfl (OpW.move (v := .pointer p0) e53 ?_)
         refine RL.opS trivial rfl (OpW.move (v := Sl.v s10.1) e55 ?_)
         obtain ⟨a91, ha92, h⟩ := h
         refine RL.opS trivial rfl (OpW.nilCheck (a := a91) (congrArg Value.pointer ha92) ?_)
         refine RL.opS trivial rfl (OpW.fieldAddr field_95_4 rfl ?_)
         obtain ⟨u_, h1, h2, h⟩ := h
         obtain ⟨w93, hw93_⟩ : ∃ w_, w_ = w89.setCell (Addr.add a91 4) (Sl.v s10.1) := ⟨_, rfl⟩
         have h := h w93 hw93_
         refine RL.opN trivial (OpW.store1E (v := Sl.v s10.1) size_39 rfl rfl rfl h1 h2 hw93_ ?_)
         refine RL.nil ?_
         refine CW.seq ?_
         refine CW.region ?_
         refine RL.opS trivial rfl (OpW.move (v := .pointer p0) e53 ?_)
         obtain ⟨a94, ha95, h⟩ := h
         refine RL.opS trivial rfl (OpW.nilCheck (a := a94) (congrArg Value.pointer ha95) ?_)
         refine RL.opS trivial rfl (OpW.fieldAddr field_95_5 rfl ?_)
         obtain ⟨x96, h1, h⟩ := h
         refine RL.opS trivial rfl (OpW.load1 (v := .int .i64 x96) one_3 rfl h1 ?_)
         refine RL.opS trivial rfl (OpW.move (v := Sl.v p1) e54 ?_)
         refine RL.opS trivial rfl (OpW.len (s := p1) slice_22 rfl ?_)
         refine RL.opS trivial rfl (OpW.bin (k := .i64) (a := x96) (b := (p1.len : Int)) (v := .int .i64 (IntKind.i64.wrap (x96 + (p1.len : Int)))) rfl rfl rfl ?_)
         obtain ⟨a97, ha98, h⟩ := h
         refine RL.opS trivial rfl (OpW.nilCheck (a := a97) (congrArg Value.pointer ha98) ?_)
         refine RL.opS trivial rfl (OpW.fieldAddr field_95_5 rfl ?_)
         obtain ⟨u_, h1, h2, h⟩ := h
         obtain ⟨w99, hw99_⟩ : ∃ w_, w_ = w93.setCell (Addr.add a97 5) (.int .i64 (IntKind.i64.wrap (x96 + (p1.len : Int)))) := ⟨_, rfl⟩
         have h := h w99 hw99_
         refine RL.opN trivial (OpW.store1E (v := .int .i64 (IntKind.i64.wrap (x96 + (p1.len : Int)))) size_3 rfl rfl rfl h1 h2 hw99_ ?_)
         refine RL.nil ?_
         refine CW.seq ?_
         refine CW.region ?_
         refine RL.opS trivial rfl (OpW.assign (v := .int .i64 0) rfl ?_)
         refine RL.nil ?_
         refine CW.ret ?_
         exact ret_intro (res1 rfl rfl) ⟨0, rfl, h⟩
    ·clear hk103
     dsimp only [List.take]
     obtain ⟨ha, hc⟩ := h
     rcases Bool.eq_false_or_eq_true (decide (x33 < (s10.1.len : Int))) with hb34 | hb34
     ·have h := ha hb34; clear ha hc
      refine RL.skipS (notWanted_of rfl rfl hb34) rfl ?_
      refine RL.skipS (notWanted_of rfl rfl hb34) rfl ?_
      refine RL.skipS (notWanted_of rfl rfl hb34) rfl ?_
      refine RL.skipS (notWanted_of rfl rfl hb34) rfl ?_
      refine RL.skipS (notWanted_of rfl rfl hb34) rfl ?_
      refine RL.opS trivial rfl (OpW.pick (b := true) (v := .bool true) (congrArg Value.bool hb34) rfl ?_)
      refine RL.nil ?_
      exact ⟨true, ⟨rfl, e15, e16, e13⟩, h⟩
     ·have h := hc hb34; clear ha hc
      refine RL.opS (wanted_of rfl rfl hb34) rfl (OpW.move (v := .pointer p0) e15 ?_)
      obtain ⟨a36, ha37, h⟩ := h
      refine RL.opS (wanted_of rfl rfl hb34) rfl (OpW.nilCheck (a := a36) (congrArg Value.pointer ha37) ?_)
      refine RL.opS (wanted_of rfl rfl hb34) rfl (OpW.fieldAddr field_95_3 rfl ?_)
      obtain ⟨x38, h1, h⟩ := h
      refine RL.opS (wanted_of rfl rfl hb34) rfl (OpW.load1 (v := .int .u64 x38) one_25 rfl h1 ?_)
      refine RL.opS (wanted_of rfl rfl hb34) rfl (OpW.bin (k := .u64) (a := x38) (b := 4611686018427387904) (v := .bool (decide (x38 = 4611686018427387904))) rfl rfl rfl ?_)
      refine RL.opS trivial rfl (OpW.pick (b := false) (v := .bool (decide (x38 = 4611686018427387904))) (congrArg Value.bool hb34) rfl ?_)
      refine RL.nil ?_
      exact ⟨(decide (x38 = 4611686018427387904)), ⟨rfl, e15, e16, e13⟩, h⟩
end Go.Proofs.Ytagkcbbbdlmcjaa
end
section
/- Records are added: all or none of them. -/
namespace Go.Proofs.Ytagkcbbbdlmcjaa
open Go.Lift Go.Lift.Disk Go.Lift.Crc Go.Lift.Wal Go.RowKit
theorem clone8_ok (w : World) (p : Sl) (bs : List UInt8) (hp : Bytes w p bs) (hn : p.a = none → p.len = 0) (hl : bs.length ≤ 70368744177664) :
  Calls Try.prog 53 #[p.v] w (Ret r53 fun x w' => Own w' w.heap.size 5 1 x (u8s bs) ∧ Ext w w') := by
 by_cases h : p.a = none
 ·have h0 := hn h
  have : bs = [] := List.eq_nil_of_length_eq_zero (by rw [hp.1, h0])
  subst this
  apply s53_calls
  refine ⟨fun _ => ?_, fun h' => absurd h' (by rw [h]; simp)⟩
  exact ⟨Own.nil _ _ _ _, Ext.refl _⟩
 ·exact cloneB_ok p bs hp h hl
theorem AtO.take {w : World} {a : Option Addr} {cs : List Value} (h : AtO w a cs) (n : Nat) : AtO w a (cs.take n) := by
 cases a with
 | none =>
  have : cs = [] := h
  subst this
  rw [List.take_nil]; rfl
 | some a =>
  intro j v hj
  refine h j v ?_
  rw [List.getElem?_take] at hj
  split at hj
  ·exact hj
  ·cases hj
theorem padB_len (A : List UInt8) (i : Nat) (h : i * 512 < A.length) : (padB A i).length = 512 := by
 unfold padB sliceB zeros
 simp only [List.length_append, List.length_drop, List.length_take, List.length_replicate]
 omega
theorem gather_len : ∀ (l : List (List UInt8)) (room : Nat) (all : List UInt8) {A : List UInt8}, gather l room all = some A → all.length + l.length ≤ A.length ∧ A.length ≤ room
 | [], room, all, A, h => by
  unfold gather at h
  split at h
  ·cases h
  ·simp only [Option.some.injEq] at h
   subst h
   simp; omega
 | s :: l, room, all, A, h => by
  unfold gather at h
  split at h
  ·cases h
  ·have := gather_len l room _ h
   rw [List.length_append, frameB_len] at this
   simp only [List.length_cons]
   omega
theorem Bnd.lay : ∀ (f : Nat) {D : Dk} {k : Nat} (frm : Nat) (A : List UInt8) (i : Nat), Bnd D (k + f) → Bnd (layF f D frm A i).1 k
 | 0, D, k, frm, A, i, h => h
 | f + 1, D, k, frm, A, i, h => by
  unfold layF
  split
  ·exact h.mono (by omega)
  ·have hw := Bnd.write (k := k + f) h ((frm + 2 + i : Nat) : Int) (padB A i)
   split
   ·exact Bnd.lay f _ _ _ hw
   ·exact hw.mono (by omega)
theorem add_nil {w : World} (p : Sl) : Calls Try.prog 20 #[.pointer none, p.v] w (Ret r20 fun x w' => x = 3 ∧ w = w') := by
 apply s20_calls
 refine cR_of (broken_nil w) ?_
 rintro x1 w2 ⟨rfl, rfl⟩
 exact ⟨fun _ => ⟨rfl, rfl⟩, fun h => absurd h (by simp)⟩
theorem add_ok {w : World} {lo : Nat → Prop} {pd bb pl frm room : Nat} {D : Dk} {L : Lg} (h : WAt w lo pd bb pl frm room D L) (hlo : ∀ k, w.heap.size ≤ k → lo k) (hb : Bnd D 5000)
  (p : Sl) (l : List (List UInt8)) (hp : Parts w p l) (hl : l.length ≤ 1000000) (hs : ∀ s ∈ l, s.length ≤ 1000000000) :
  Calls Try.prog 20 #[.pointer (lp pl), p.v] w (Ret r20 fun x w' => x = (addD D L frm room l).2.2 ∧ WAt w' lo pd bb pl frm room (addD D L frm room l).1 (addD D L frm room l).2.1 ∧ Fr (WFoot pd bb pl) w w') := by
 apply s20_calls
 have hplen := hp.len
 refine cR_of (broken_ok h) ?_
 rintro x1 w2 ⟨rfl, rfl⟩
 unfold addD
 refine ⟨fun hbr => ?_, fun hbr => ?_⟩
 ·rw [if_pos hbr]
  exact ⟨rfl, h, Fr.refl _⟩
 rw [if_neg (by rw [hbr]; simp)]
 refine ⟨fun h0 => ?_, fun h0 => ?_⟩
 ·have h0 := of_decide_eq_true h0
  rw [if_pos (List.eq_nil_of_length_eq_zero (by omega))]
  exact ⟨rfl, h, Fr.refl _⟩
 have h0 := of_decide_eq_false h0
 have hlpos : 0 < l.length := by omega
 rw [if_neg (by intro e; rw [e] at hlpos; simp at hlpos)]
 obtain ⟨g, sd, h⟩ := h
 have hwf := h.wf
 have hsq := hwf.hseq
 have hrm := hwf.hroom
 have hct := hwf.hcount
 have hdt := hwf.hdata
 have hll : last = 4611686018427387904 := rfl
 obtain ⟨hpll, hpdl, hbbl, hpln, hgn⟩ := h.lt
 have hgl := h.glt
 have hlog := h.log
 rw [hbr] at hlog
 have hsdl := h.data.1
 refine ⟨_, rfl, sd, by rw [add_plain]; exact hlog.cell rfl, ?_⟩
 refine cR_of (clone8_ok w sd L.data h.data (fun hn => (h.nil hn).1) (by omega)) ?_
 rintro x8 w9 ⟨ho8, hx9⟩
 obtain ⟨G, hG⟩ : ∃ G, G = gather l room L.data := ⟨_, rfl⟩
 rw [← hG]
 refine ⟨fun st w' => ∃ (k : Nat) (A : List UInt8), k ≤ l.length ∧ st.2 = (k : Int) ∧ gather (l.drop k) room A = G ∧ A.length ≤ room + 14 ∧ L.data.length + k ≤ A.length ∧ Own w' w.heap.size 5 1 st.1 (u8s A) ∧ Ext w w',
  fun st _ => l.length - st.2.toNat, ⟨0, L.data, Nat.zero_le _, rfl, hG.symm, by omega, Nat.le_refl _, ho8, hx9⟩, ?_⟩
 rintro ⟨s10, i⟩ w11 ⟨k, A, hk, rfl, hga, hAl, hAk, ho, hx⟩
 simp only at ho ⊢
 have hol := ho.length
 rw [u8s_length] at hol
 have hlog11 := hlog.ext hx
 refine ⟨fun hlt => ?_, fun hge => ?_⟩
 ·have hlt : k < l.length := by have := of_decide_eq_true hlt; omega
  obtain ⟨a, sl, ha, hc, hby⟩ := (hp.ext hx).get hlt
  have hbl := hby.1
  have hsk := hs _ (List.getElem_mem hlt)
  rw [List.drop_eq_getElem_cons hlt] at hga
  unfold gather at hga
  refine ⟨a, _, ha, by omega, by omega, rfl, sl, by rw [Int.toNat_natCast, Nat.mul_one]; exact hc, ?_⟩
  refine ⟨_, rfl, (room : Int), by rw [add_plain]; exact hlog11.cell rfl, ?_⟩
  show ifB _ _ _
  rw [w64_eq (by omega) (by omega)]
  refine ⟨fun hno => ?_, fun hyes => ?_⟩
  ·have hno := of_decide_eq_true hno
   rw [if_pos (by omega)] at hga
   rw [← hga]
   exact ⟨rfl, ⟨g, sd, h.ext hx⟩, Fr.of hx⟩
  ·have hyes := of_decide_eq_false hyes
   rw [if_neg (by omega)] at hga
   refine cR_of (frame_ok w11 sl l[k] hby (by omega)) ?_
   rintro x27 w28 ⟨ho27, hx28⟩
   have hol27 := ho27.length
   rw [u8s_length] at hol27
   have hfl := frameB_len l[k]
   have hnl := (numB_len l[k].length (by omega))
   refine app_ok (base := w.heap.size) mk_39 rfl (by decide) (ho.ext hx28) (news := u8s (frameB l[k])) (by rw [u8s_length]; omega) ho27.at (u8s_one _) (by simp only [maxLen]; omega) (by first | omega | (simp only; omega)) (hx.trans hx28).size ?_
   intro s' w' hl' ho' _ hB'
   rw [w64_eq (by omega) (by omega)]
   refine ⟨⟨k + 1, A ++ frameB l[k], by omega, by omega, hga, by rw [List.length_append]; omega, by rw [List.length_append]; omega, by rw [u8s_append]; exact ho', hB' _ _ (hx.trans hx28) (Nat.le_refl _) (hx.trans hx28).size⟩, by omega⟩
 ·have hge : k = l.length := by have := of_decide_eq_false hge; omega
  subst hge
  rw [List.drop_length] at hga
  unfold gather at hga
  refine ⟨_, rfl, (room : Int), by rw [add_plain]; exact hlog11.cell rfl, ?_⟩
  refine jn_of fun k1 hk1 => ?_
  have full : ∀ w', w11 = w' → (A.length > room ∨ L.seq = last) → k1 true w' := by
   rintro w' rfl hor
   rw [hk1]
   refine ⟨fun _ => ?_, fun h => absurd h (by simp)⟩
   rw [← hga]
   by_cases hA : room < A.length
   ·rw [if_pos hA]
    exact ⟨rfl, ⟨g, sd, h.ext hx⟩, Fr.of hx⟩
   ·rw [if_neg hA]
    simp only
    rw [if_pos (hor.resolve_left (by omega))]
    exact ⟨rfl, ⟨g, sd, h.ext hx⟩, Fr.of hx⟩
  refine ⟨fun hbig => full w11 rfl (.inl (by have := of_decide_eq_true hbig; omega)), fun hfit => ?_⟩
  have hfit : A.length ≤ room := by have := of_decide_eq_false hfit; omega
  refine ⟨_, rfl, (L.seq : Int), by rw [add_plain]; exact hlog11.cell rfl, ?_⟩
  by_cases hsl : L.seq = last
  ·show k1 _ w11
   rw [show decide ((L.seq : Int) = 4611686018427387904) = true from decide_eq_true (by omega)]
   exact full w11 rfl (.inr hsl)
  show k1 _ w11
  rw [show decide ((L.seq : Int) = 4611686018427387904) = false from decide_eq_false (by omega)]
  show k1 false w11
  rw [hk1]
  refine ⟨fun h => absurd h (by simp), fun _ => ?_⟩
  rw [if_neg (by omega)] at hga
  rw [← hga]
  simp only
  rw [if_neg hsl]
  refine ⟨_, rfl, sd, by rw [add_plain]; exact hlog11.cell rfl, ?_⟩
  -- the row of all
  obtain ⟨g', rest, hga', hgb', hgB', hcap'⟩ := ho.blk (by omega)
  have hgl' := hgB'.lt
  have hA' : Bytes w11 s10 A := ho.bytes
  have e0 : IntKind.i64.wrap (Int.tdiv (sd.len : Int) 512) = ((L.data.length / 512 : Nat) : Int) := by
   rw [Int.tdiv_eq_ediv_of_nonneg (by omega), w64_eq (by omega) (by omega)]; omega
  rw [e0]
  have h11 : DAt w11 (fun k => ((lo k ∧ k ≠ pl) ∧ k ≠ g) ∧ k ≠ g') pd bb D := (h.disk.mono (base' := fun k => ((lo k ∧ k ≠ pl) ∧ k ≠ g) ∧ k ≠ g') fun k hk hu => ⟨hu, by omega⟩).ext hx
  have hBn : ∀ {w' : World}, w11.heap.size ≤ w'.heap.size → ∀ k, w'.heap.size ≤ k → (((lo k ∧ k ≠ pl) ∧ k ≠ g) ∧ k ≠ g') := by
   intro w' hw k hk
   have := hx.size
   exact ⟨⟨⟨hlo k (by omega), by omega⟩, by omega⟩, by omega⟩
  have hgn' : ¬ Foot pd bb g' := by rintro (e | e) <;> omega
  have hgpl : g' ≠ pl := by omega
  obtain ⟨R, hR⟩ : ∃ R, R = addHead (layF (A.length / 512 + 1) D frm A (L.data.length / 512)) frm (L.seq + 1) A.length := ⟨_, rfl⟩
  rw [← hR]
  -- something fails: what was there stays
  have fails : ∀ (w' : World), R.2 ≠ 0 → DAt w' (fun k => ((lo k ∧ k ≠ pl) ∧ k ≠ g) ∧ k ≠ g') pd bb R.1 → Blk w' pl 95 (logC pd frm room L.seq sd L.count true) → Fr (WFoot pd bb pl) w w' →
    R.2 = (if R.2 = 0 then (R.1, (⟨L.seq + 1, A, L.count + l.length, false⟩ : Lg), (0 : Int)) else (R.1, { L with broken := true }, R.2)).2.2 ∧
     WAt w' lo pd bb pl frm room (if R.2 = 0 then (R.1, (⟨L.seq + 1, A, L.count + l.length, false⟩ : Lg), (0 : Int)) else (R.1, { L with broken := true }, R.2)).1
      (if R.2 = 0 then (R.1, (⟨L.seq + 1, A, L.count + l.length, false⟩ : Lg), (0 : Int)) else (R.1, { L with broken := true }, R.2)).2.1 ∧ Fr (WFoot pd bb pl) w w' := by
   intro w' hne hD' hl' hF'
   rw [if_neg hne]
   refine ⟨rfl, ⟨g, sd, hD'.mono fun k _ hk => hk.1, hl', hF'.bytes ?_ h.data, h.cap, h.nil, h.row, Nat.lt_of_lt_of_le hgl hF'.size, h.lopl, ⟨hwf.hfrm, hwf.hroom, hwf.hseq, hwf.hdata, hwf.hcount⟩⟩, hF'⟩
   intro a ha
   obtain ⟨e1, e2, _⟩ := h.row a ha
   rw [e1]
   rintro (e | e)
   ·exact hgn e
   ·exact e2 e
  refine ⟨fun st w' => ∃ (f i : Nat) (E : Dk), st = (i : Int) ∧ layF f E frm A i = layF (A.length / 512 + 1) D frm A (L.data.length / 512) ∧ A.length < (i + f) * 512 ∧ i ≤ 5000 ∧ Bnd E (f + 5) ∧
    DAt w' (fun k => ((lo k ∧ k ≠ pl) ∧ k ≠ g) ∧ k ≠ g') pd bb E ∧ Fr (Foot pd bb) w11 w',
   fun st _ => A.length + 512 - st.toNat * 512, ⟨A.length / 512 + 1, L.data.length / 512, D, rfl, rfl, by omega, by omega, hb.mono (by omega), h11, Fr.refl _⟩, ?_⟩
  rintro st w50 ⟨f, i, E, rfl, hlay, hfi, hi5, hbE, hD50, hf50⟩
  have hlog50 := hlog11.fr hf50 hpln
  have hA50 : Bytes w50 s10 A := hf50.bytes (fun a ha => by rw [hga'] at ha; cases ha; exact hgn') hA'
  have hFw : Fr (WFoot pd bb pl) w w50 := (Fr.of hx).trans (hf50.mono fun k _ hk => .inl hk)
  rw [w64_eq (x := (i : Int) * 512) (by omega) (by omega)]
  refine ⟨fun hlt => ?_, fun hge => ?_⟩
  ·have hlt : i * 512 < A.length := by have := of_decide_eq_true hlt; omega
   obtain ⟨f, rfl⟩ : ∃ f', f = f' + 1 := ⟨f - 1, by omega⟩
   rw [layF, if_neg (by omega)] at hlay
   have hi6 : i + 1 ≤ 5000 := by omega
   have hq : A.length < (i + 1 + f) * 512 := by
    rw [Nat.add_assoc, Nat.add_comm 1 f]; exact hfi
   have hms : A.length + 512 - (i + 1) * 512 < A.length + 512 - i * 512 := by omega
   refine ⟨by decide, by decide, by decide, by decide, fun b58 w58 hb58 hw58 => ?_⟩
   have hx58 : Ext w50 w58 := Ext.new hw58
   have hB58 : Blk w58 b58 5 (u8s (zeros 512)) := by
    unfold zeros
    rw [← zeros_u8']
    exact Blk.new hb58 hw58
   refine ⟨⟨by omega, by omega⟩, ?_⟩
   have hcut := (hA50.ext hx58).cut (l := i * 512) (e := A.length) (m := s10.cap) (by omega) (by omega) (Nat.le_refl _)
   rw [List.take_length] at hcut
   have ecut : s10.cut 1 ((i : Int) * 512) (s10.len : Int) (s10.cap : Int) = s10.cut 1 ((i * 512 : Nat) : Int) (A.length : Int) (s10.cap : Int) := by
    rw [show (s10.len : Int) = (A.length : Int) by omega, show (i : Int) * 512 = ((i * 512 : Nat) : Int) by omega]
   rw [ecut]
   have hcl := hcut.1
   rw [List.length_drop] at hcl
   have hsa : s10.a ≠ none := by rw [hga']; simp
   have hsq2 : (sliceB A (i * 512) (i * 512 + 512)).length = min (A.length - i * 512) 512 := by simp [sliceB]; omega
   refine cpy_blk (g := b58) (o := 0) (dLen := 512) (dCap := 512) (cs := u8s (sliceB A (i * 512) (i * 512 + 512))) mk_39 hB58 (by rw [u8s_len, hsq2, ← hcl]) ?_ (by rw [u8s_len, u8s_len, hsq2, zeros, List.length_replicate]; omega) (u8s_one _) (fun hn => absurd hn (cut_some hsa)) fun w61 hB61 hf61 => ?_
   ·have e : u8s (sliceB A (i * 512) (i * 512 + 512)) = (u8s (A.drop (i * 512))).take 512 := by
     rw [u8s_take]
     unfold sliceB
     rw [List.drop_take]
     congr 2
     omega
    rw [e]
    exact AtO.take hcut.2 512
   have hsp : splice (u8s (zeros 512)) 0 (u8s (sliceB A (i * 512) (i * 512 + 512))) = u8s (padB A i) := by
    unfold splice padB
    rw [List.take_zero, List.nil_append, u8s_len, hsq2, u8s_drop, u8s_append]
    unfold zeros
    rw [List.drop_replicate]
    congr 3
    omega
   rw [hsp] at hB61
   have hx61 : Ext w50 w61 := hf61.ext hx58 fun k _ e => by rw [e, hb58]; exact Nat.le_refl _
   intro w62 hw62
   have hx62 : Ext w61 w62 := by subst hw62; exact Ext.drew _
   have hx62' := hx61.trans hx62
   refine ⟨_, rfl, dp pd, by rw [add_plain]; exact (hlog50.ext hx61).cell rfl, _, rfl, (frm : Int), by rw [add_plain]; exact (hlog50.ext hx61).cell rfl, ?_⟩
   have hfr := hwf.hfrm
   have e2 : IntKind.i64.wrap (IntKind.i64.wrap ((frm : Int) + 2) + (i : Int)) = ((frm + 2 + i : Nat) : Int) := by
    rw [w64_eq (x := (frm : Int) + 2) (by omega) (by omega), w64_eq (by omega) (by omega)]; omega
   show cR _ _ _ _ _ _
   rw [e2]
   have hby : Bytes w62 ⟨some ⟨b58, 0, none⟩, 512, 512⟩ (padB A i) := ⟨by rw [padB_len _ _ hlt], (hB61.ext hx62).at (by rw [List.drop_zero, List.take_length])⟩
   have hs62 := hx62'.size
   refine cR_of (write_ok (hD50.ext hx62') (by have := hbE.1; omega) (by have := hbE.2; omega) (hBn (Nat.le_trans hf50.size hs62)) ((frm + 2 + i : Nat) : Int) _ _ hby) ?_
   rintro x70 w71 ⟨rfl, h71, hf71⟩
   have hf71' : Fr (Foot pd bb) w11 w71 := (hf50.trans (Fr.of hx62')).trans hf71
   have hF71 : Fr (WFoot pd bb pl) w w71 := (Fr.of hx).trans (hf71'.mono fun k _ hk => .inl hk)
   have hbw := Bnd.write (k := f + 5) (hbE.mono (by omega)) ((frm + 2 + i : Nat) : Int) (padB A i)
   generalize hWe : E.write ((frm + 2 + i : Nat) : Int) (padB A i) = W at h71 hbw hlay ⊢
   refine ⟨fun hne => ?_, fun he => ?_⟩
   ·have hne := nd_t hne
    rw [if_neg hne] at hlay
    have hRW : R = W := by rw [hR, ← hlay]; unfold addHead; rw [if_pos hne]
    refine ⟨_, rfl, ?_⟩
    show st1 _ _ _ _
    rw [add_plain]
    refine st1_blk (hlog11.fr hf71' hpln) (by simp) fun w75 hB75 hf75 => ?_
    rw [← hRW]
    rw [← hRW] at hne h71
    exact fails w75 hne (h71.fr hf75 fun k hk e => hk.1.1.2 e) hB75 (hF71.trans (hf75.mono fun k _ hk => .inr hk))
   ·have he := nd_f he
    rw [if_pos he] at hlay
    have e3 : IntKind.i64.wrap ((i : Int) + 1) = ((i + 1 : Nat) : Int) := by rw [w64_eq (by omega) (by omega)]; omega
    rw [e3]
    exact ⟨⟨f, i + 1, W.1, rfl, hlay, hq, hi6, hbw, h71, hf71'⟩, hms⟩
  ·have hge : A.length ≤ i * 512 := by have := of_decide_eq_false hge; omega
   have hlE : layF (A.length / 512 + 1) D frm A (L.data.length / 512) = (E, 0) := by
    rw [← hlay]
    cases f with
    | zero => rfl
    | succ f => rw [layF, if_pos hge]
   refine ⟨_, rfl, dp pd, by rw [add_plain]; exact hlog50.cell rfl, ?_⟩
   refine cR_of (flush_ok hD50 (by have := hbE.1; omega)) ?_
   rintro x79 w80 ⟨rfl, h80, hf80⟩
   have hf80' := hf50.trans hf80
   have hF80 : Fr (WFoot pd bb pl) w w80 := (Fr.of hx).trans (hf80'.mono fun k _ hk => .inl hk)
   have hbF := Bnd.flush (k := 2) (hbE.mono (by omega))
   have hlog80 := hlog11.fr hf80' hpln
   rw [hlE] at hR
   unfold addHead at hR
   rw [if_neg (by simp)] at hR
   simp only at hR
   generalize E.flush = F at h80 hbF hR ⊢
   refine ⟨fun hne => ?_, fun he => ?_⟩
   ·have hne := nd_t hne
    rw [if_pos hne] at hR
    refine ⟨_, rfl, ?_⟩
    show st1 _ _ _ _
    rw [add_plain]
    refine st1_blk hlog80 (by simp) fun w84 hB84 hf84 => ?_
    rw [← hR]
    rw [← hR] at hne h80
    exact fails w84 hne (h80.fr hf84 fun k hk e => hk.1.1.2 e) hB84 (hF80.trans (hf84.mono fun k _ hk => .inr hk))
   ·have he := nd_f he
    rw [if_neg (by rw [he]; simp)] at hR
    refine ⟨_, rfl, (L.seq : Int), by rw [add_plain]; exact hlog80.cell rfl, ?_⟩
    have e1 : IntKind.u64.wrap ((L.seq : Int) + 1) = ((L.seq + 1 : Nat) : Int) := by rw [wu64_eq (by omega) (by omega)]; omega
    have e4 : (s10.len : Int) = (A.length : Int) := by omega
    show cR _ _ _ _ _ _
    rw [e1, e4]
    refine cR_of (head_ok h80 (fun hk => hk.1.1.2 rfl) hlog80 (hBn hf80'.size) hbF hwf.hfrm (L.seq + 1) A.length (by omega) (by omega)) ?_
    rintro x88 w89 ⟨hx88, h89, hl89, hf89⟩
    have hF89 := hF80.trans hf89
    rw [← hR] at hx88 h89 hl89
    rw [hx88]
    refine ⟨fun hne => ?_, fun h0 => ?_⟩
    ·have hne := nd_t hne
     rw [if_neg hne, decide_eq_true hne] at hl89
     exact fails w89 hne h89 hl89 hF89
    ·have h0 := nd_f h0
     rw [if_pos h0, decide_eq_false (by rw [h0]; simp)] at hl89
     rw [if_pos h0]
     refine ⟨_, rfl, ?_⟩
     show st1 _ _ _ _
     rw [add_plain]
     refine st1_blk hl89 (by simp) fun w93 hB93 hf93 => ?_
     refine ⟨_, rfl, (L.count : Int), by rw [add_plain]; exact hB93.cell rfl, _, rfl, ?_⟩
     show st1 _ _ _ _
     rw [add_plain]
     refine st1_blk hB93 (by simp) fun w99 hB99 hf99 => ?_
     have hff := hf93.trans hf99
     have e5 : IntKind.i64.wrap ((L.count : Int) + (p.len : Int)) = ((L.count + l.length : Nat) : Int) := by rw [w64_eq (by omega) (by omega)]; omega
     rw [e5] at hB99
     have hFe : Fr (WFoot pd bb pl) w11 w99 := ((hf80'.mono fun k _ hk => .inl hk).trans hf89).trans (hff.mono fun k _ hk => .inr hk)
     refine ⟨rfl, ⟨g', s10, (h89.fr hff fun k hk e => hk.1.1.2 e).mono fun k _ hk => ⟨hk.1.1, hk.2⟩, hB99, hFe.bytes ?_ hA', hcap', ?_, ?_, Nat.lt_of_lt_of_le hgl' hFe.size, h.lopl, ⟨hwf.hfrm, hwf.hroom, by show L.seq + 1 ≤ last; omega, hfit, ?_⟩⟩, (Fr.of hx).trans hFe⟩
     ·intro a ha
      rw [hga'] at ha
      cases ha
      rintro (e | e)
      ·exact hgn' e
      ·exact hgpl e
     ·intro hn; rw [hga'] at hn; cases hn
     ·intro a ha
      rw [hga'] at ha
      cases ha
      exact ⟨rfl, hgpl, hlo _ hgb'⟩
     ·show L.count + l.length ≤ A.length
      omega
end Go.Proofs.Ytagkcbbbdlmcjaa
end
