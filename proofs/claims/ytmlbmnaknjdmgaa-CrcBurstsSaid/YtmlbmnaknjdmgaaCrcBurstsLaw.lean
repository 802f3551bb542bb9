/- CrcBursts: sealed bytes in which a row of at most 32 bits is turned are refused: the law answers true and leaves all that was there. -/
import Derived.Test.YtmlbmnaknjdmgaaS6
import Derived.Test.YtmlbmnaknjdmgaaCrcSpec
set_option linter.unusedVariables false
set_option linter.unusedSimpArgs false
namespace Go.Proofs.Ytmlbmnaknjdmgaa
open Go.Lift Go.Lift.Crc Go.RowKit

/-- the bit at a place -/
def bitAt (xs : List UInt8) (n : Nat) : Bool := (wide (xs.getD (n / 8) 0)).getLsbD (n % 8)
theorem bitAt_get {xs : List UInt8} {n : Nat} (h : n < 8 * xs.length) : (bitsOf xs)[n]? = some (bitAt xs n) := by
  have h' : n / 8 < xs.length := by omega
  rw [bits_get xs n h']
  simp [bitAt, List.getD, h']
/-- the byte whose only bit is the j'th -/
def oneBit (j : Nat) : UInt8 := ⟨1#8 <<< j⟩
theorem turn_byte (c : UInt8) {j : Nat} (hj : j < 8) : xorI .u8 (c.toNat : Int) (shlI .u8 1 (j : Int)) = ((c ^^^ oneBit j).toNat : Int) := by
  have hs : shlI .u8 1 (j : Int) = ((oneBit j).toNat : Int) := by
    have : j = 0 ∨ j = 1 ∨ j = 2 ∨ j = 3 ∨ j = 4 ∨ j = 5 ∨ j = 6 ∨ j = 7 := by omega
    rcases this with rfl | rfl | rfl | rfl | rfl | rfl | rfl | rfl <;> decide
  rw [hs]
  have e : ∀ b : UInt8, BitVec.ofInt 8 (b.toNat : Int) = b.toBitVec := by
    intro b
    apply BitVec.eq_of_toNat_eq
    have := b.toBitVec.isLt
    have h2 : b.toNat = b.toBitVec.toNat := rfl
    simp
  show IntKind.u8.wrap ((BitVec.ofInt 8 _ ^^^ BitVec.ofInt 8 _).toNat : Int) = _
  rw [e, e]
  have h3 : (c.toBitVec ^^^ (oneBit j).toBitVec) = (c ^^^ oneBit j).toBitVec := by simp
  rw [h3]
  have := u8_lt (c ^^^ oneBit j)
  rw [wu8_eq (by omega) (by simp only [UInt8.toNat_toBitVec]; omega)]
  rfl
theorem turn_bits (c : UInt8) {j i : Nat} (hj : j < 8) (hi : i < 8) : (wide (c ^^^ oneBit j)).getLsbD i = ((wide c).getLsbD i ^^ decide (i = j)) := by
  have h1 : ((1#8 <<< j : BitVec 8)).getLsbD i = decide (i = j) := by
    have : j = 0 ∨ j = 1 ∨ j = 2 ∨ j = 3 ∨ j = 4 ∨ j = 5 ∨ j = 6 ∨ j = 7 := by omega
    have : i = 0 ∨ i = 1 ∨ i = 2 ∨ i = 3 ∨ i = 4 ∨ i = 5 ∨ i = 6 ∨ i = 7 := by omega
    rcases ‹j = 0 ∨ _› with rfl | rfl | rfl | rfl | rfl | rfl | rfl | rfl <;> rcases ‹i = 0 ∨ _› with rfl | rfl | rfl | rfl | rfl | rfl | rfl | rfl <;> decide
  have h2 : (c ^^^ oneBit j).toBitVec = c.toBitVec ^^^ (1#8 <<< j) := by simp [oneBit]
  have e : ∀ b : BitVec 8, (b.setWidth 32).getLsbD i = b.getLsbD i := by
    intro b
    rw [BitVec.getLsbD_setWidth]
    have : i < 32 := by omega
    simp [this]
  unfold wide
  rw [e, e, h2, BitVec.getLsbD_xor, h1]
theorem bitAt_turn {xs : List UInt8} {n m : Nat} (hn : n < 8 * xs.length) (hm : m < 8 * xs.length) : bitAt (xs.set (n / 8) (xs.getD (n / 8) 0 ^^^ oneBit (n % 8))) m = (bitAt xs m ^^ decide (m = n)) := by
  have h1 : m / 8 < xs.length := by omega
  have h2 : n / 8 < xs.length := by omega
  unfold bitAt
  by_cases h : m / 8 = n / 8
  · have e1 : (xs.set (n / 8) (xs.getD (n / 8) 0 ^^^ oneBit (n % 8))).getD (m / 8) 0 = xs.getD (n / 8) 0 ^^^ oneBit (n % 8) := by
      rw [h]; simp [List.getD, h2]
    rw [e1, turn_bits _ (by omega) (by omega), h]
    congr 1
    rw [decide_eq_decide]
    omega
  · have e1 : (xs.set (n / 8) (xs.getD (n / 8) 0 ^^^ oneBit (n % 8))).getD (m / 8) 0 = xs.getD (m / 8) 0 := by
      have hne : n / 8 ≠ m / 8 := fun e => h e.symm
      simp [List.getD, List.getElem?_set_ne hne]
    rw [e1]
    have : ¬ (m = n) := fun e => h (by rw [e])
    simp [this]
theorem shr_bit (t : R) {i : Nat} (hi : i < 32) : (andI .u32 (shrI .u32 (t.toNat : Int) (i : Int)) 1 = 1) ↔ t.getLsbD i = true := by
  have h1 : shrI .u32 (t.toNat : Int) (i : Int) = ((t >>> i).toNat : Int) := by
    unfold shrI
    have : min (i : Int).toNat (IntKind.bits .u32) = i := by simp [IntKind.bits]; omega
    rw [this, Int.fdiv_eq_ediv_of_nonneg _ (by exact_mod_cast Nat.zero_le _)]
    simp [Nat.shiftRight_eq_div_pow]
  rw [h1, andI_one]
  have : (t >>> i).getLsbD 0 = t.getLsbD i := by simp
  rw [this]
  cases t.getLsbD i <;> simp

theorem crcBursts_ok (w : World) (p : Sl) (bs : List UInt8) (hp : Bytes w p bs) (_hlc : p.len ≤ p.cap) (_hcm : p.cap ≤ maxLen) (n1 : Int) (_hw1 : (Lit.int .i64 n1).wf = true) (n2 : Int) (hw2 : (Lit.int .u32 n2).wf = true) :
    Calls Try.prog 6 #[p.v, .int .i64 n1, .int .u32 n2] w (Ret r6 fun x w' => x = true ∧ Ext w w') := by
  have hn2 : 0 ≤ n2 ∧ n2 ≤ 4294967295 := by simpa [Lit.wf, IntKind.min, IntKind.max, IntKind.signed, IntKind.bits] using hw2
  obtain ⟨t, rfl⟩ : ∃ t : R, n2 = (t.toNat : Int) := ⟨BitVec.ofNat 32 n2.toNat, by simp; omega⟩
  apply s6_calls
  refine cR_of (lives_ok w) ?_
  rintro x1 w2 ⟨rfl, hx2⟩
  have hpl := hp.1
  refine jn_of fun k1 hk1 => ?_
  have key : ∀ (b : Bool), (b = true ↔ 1000 < (p.len : Int)) → k1 b w2 := by
    intro b hb
    rw [hk1]
    refine jn_of fun k2 hk2 => ?_
    have key2 : ∀ b2 : Bool, (b2 = true ↔ (1000 < (p.len : Int) ∨ (t.toNat : Int) = 0)) → k2 b2 w2 := by
      intro b2 hb2
      rw [hk2]
      refine ⟨fun _ => cR_of (lives_ok w2) fun x w' ⟨hx, hw⟩ => ⟨hx, hx2.trans hw⟩, fun hf => ?_⟩
      have hno : ¬ (1000 < (p.len : Int) ∨ (t.toNat : Int) = 0) := fun hn => by rw [hb2.2 hn] at hf; cases hf
      have hlen : bs.length ≤ 1000 := by
        have : ¬ (1000 < (p.len : Int)) := fun h => hno (.inl h)
        omega
      have ht : t ≠ 0#32 := fun h => hno (.inr (by rw [h]; rfl))
      have hp2 := hp.ext hx2
      refine cR_of (seal_ok w2 p bs hp2 (by omega)) ?_
      rintro x w23 ⟨ho23, hx23'⟩
      have hx23 := hx2.trans hx23'
      have hxl : x.len = bs.length + 4 := by
        have := ho23.length
        rw [u8s_length, sealed_len] at this
        omega
      have e4 : IntKind.i64.wrap ((p.len : Int) + 4) = (x.len : Int) := by rw [w64_eq (by omega) (by omega)]; omega
      rw [e4]
      refine ⟨fun h => absurd rfl (nd_t h), fun _ => ?_⟩
      have e31 : IntKind.u64.wrap (IntKind.i64.wrap (IntKind.i64.wrap (8 * (x.len : Int)) - 31)) = ((8 * x.len - 31 : Nat) : Int) := by
        rw [w64_eq (x := 8 * (x.len : Int)) (by omega) (by omega), w64_eq (by omega) (by omega), wu64_eq (by omega) (by omega)]
        omega
      simp only [e31]
      have hmod0 := Int.emod_nonneg (IntKind.u64.wrap n1) (b := ((8 * x.len - 31 : Nat) : Int)) (by omega)
      have hmod1 := Int.emod_lt_of_pos (IntKind.u64.wrap n1) (b := ((8 * x.len - 31 : Nat) : Int)) (by omega)
      have hu0 : 0 ≤ IntKind.u64.wrap n1 := by rw [wu64_mod]; omega
      obtain ⟨k, hk⟩ : ∃ k : Nat, IntKind.i64.wrap (Int.tmod (IntKind.u64.wrap n1) ((8 * x.len - 31 : Nat) : Int)) = (k : Int) := by
        rw [Int.tmod_eq_emod_of_nonneg hu0, w64_eq (by omega) (by omega)]
        exact ⟨_, (Int.toNat_of_nonneg hmod0).symm⟩
      have hklt : k < 8 * x.len - 31 := by
        rw [Int.tmod_eq_emod_of_nonneg hu0, w64_eq (by omega) (by omega)] at hk
        omega
      simp only [hk]
      refine ⟨by omega, ?_⟩
      have hsl : (sealed bs).length = x.len := by rw [sealed_len]; omega
      refine ⟨fun st w' => ∃ (i : Nat) (xs : List UInt8), i ≤ 32 ∧ st = (i : Int) ∧ xs.length = x.len ∧ Own w' w2.heap.size 5 1 x (u8s xs) ∧ Ext w2 w' ∧ ∀ m, m < 8 * x.len → bitAt xs m = (bitAt (sealed bs) m ^^ (decide (k ≤ m ∧ m < k + i) && t.getLsbD (m - k))),
        fun st _ => 32 - st.toNat, ⟨0, sealed bs, by omega, rfl, hsl, ho23, hx23', ?_⟩, ?_⟩
      · intro m hm
        have : ¬ (k ≤ m ∧ m < k + 0) := by omega
        rw [decide_eq_false this]
        simp
      rintro st w26 ⟨i, xs, hi, rfl, hxs, ho, hx, hbits⟩
      refine ⟨fun hlt => ?_, fun hge => ?_⟩
      · have hlt : i < 32 := by have := of_decide_eq_true hlt; omega
        refine jn_of fun k3 hk3 => ?_
        have next : ∀ (xs' : List UInt8) (w' : World), xs'.length = x.len → Own w' w2.heap.size 5 1 x (u8s xs') → Ext w2 w' → (∀ m, m < 8 * x.len → bitAt xs' m = (bitAt (sealed bs) m ^^ (decide (k ≤ m ∧ m < k + (i + 1)) && t.getLsbD (m - k)))) → k3 () w' := by
          intro xs' w' h1 h2 h3 h4
          rw [hk3, w64_eq (by omega) (by omega)]
          exact ⟨⟨i + 1, xs', by omega, by omega, h1, h2, h3, h4⟩, by simp only; omega⟩
        refine ⟨by omega, fun hbit => ?_, fun hbit => ?_⟩
        · have hbit := (shr_bit t hlt).1 (of_decide_eq_true hbit)
          intro w35 hw35
          have hx35 : Ext w26 w35 := by subst hw35; exact Ext.drew _
          have eki : IntKind.i64.wrap ((k : Int) + (i : Int)) = ((k + i : Nat) : Int) := by rw [w64_eq (by omega) (by omega)]; omega
          have ed : IntKind.i64.wrap (Int.tdiv ((k + i : Nat) : Int) 8) = (((k + i) / 8 : Nat) : Int) := by
            rw [Int.tdiv_eq_ediv_of_nonneg (by omega), w64_eq (by omega) (by omega)]; omega
          have em : Int.tmod ((k + i : Nat) : Int) 8 = (((k + i) % 8 : Nat) : Int) := by
            rw [Int.tmod_eq_emod_of_nonneg (by omega)]; omega
          rw [eki, ed, em]
          have hj : (k + i) / 8 < x.len := by omega
          refine ix_own ho (by decide) rfl hj fun g hg hbg hgs => ?_
          rw [Nat.mul_one]
          have ho35 := ho.ext hx35
          have hcell := (ho.place (j := (k + i) / 8) (by omega))
          obtain ⟨g', hg', _, _, hc, _⟩ := hcell
          rw [hg] at hg'; cases hg'
          have hjx : (k + i) / 8 < xs.length := by omega
          refine ⟨(xs[(k + i) / 8].toNat : Int), ?_, by omega, ?_⟩
          · rw [hc]; exact u8s_get (List.getElem?_eq_getElem hjx)
          refine ix_own ho (by decide) rfl hj fun g2 hg2 _ _ => ?_
          rw [hg] at hg2; cases hg2
          rw [Nat.mul_one, turn_byte _ (by omega)]
          refine st1_own ho35 hg (by omega) fun w' hw' ho' hB' => ?_
          refine next (xs.set ((k + i) / 8) (xs.getD ((k + i) / 8) 0 ^^^ oneBit ((k + i) % 8))) w' (by simpa using hxs) ?_ (hB' _ _ (hx.trans hx35) (Nat.le_refl _)) ?_
          · have : u8s (xs.set ((k + i) / 8) (xs.getD ((k + i) / 8) 0 ^^^ oneBit ((k + i) % 8))) = (u8s xs).set ((k + i) / 8) (.int .u8 ((xs[(k + i) / 8] ^^^ oneBit ((k + i) % 8)).toNat : Int)) := by
              simp [u8s, List.map_set, List.getD, hjx]
            rw [this]; exact ho'
          · intro m hm
            rw [bitAt_turn (by omega) (by omega), hbits m hm]
            by_cases hmk : m = k + i
            · subst hmk
              have h1 : ¬ (k ≤ k + i ∧ k + i < k + i) := by omega
              have h2 : (k ≤ k + i ∧ k + i < k + (i + 1)) := by omega
              have h3 : k + i - k = i := by omega
              simp only [decide_eq_false h1, decide_eq_true h2, h3, hbit, Bool.false_and, Bool.true_and, Bool.xor_false, decide_true]
            · have : (k ≤ m ∧ m < k + (i + 1)) ↔ (k ≤ m ∧ m < k + i) := by omega
              simp [this, hmk]
        · have hbit : t.getLsbD i = false := by
            have := of_decide_eq_false hbit
            rw [shr_bit t hlt] at this
            simpa using this
          refine next xs w26 hxs ho hx fun m hm => ?_
          rw [hbits m hm]
          by_cases hmk : m = k + i
          · subst hmk
            have h3 : k + i - k = i := by omega
            simp only [h3, hbit, Bool.and_false]
          · have : (k ≤ m ∧ m < k + (i + 1)) ↔ (k ≤ m ∧ m < k + i) := by omega
            simp [this]
      · have hge : i = 32 := by have := of_decide_eq_false hge; omega
        subst hge
        have hb := ho.bytes
        refine cR_of (open_ok w26 x xs hb ho.cap (by omega)) ?_
        rintro ⟨y, e⟩ w52 ⟨hx52, hcases⟩
        have hrow : bitsOf xs = xorL (bitsOf (sealed bs)) (List.replicate k false ++ bitsW 32 t ++ List.replicate (8 * x.len - k - 32) false) := by
          have hl1 : (bitsOf xs).length = 8 * x.len := by rw [bits_length, hxs]
          have hl2 : (bitsOf (sealed bs)).length = 8 * x.len := by rw [bits_length, hsl]
          apply List.ext_getElem?
          intro m
          rcases Nat.lt_or_ge m (8 * x.len) with hm | hm
          · rw [bitAt_get (by omega), hbits m hm]
            unfold xorL
            rw [List.getElem?_zipWith, bitAt_get (by omega)]
            have : (List.replicate k false ++ bitsW 32 t ++ List.replicate (8 * x.len - k - 32) false)[m]? = some (decide (k ≤ m ∧ m < k + 32) && t.getLsbD (m - k)) := by
              rw [List.append_assoc]
              rcases Nat.lt_or_ge m k with h1 | h1
              · rw [List.getElem?_append_left (by simpa using h1)]
                have : ¬ (k ≤ m ∧ m < k + 32) := by omega
                simp [h1, this]
              · rw [List.getElem?_append_right (by simpa using h1), List.length_replicate]
                rcases Nat.lt_or_ge (m - k) 32 with h2 | h2
                · rw [List.getElem?_append_left (by simp [bitsW]; omega)]
                  have : k ≤ m ∧ m < k + 32 := by omega
                  simp [bitsW, h2, this]
                · rw [List.getElem?_append_right (by simp [bitsW]; omega)]
                  have h3 : ¬ (k ≤ m ∧ m < k + 32) := by omega
                  have h4 : m - k - 32 < 8 * x.len - k - 32 := by omega
                  simp [bitsW, h3, h4]
            rw [this]
          · rw [List.getElem?_eq_none (by omega), List.getElem?_eq_none (by simp [xorL, bitsW]; omega)]
        have hns := turned_not_sealed ht hrow (by rw [bits_length, hsl]; omega)
        rcases hcases with ⟨h1, _⟩ | ⟨h1, h2, h3⟩ | ⟨h1, h2, _⟩
        · omega
        · cases h3
          refine jn_of fun k3 hk3 => ?_
          refine ⟨fun _ => ?_, fun h => absurd h (by simp)⟩
          rw [hk3]
          exact ⟨by decide, (hx2.trans hx).trans hx52⟩
        · exact absurd h2 (hns _)
    refine ⟨fun h => key2 true (by simp [hb.1 h]), fun h => key2 _ ?_⟩
    have : ¬ (1000 < (p.len : Int)) := fun hn => by rw [hb.2 hn] at h; cases h
    simp [this]
  refine ⟨fun hc => absurd hc (by decide), fun _ => ?_⟩
  exact key _ (by simp)
end Go.Proofs.Ytmlbmnaknjdmgaa
