/- CrcAdds: the sums of three texts of one length, added without carry, are that of the three added so: the law answers true and leaves all that was there. -/
import Derived.Test.YtmlbmnaknjdmgaaS4
import Derived.Test.YtmlbmnaknjdmgaaCrcSpec
set_option linter.unusedVariables false
set_option linter.unusedSimpArgs false
namespace Go.Proofs.Ytmlbmnaknjdmgaa
open Go.Lift Go.Lift.Crc Go.RowKit

theorem xorI_u8 (c d : UInt8) : xorI .u8 (c.toNat : Int) (d.toNat : Int) = ((c ^^^ d).toNat : Int) := by
  have e : ∀ b : UInt8, BitVec.ofInt 8 (b.toNat : Int) = b.toBitVec := by
    intro b
    apply BitVec.eq_of_toNat_eq
    have := b.toBitVec.isLt
    have h2 : b.toNat = b.toBitVec.toNat := rfl
    simp
  show IntKind.u8.wrap ((BitVec.ofInt 8 _ ^^^ BitVec.ofInt 8 _).toNat : Int) = _
  rw [e, e]
  have h3 : (c.toBitVec ^^^ d.toBitVec) = (c ^^^ d).toBitVec := by simp
  rw [h3]
  have := u8_lt (c ^^^ d)
  rw [wu8_eq (by omega) (by simp only [UInt8.toNat_toBitVec]; omega)]
  rfl
theorem byteBits_xor (c d : UInt8) : byteBits (c ^^^ d) = xorL (byteBits c) (byteBits d) := by
  unfold byteBits bitsW xorL
  rw [List.zipWith_map]
  apply List.ext_getElem
  · simp
  · intro i h1 h2
    simp [wide]
theorem bitsOf_xor : ∀ (a b : List UInt8), a.length = b.length → bitsOf (List.zipWith (· ^^^ ·) a b) = xorL (bitsOf a) (bitsOf b)
  | [], [], _ => rfl
  | x :: a, y :: b, h => by
    rw [List.zipWith_cons_cons, bits_cons, bits_cons, bits_cons, bitsOf_xor a b (by simpa using h), byteBits_xor]
    unfold xorL
    rw [List.zipWith_append (by simp [byteBits, bitsW])]
theorem crc_adds (a b c : List UInt8) (h1 : a.length = b.length) (h2 : b.length = c.length) : crc a ^^^ crc b ^^^ crc c = crc (List.zipWith (· ^^^ ·) (List.zipWith (· ^^^ ·) a b) c) := by
  have hab : (List.zipWith (· ^^^ ·) a b).length = c.length := by simp; omega
  unfold crc
  rw [bitsOf_xor _ _ hab, bitsOf_xor _ _ h1]
  have e1 := reg_xor (bitsOf a) (bitsOf b) (BitVec.allOnes 32) (BitVec.allOnes 32) (by rw [bits_length, bits_length, h1])
  have e2 := reg_xor (xorL (bitsOf a) (bitsOf b)) (bitsOf c) (BitVec.allOnes 32 ^^^ BitVec.allOnes 32) (BitVec.allOnes 32) (by simp [xorL, bits_length]; omega)
  rw [BitVec.xor_self, BitVec.zero_xor] at e2
  rw [e2]
  rw [BitVec.xor_self] at e1
  rw [e1]
  generalize reg (BitVec.allOnes 32) (bitsOf a) = x
  generalize reg (BitVec.allOnes 32) (bitsOf b) = y
  generalize reg (BitVec.allOnes 32) (bitsOf c) = z
  apply BitVec.eq_of_getLsbD_eq
  intro i hi
  simp only [BitVec.getLsbD_xor, BitVec.getLsbD_not, hi, decide_true, Bool.true_and]
  cases x.getLsbD i <;> cases y.getLsbD i <;> cases z.getLsbD i <;> rfl

theorem least (a b c : Nat) : ∃ m : Nat, mn (mn (mn (a : Int) (b : Int)) (c : Int)) 500 = (m : Int) ∧ m ≤ a ∧ m ≤ b ∧ m ≤ c ∧ m ≤ 500 := by
  refine ⟨(mn (mn (mn (a : Int) (b : Int)) (c : Int)) 500).toNat, ?_⟩
  unfold mn
  repeat' split
  all_goals omega
theorem zeros_u8 (m : Nat) : List.replicate m (Value.int .u8 0) = u8s (List.replicate m 0) := by simp [u8s]

theorem crcAdds_ok (w : World) (p : Sl) (aa : List UInt8) (hp : Bytes w p aa) (hlc0 : p.len ≤ p.cap) (_hcm0 : p.cap ≤ maxLen) (q : Sl) (bs : List UInt8) (hq : Bytes w q bs) (hlc1 : q.len ≤ q.cap) (_hcm1 : q.cap ≤ maxLen)
    (r : Sl) (cs : List UInt8) (hr : Bytes w r cs) (hlc2 : r.len ≤ r.cap) (_hcm2 : r.cap ≤ maxLen) :
    Calls Try.prog 4 #[p.v, q.v, r.v] w (Ret r4 fun x w' => x = true ∧ Ext w w') := by
  apply s4_calls
  refine cR_of (lives_ok w) ?_
  rintro x1 w2 ⟨rfl, hx2⟩
  refine ⟨fun h => absurd h (by decide), fun _ => ?_⟩
  obtain ⟨m, hm, hma, hmb, hmc, hm5⟩ := least p.len q.len r.len
  simp only [hm]
  have hpl := hp.1; have hql := hq.1; have hrl := hr.1
  refine ⟨by omega, by omega, by omega, by omega, ?_⟩
  intro b5 w5 hb5 hw5
  rw [Int.toNat_natCast, Nat.mul_one, zeros_u8] at hw5
  rw [Int.toNat_natCast]
  have hx5 : Ext w w5 := hx2.trans (Ext.new hw5)
  have ho5 : Own w5 w.heap.size 5 1 ⟨some ⟨b5, 0, none⟩, m, m⟩ (u8s (List.replicate m 0)) := Own.new hb5 hw5 hx2.size (by simp [u8s]) (by simp only [maxLen]; omega)
  generalize hxs : (⟨some ⟨b5, 0, none⟩, m, m⟩ : Sl) = x6 at ho5 ⊢
  have hx6l : x6.len = m := by rw [← hxs]
  refine ⟨fun st w' => ∃ (i : Nat) (ys : List UInt8), i ≤ m ∧ st = (i : Int) ∧ ys.length = m ∧ Own w' w.heap.size 5 1 x6 (u8s ys) ∧ Ext w w' ∧ ∀ j, j < i → ys[j]? = (List.zipWith (· ^^^ ·) (List.zipWith (· ^^^ ·) aa bs) cs)[j]?,
    fun st _ => m - st.toNat, ⟨0, List.replicate m 0, by omega, rfl, by simp, ho5, hx5, by intro j hj; omega⟩, ?_⟩
  rintro st w8 ⟨i, ys, hi, rfl, hys, ho, hx, hpre⟩
  refine ⟨fun hlt => ?_, fun hge => ?_⟩
  · have hlt : i < m := by have := of_decide_eq_true hlt; omega
    intro w18 hw18
    have hx18 : Ext w8 w18 := by subst hw18; exact Ext.drew _
    obtain ⟨a0, ha0, hc0⟩ := (hp.ext hx).get (k := i) (by omega)
    obtain ⟨a1, ha1, hc1⟩ := (hq.ext hx).get (k := i) (by omega)
    obtain ⟨a2, ha2, hc2⟩ := (hr.ext hx).get (k := i) (by omega)
    refine ⟨a0, _, ha0, by omega, by omega, rfl, _, by rw [Int.toNat_natCast, Nat.mul_one]; exact hc0, ?_⟩
    refine ⟨a1, _, ha1, by omega, by omega, rfl, _, by rw [Int.toNat_natCast, Nat.mul_one]; exact hc1, ?_⟩
    refine ⟨a2, _, ha2, by omega, by omega, rfl, _, by rw [Int.toNat_natCast, Nat.mul_one]; exact hc2, ?_⟩
    refine ix_own ho (by decide) rfl (by omega) fun g hg hbg hgs => ?_
    rw [Nat.mul_one, xorI_u8, xorI_u8]
    refine st1_own (ho.ext hx18) hg (by omega) fun w' hw' ho' hB' => ?_
    rw [w64_eq (by omega) (by omega)]
    refine ⟨⟨i + 1, ys.set i (aa[i] ^^^ bs[i] ^^^ cs[i]), by omega, by omega, by simpa using hys, ?_, hB' _ _ (hx.trans hx18) (Nat.le_refl _), ?_⟩, by simp only; omega⟩
    · have : u8s (ys.set i (aa[i] ^^^ bs[i] ^^^ cs[i])) = (u8s ys).set i (.int .u8 ((aa[i] ^^^ bs[i] ^^^ cs[i]).toNat : Int)) := by simp [u8s, List.map_set]
      rw [this]; exact ho'
    · intro j hj
      by_cases hji : j = i
      · subst hji
        rw [List.getElem?_set_self (by omega), List.getElem?_zipWith, List.getElem?_zipWith, List.getElem?_eq_getElem (by omega), List.getElem?_eq_getElem (by omega), List.getElem?_eq_getElem (by omega)]
      · rw [List.getElem?_set_ne (fun h => hji h.symm)]
        exact hpre j (by omega)
  · have hge : i = m := by have := of_decide_eq_false hge; omega
    subst hge
    have hyz : ys = List.zipWith (· ^^^ ·) (List.zipWith (· ^^^ ·) (aa.take i) (bs.take i)) (cs.take i) := by
      apply List.ext_getElem?
      intro j
      rcases Nat.lt_or_ge j i with hj | hj
      · rw [hpre j hj]
        simp only [List.getElem?_zipWith, List.getElem?_take_of_lt hj]
      · rw [List.getElem?_eq_none (by omega), List.getElem?_eq_none (by simp; omega)]
    have cutOf : ∀ {s : Sl} {l : List UInt8}, Bytes w s l → i ≤ s.len → s.len ≤ s.cap → Bytes w (s.cut 1 0 (i : Int) s.cap) (l.take i) := by
      intro s l h h1 h2
      have := h.cut (l := 0) (e := i) (m := s.cap) (Nat.zero_le _) (by omega) (by have := h.1; omega)
      simpa using this
    have hca := cutOf hp (by omega) hlc0
    have hcb := cutOf hq (by omega) hlc1
    have hcc := cutOf hr (by omega) hlc2
    intro w32 hw32
    have hx32 : Ext w8 w32 := by subst hw32; exact Ext.drew _
    have hxw := hx.trans hx32
    refine ⟨⟨by omega, by omega, by omega⟩, ⟨by omega, by omega, by omega⟩, ⟨by omega, by omega, by omega⟩, ?_⟩
    have node : ∀ (s : Sl) (l : List UInt8), Bytes w s l → ∀ w', Ext w32 w' → newB 25 [s.v] w' fun b w'' => Ext w' w'' ∧ Parts w'' ⟨some ⟨b, 0, none⟩, 1, 1⟩ [l] := by
      intro s l h w' hw' b w'' hb hw''
      exact ⟨Ext.new hw'', parts_one hb hw'' (h.ext (hxw.trans hw'))⟩
    have call : ∀ (s : Sl) (l : List UInt8), l.length ≤ 500 → s.len = 1 → ∀ w', Parts w' s [l] → cR Try.prog 10 r10 #[s.v] w' fun x w'' => Ext w' w'' ∧ x = ((crc l).toNat : Int) := by
      intro s l hl hs w' h
      refine cR_of (sum_ok w' s [l] h (by simp only [maxLen]; omega) (by simp only [List.mem_singleton, forall_eq, maxLen]; omega)) ?_
      rintro x w'' ⟨rfl, rfl⟩
      exact ⟨Ext.refl _, by simp⟩
    refine ⟨fun _ s v => s.len = 1 ∧ Parts v s [aa.take i], fun _ s a b hx h => ⟨h.1, h.2.ext hx⟩, fun _ w' hw' _ => fun b w'' hb hw'' => ⟨(node _ _ hca w' hw' b w'' hb hw'').1, rfl, (node _ _ hca w' hw' b w'' hb hw'').2⟩, ?_⟩
    refine ⟨fun _ x v => x = ((crc (aa.take i)).toNat : Int), fun _ s a b hx h => h, fun d w' hw' hd => call d _ (by simp; omega) hd.1 w' hd.2, ?_⟩
    refine ⟨fun _ s v => s.len = 1 ∧ Parts v s [bs.take i], fun _ s a b hx h => ⟨h.1, h.2.ext hx⟩, fun _ w' hw' _ => fun b w'' hb hw'' => ⟨(node _ _ hcb w' hw' b w'' hb hw'').1, rfl, (node _ _ hcb w' hw' b w'' hb hw'').2⟩, ?_⟩
    refine ⟨fun _ x v => x = ((crc (bs.take i)).toNat : Int), fun _ s a b hx h => h, fun d w' hw' hd => call d.2.2 _ (by simp; omega) hd.2.2.1 w' hd.2.2.2, ?_⟩
    refine ⟨fun _ s v => s.len = 1 ∧ Parts v s [cs.take i], fun _ s a b hx h => ⟨h.1, h.2.ext hx⟩, fun _ w' hw' _ => fun b w'' hb hw'' => ⟨(node _ _ hcc w' hw' b w'' hb hw'').1, rfl, (node _ _ hcc w' hw' b w'' hb hw'').2⟩, ?_⟩
    refine ⟨fun _ x v => x = ((crc (cs.take i)).toNat : Int), fun _ s a b hx h => h, fun d w' hw' hd => call d.2.2.2.2 _ (by simp; omega) hd.2.2.2.2.1 w' hd.2.2.2.2.2, ?_⟩
    refine ⟨fun _ s v => s.len = 1 ∧ Parts v s [ys], fun _ s a b hx h => ⟨h.1, h.2.ext hx⟩, fun _ w' hw' _ => fun b w'' hb hw'' => ⟨Ext.new hw'', rfl, parts_one hb hw'' ((ho.bytes).ext (hx32.trans hw'))⟩, ?_⟩
    intro x34 x35 x36 x37 x38 x39 x40 w83 hx83 _ h35 _ h37 _ h39 h40
    refine cR_of (call x40 ys (by omega) h40.1 w83 h40.2) ?_
    rintro x85 w86 ⟨hx86, rfl⟩
    refine ⟨?_, (hxw.trans hx83).trans hx86⟩
    have h35 : x35 = ((crc (aa.take i)).toNat : Int) := h35
    have h37 : x37 = ((crc (bs.take i)).toNat : Int) := h37
    have h39 : x39 = ((crc (cs.take i)).toNat : Int) := h39
    rw [h35, h37, h39, xorI_u32, xorI_u32, crc_adds _ _ _ (by simp; omega) (by simp; omega), ← hyz]
    simp
end Go.Proofs.Ytmlbmnaknjdmgaa
