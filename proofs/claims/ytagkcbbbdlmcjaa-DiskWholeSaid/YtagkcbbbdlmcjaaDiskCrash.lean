/- What a loss of power does to the disk in memory. -/
import Derived.Test.YtagkcbbbdlmcjaaDiskRep
import Derived.Test.YtagkcbbbdlmcjaaS35
set_option linter.unusedVariables false
set_option linter.unusedSimpArgs false
namespace Go.Proofs.Ytagkcbbbdlmcjaa
open Go.Lift Go.Lift.Disk Go.RowKit
theorem and_one64 (m : Nat) (hm : m < 18446744073709551616) : andI .u64 (m : Int) 1 = ((m % 2 : Nat) : Int) := by
  show IntKind.u64.wrap ((BitVec.ofInt 64 (m : Int) &&& BitVec.ofInt 64 1).toNat : Int) = _
  have h1 : BitVec.ofInt 64 1 = 1#64 := by decide
  rw [h1, BitVec.ofInt_natCast, BitVec.toNat_and, BitVec.toNat_ofNat, Nat.mod_eq_of_lt (by omega)]
  have h2 : (1#64).toNat = 1 := rfl
  rw [h2, Nat.and_one_is_mod, wu64_eq (by omega) (by omega)]
theorem bit64 {x : Int} (h0 : 0 ≤ x) (h1 : x < 18446744073709551616) {k : Nat} (hk : k < 64) : (andI .u64 (shrI .u64 x (k : Int)) 1 = 1) ↔ x.toNat.testBit k = true := by
  obtain ⟨n, rfl⟩ := Int.eq_ofNat_of_zero_le h0
  have e1 : shrI .u64 (n : Int) (k : Int) = ((n / 2 ^ k : Nat) : Int) := by
    unfold shrI
    have : min (k : Int).toNat (IntKind.bits .u64) = k := by simp [IntKind.bits]; omega
    rw [this, Int.fdiv_eq_ediv_of_nonneg _ (by exact_mod_cast Nat.zero_le _)]
    push_cast
    rfl
  have h2 : n / 2 ^ k < 18446744073709551616 := Nat.lt_of_le_of_lt (Nat.div_le_self _ _) (by omega)
  rw [e1, and_one64 _ h2, Int.toNat_natCast, Nat.testBit_eq_decide_div_mod_eq]
  generalize n / 2 ^ k = m
  rw [decide_eq_true_iff]
  omega
theorem SlAt.row {w : World} {base : Nat → Prop} {pd bb sz : Nat} {s : Sl} {cs : List Value} (h : SlAt w base pd bb sz s cs) (h0 : 0 < sz) {k : Nat} (hk : k < s.len) : ∃ a, s.a = some a ∧ At w (a.add (k * sz)) ((cs.drop (k * sz)).take sz) := by
  have hl : k * sz < cs.length := by rw [h.len]; exact Nat.mul_lt_mul_of_pos_right hk h0
  obtain ⟨a, ha, _⟩ := h.cells.some_of (List.getElem?_eq_getElem hl)
  refine ⟨a, ha, ?_⟩
  have hc := h.cells
  rw [ha] at hc
  exact At.sub hc _ _
theorem one_pend {x : Nat} {bs : List UInt8} : ∀ v ∈ (Value.int .i64 (x : Int) :: u8s bs), v.oneCell' = true := by
  intro v hv
  rcases List.mem_cons.1 hv with rfl | hv
  · rfl
  · exact u8s_one bs v hv
theorem cut_to (a : Addr) (n m : Nat) (hn : 0 < n) : Sl.cut ⟨some a, n, n⟩ 1 0 (m : Int) n = ⟨some a, m, n⟩ := by
  simp [Sl.cut, Addr.add]
theorem torn_eq (f : Fall) : mx 0 (mn f.2.2 512) = (torn f : Int) ∧ torn f ≤ 512 := by
  unfold torn mx mn
  split <;> split <;> omega
theorem torn_eq' (x : Int) : 0 ≤ mx 0 (mn x 512) ∧ mx 0 (mn x 512) ≤ 512 := by
  unfold mx mn
  split <;> split <;> omega
theorem crashStep_len (f : Fall) (last : Int) (l : List Bl) (k : Nat) (p : Nat × List UInt8) : (crashStep f last l k p).length = l.length := by
  unfold crashStep
  split
  · exact setSure_len _ _ _
  · split
    · exact setSure_len _ _ _
    · rfl
def halves (l : List Bl) : List Bl := l.map fun p => (p.2, p.2)
theorem halves_step {L : List Bl} {i : Nat} (hi : i < L.length) : setNow (halves (L.take i) ++ L.drop i) i (bAt (halves (L.take i) ++ L.drop i) i).2 = halves (L.take (i + 1)) ++ L.drop (i + 1) := by
  have hl : (halves (L.take i)).length = i := by simp [halves]; omega
  have hb : bAt (halves (L.take i) ++ L.drop i) i = L[i] := by
    unfold bAt
    rw [List.getD_eq_getElem?_getD, List.getElem?_append_right (by omega), hl, Nat.sub_self, List.drop_eq_getElem_cons hi]
    rfl
  have h2 : halves (L.take (i + 1)) = halves (L.take i) ++ [(L[i].2, L[i].2)] := by unfold halves; rw [List.take_succ_eq_append_getElem hi, List.map_append]; rfl
  unfold setNow
  rw [hb, List.set_append, hl, if_neg (by omega), Nat.sub_self, List.drop_eq_getElem_cons hi, List.set_cons_zero, h2]
  simp

theorem crash_ok {w : World} {base : Nat → Prop} {pd bb : Nat} {D : Dk} (h : DAt w base pd bb D) (f : Fall) (hk : 0 ≤ f.2.1 ∧ f.2.1 < 18446744073709551616) :
    Calls Try.prog 35 #[.pointer (dp pd), aggv (fallOf f)] w (Ret r35 fun _ w' => DAt w' base pd bb (D.crash f) ∧ Fr (Foot pd bb) w w') := by
  apply s35_calls
  intro b1 w2 hb1 hw2
  have hx2 : Ext w w2 := Ext.new hw2
  have hf1 : Blk w2 b1 27 (fallOf f) := Blk.new hb1 hw2
  have hlt := h.lt
  have h2 := h.ext hx2
  have hbf : ¬ Foot pd bb b1 := by rintro (e | e) <;> omega
  refine cR_of (down_ok h2) ?_
  rintro x w' ⟨rfl, rfl⟩
  obtain ⟨c, r, sp, sf, h2⟩ := h2
  have hwf := h2.wf
  have hpl := pend_len h2.pend fun p hp => (hwf.pend p hp).2
  refine ⟨fun hd => ?_, fun hd => ?_⟩
  · refine ⟨⟨c, r, sp, sf, ?_⟩, Fr.of hx2⟩
    unfold Dk.crash
    rw [if_pos hd]; exact h2
  have hlast : IntKind.i64.wrap ((sp.len : Int) - 1) = (D.pend.length : Int) - 1 := by
    have := hwf.plen
    rw [hpl, w64_eq (by omega) (by omega)]
  refine ⟨_, rfl, sp, by rw [add_plain]; exact h2.disk.cell rfl, _, rfl, sp, by rw [add_plain]; exact h2.disk.cell rfl, ?_⟩
  refine ⟨fun s w' => ∃ (k : Nat) (l : List Bl), k ≤ D.pend.length ∧ s = (k : Int) ∧ DX w' base pd bb c r sp sf { D with bl := l } ∧ Fr (Foot pd bb) w2 w' ∧ Blk w' b1 27 (fallOf f) ∧ l.length = D.bl.length ∧
      crashL f ((D.pend.length : Int) - 1) k (D.pend.drop k) l = crashL f ((D.pend.length : Int) - 1) 0 D.pend D.bl,
    fun s _ => D.pend.length - s.toNat, ⟨0, D.bl, Nat.zero_le _, rfl, h2, Fr.refl _, hf1, rfl, rfl⟩, ?_⟩
  rintro s w13 ⟨k, l, hkl, rfl, hX, hfr, hB1, hll, hcr⟩
  refine ⟨fun hlt2 => ?_, fun hge => ?_⟩
  · have hkp : k < D.pend.length := by have := of_decide_eq_true hlt2; omega
    refine jn_of fun k1 hk1 => ?_
    obtain ⟨hpi, hp512⟩ := hwf.pend _ (List.getElem_mem hkp)
    have next : ∀ (l' : List Bl) (w' : World), l' = crashStep f ((D.pend.length : Int) - 1) l k D.pend[k] → DX w' base pd bb c r sp sf { D with bl := l' } → Fr (Foot pd bb) w2 w' → Blk w' b1 27 (fallOf f) → k1 () w' := by
      intro l' w' hl' h1 h3 h4
      have := hwf.plen
      rw [hk1, w64_eq (by omega) (by omega)]
      refine ⟨⟨k + 1, l', by omega, by omega, h1, h3, h4, by rw [hl', crashStep_len, hll], ?_⟩, by simp only; omega⟩
      rw [← hcr, List.drop_eq_getElem_cons hkp, crashL, hl']
    obtain ⟨a, ha, hat⟩ := hX.pend.row (by decide) (k := k) (by omega)
    rw [pendC_at (fun p hp => (hwf.pend p hp).2) hkp] at hat
    refine ⟨a, _, ha, by omega, by omega, rfl, ?_⟩
    rw [Int.toNat_natCast]
    refine ⟨_, by simp [u8s_len, hp512], hat, ?_⟩
    refine ⟨by simp [u8s_len, hp512], one_pend, fun b26 w27 hb26 hw27 => ?_⟩
    have hx27 : Ext w13 w27 := Ext.new hw27
    have hX27 := hX.ext hx27
    have hB26 : Blk w27 b26 116 (.int .i64 (D.pend[k].1 : Int) :: u8s D.pend[k].2) := Blk.new hb26 hw27
    intro w28 hw28
    have hx28 : Ext w27 w28 := by subst hw28; exact Ext.drew _
    have hX28 := hX27.ext hx28
    have hB26' := hB26.ext hx28
    have hB1' := (hB1.ext hx27).ext hx28
    have hfr28 : Fr (Foot pd bb) w2 w28 := (hfr.trans (Fr.of hx27)).trans (Fr.of hx28)
    have hpi' : D.pend[k].1 < l.length := by rw [hll]; exact hpi
    refine ⟨_, rfl, ⟨some ⟨bb, 0, none⟩, l.length, c⟩, by rw [add_plain]; exact hX27.disk.cell rfl, ?_⟩
    refine ⟨(D.pend[k].1 : Int), by rw [add_plain]; exact hB26.cell rfl, ?_⟩
    refine ⟨⟨bb, 0, none⟩, _, rfl, by omega, by simpa using hpi', rfl, ?_⟩
    show jn _ _
    simp only [add_plain, Nat.zero_add, Int.toNat_natCast, Nat.mul_comm _ 1024]
    have hsz : (u8s (flatB l) ++ r).length ≥ 1024 * D.pend[k].1 + 1024 := by
      have := flat_len hX.wf.bl
      simp only at this
      rw [List.length_append, u8s_len, this]
      omega
    refine jn_of fun k2 hk2 => ?_
    have key2 : ∀ b : Bool, (b = true ↔ (k < 64 ∧ f.2.1.toNat.testBit k = true)) → k2 b w28 := by
      intro b hb
      rw [hk2]
      refine ⟨fun hbt => ?_, fun hbf2 => ?_⟩
      · have hbt := hb.1 hbt
        refine ⟨u8s D.pend[k].2, by rw [u8s_len, hp512], hB26'.at (by rw [List.drop_succ_cons, List.drop_zero, List.take_length]), ?_⟩
        refine stA_blk hX28.rows (by rw [u8s_len, hp512]) (by simp only at hsz ⊢; omega) (u8s_one _) fun w' hb' hf' => ?_
        have e := splice_sure hX.wf.bl hpi' hp512 r
        rw [e] at hb'
        have hst : crashStep f ((D.pend.length : Int) - 1) l k D.pend[k] = setSure l D.pend[k].1 D.pend[k].2 := by unfold crashStep; rw [if_pos hbt]
        refine next _ w' hst.symm (hX28.setRows (D := { D with bl := l }) hb' hf' (setSure_len _ _ _) (setSure_wf hX.wf.bl hpi' hp512)) (hfr28.trans (footFr_bb hf')) (hB1'.fr hf' fun e => hbf (.inr e))
      · have hnb : ¬ (k < 64 ∧ f.2.1.toNat.testBit k = true) := fun h => by rw [hb.2 h] at hbf2; cases hbf2
        rw [hlast]
        refine ⟨fun hla => ?_, fun hla => ?_⟩
        · have hla := of_decide_eq_true hla
          intro w55 hw55
          have hx55 : Ext w28 w55 := by subst hw55; exact Ext.drew _
          refine ⟨f.2.2, hB1'.cell rfl, ?_⟩
          obtain ⟨ht1, ht2⟩ := torn_eq f
          rw [ht1]
          refine ⟨by omega, ?_⟩
          have e1 : Sl.cut ⟨some ⟨bb, 1024 * D.pend[k].1 + 512, none⟩, 512, 512⟩ 1 0 (torn f : Int) 512 = ⟨some ⟨bb, 1024 * D.pend[k].1 + 512, none⟩, torn f, 512⟩ := by
            exact cut_to _ 512 _ (by decide)
          have e2 : Sl.cut ⟨some ⟨b26, 1, none⟩, 512, 512⟩ 1 0 512 512 = ⟨some ⟨b26, 1, none⟩, 512, 512⟩ := by
            exact cut_to _ 512 512 (by decide)
          rw [e1, e2]
          have hcl : (u8s (D.pend[k].2.take (torn f))).length = torn f := by rw [u8s_len, List.length_take, hp512]; omega
          refine cpy_blk (g := bb) (e := 112) (cs := u8s (D.pend[k].2.take (torn f))) mk_39 (hX28.ext hx55).rows (by simp only [u8s_len, List.length_take, hp512]; omega) ?_ (by rw [hcl]; simp only at hsz ⊢; omega) (u8s_one _) (by intro h; cases h) fun w' hb' hf' => ?_
          · refine (hB26'.ext hx55).at ?_
            rw [hcl, List.drop_succ_cons, List.drop_zero, u8s_take]
          have e := splice_sure_part hX.wf.bl hpi' (c := D.pend[k].2.take (torn f)) (by rw [List.length_take, hp512]; omega) r
          rw [e] at hb'
          have htl : (D.pend[k].2.take (torn f)).length = torn f := by rw [List.length_take, hp512]; omega
          rw [htl] at hb'
          have hst : crashStep f ((D.pend.length : Int) - 1) l k D.pend[k] = setSure l D.pend[k].1 (D.pend[k].2.take (torn f) ++ (bAt l D.pend[k].1).2.drop (torn f)) := by
            unfold crashStep; rw [if_neg hnb, if_pos hla]
          refine next _ w' hst.symm ((hX28.ext hx55).setRows (D := { D with bl := l }) hb' hf' (setSure_len _ _ _) (setSure_wf hX.wf.bl hpi' ?_)) ((hfr28.trans (Fr.of hx55)).trans (footFr_bb hf')) ((hB1'.ext hx55).fr hf' fun e => hbf (.inr e))
          rw [List.length_append, htl, List.length_drop, (bAt_len hX.wf.bl hpi').2]
          omega
        · have hla := of_decide_eq_false hla
          have hst : crashStep f ((D.pend.length : Int) - 1) l k D.pend[k] = l := by unfold crashStep; rw [if_neg hnb, if_neg hla]
          exact next l w28 hst.symm hX28 hfr28 hB1'
    refine ⟨fun h64 => ?_, fun h64 => ?_⟩
    · have h64 := of_decide_eq_true h64
      have h64' : k < 64 := by omega
      refine ⟨f.2.1, hB1'.cell rfl, by omega, key2 _ ?_⟩
      simp only [decide_eq_true_eq, bit64 hk.1 hk.2 h64', h64', true_and]
    · have h64 := of_decide_eq_false h64
      refine key2 _ ?_
      simp; omega
  · have hge : k = D.pend.length := by have := of_decide_eq_false hge; omega
    subst hge
    rw [List.drop_length, crashL] at hcr
    have hwl := hX.wf.bl
    simp only at hwl
    refine ⟨_, rfl, ⟨some ⟨bb, 0, none⟩, l.length, c⟩, by rw [add_plain]; exact hX.disk.cell rfl, ?_⟩
    refine ⟨fun s w' => ∃ (i : Nat), i ≤ l.length ∧ s = (i : Int) ∧ DX w' base pd bb c r sp sf { D with bl := halves (l.take i) ++ l.drop i } ∧ Fr (Foot pd bb) w2 w',
      fun s _ => l.length - s.toNat, ⟨0, Nat.zero_le _, rfl, by simpa [halves] using hX, hfr⟩, ?_⟩
    rintro s w76 ⟨i, hi, rfl, hY, hfr76⟩
    have hyl : (halves (l.take i) ++ l.drop i).length = l.length := by simp [halves]; omega
    refine ⟨fun hlt3 => ?_, fun hge3 => ?_⟩
    · have hil : i < l.length := by have := of_decide_eq_true hlt3; simp only at this; omega
      have hil' : i < (halves (l.take i) ++ l.drop i).length := by omega
      intro w82 hw82
      have hx82 : Ext w76 w82 := by subst hw82; exact Ext.drew _
      refine ⟨_, rfl, ⟨some ⟨bb, 0, none⟩, (halves (l.take i) ++ l.drop i).length, c⟩, by rw [add_plain]; exact hY.disk.cell rfl, ?_⟩
      refine ⟨_, rfl, ⟨some ⟨bb, 0, none⟩, (halves (l.take i) ++ l.drop i).length, c⟩, by rw [add_plain]; exact hY.disk.cell rfl, ?_⟩
      have hfa := flatAt hY (i := i) (by simpa using hil')
      have hbl := bAt_len hY.wf.bl (i := i) (by simpa using hil')
      simp only at hfa hbl
      refine ⟨⟨bb, 0, none⟩, _, rfl, by omega, by simp only; omega, rfl, ?_⟩
      show ldA _ _ _ _
      rw [add_plain, Nat.zero_add, Int.toNat_natCast, Nat.mul_comm, add_plain]
      refine ⟨_, by rw [u8s_len]; exact hbl.2, hfa.2, ?_⟩
      refine ⟨⟨bb, 0, none⟩, _, rfl, by omega, by simp only; omega, rfl, ?_⟩
      show stA _ _ _ _ _
      rw [add_plain, Nat.zero_add, Int.toNat_natCast, Nat.mul_comm, add_plain, Nat.add_zero]
      have hsz : (u8s (flatB (halves (l.take i) ++ l.drop i)) ++ r).length ≥ 1024 * i + 1024 := by
        have := flat_len hY.wf.bl
        simp only at this
        rw [List.length_append, u8s_len, this]
        omega
      refine stA_blk (hY.ext hx82).rows (by rw [u8s_len]; exact hbl.2) (by simp only at hsz ⊢; omega) (u8s_one _) fun w' hb' hf' => ?_
      have e := splice_now hY.wf.bl (i := i) (by simpa using hil') hbl.2 r
      rw [e, halves_step hil] at hb'
      have hfew := hwf.few
      rw [w64_eq (by omega) (by omega)]
      refine ⟨⟨i + 1, by omega, by omega, ?_, (hfr76.trans (Fr.of hx82)).trans (footFr_bb hf')⟩, by simp only; omega⟩
      have hwf' : WfB (halves (l.take (i + 1)) ++ l.drop (i + 1)) := by
        intro p hp
        rcases List.mem_append.1 hp with hp | hp
        · obtain ⟨q, hq, rfl⟩ := List.mem_map.1 hp
          have := hwl q (List.mem_of_mem_take hq)
          exact ⟨this.2, this.2⟩
        · exact hwl p (List.mem_of_mem_drop hp)
      exact (hY.ext hx82).setRows (D := { D with bl := halves (l.take i) ++ l.drop i }) hb' hf' (by simp [halves]; omega) hwf'
    · have hge3 : i = l.length := by have := of_decide_eq_false hge3; simp only at this; omega
      subst hge3
      rw [List.take_length, List.drop_length, List.append_nil] at hY
      refine ⟨_, rfl, ?_⟩
      show st1 _ _ _ _
      rw [add_plain]
      refine st1_blk hY.disk (Nat.succ_lt_succ (Nat.zero_lt_succ _)) fun w98 hb98 hf98 => ?_
      refine ⟨_, rfl, ?_⟩
      show st1 _ _ _ _
      rw [add_plain]
      refine st1_blk hb98 (Nat.lt_succ_self 4) fun w101 hb101 hf101 => ?_
      refine ⟨⟨c, r, nilSl, sf, ?_⟩, (((Fr.of hx2).trans hfr76).trans (footFr_pd hf98)).trans (footFr_pd hf101)⟩
      have ec : D.crash f = { D with bl := halves l, pend := [], down := true } := by
        unfold Dk.crash
        rw [if_neg (by rw [hd]; simp), ← hcr]
        rfl
      rw [ec]
      have hfd := hf98.trans hf101
      have hz := hY.wf
      refine ⟨⟨hz.pos, hz.few, hz.bl, by simp, by simp, hz.keep, hz.flen, hz.ch⟩, h2.hpd, h2.hbb, h2.hne, hY.hcap, hb101, hY.rows.fr hfd h2.hne.symm, SlAt.nilAt _ _ _ _ _, hY.falls.fr hfd fun k _ hk e => hk (.inl e)⟩
end Go.Proofs.Ytagkcbbbdlmcjaa
