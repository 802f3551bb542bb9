/- Parts of a proof, one behind the other: readings of functions, what they do, and what follows. -/
import Derived.Test.YtagkcbbbdlmcjaaMAT1
section
/- What a loss of power does to the disk in memory. -/
set_option linter.unusedVariables false
set_option linter.unusedSimpArgs false
namespace Go.Proofs.Ytagkcbbbdlmcjaa
open Go.Lift Go.Lift.Disk Go.RowKit
theorem and_one64 (m : Nat) (hm : m < 18446744073709551616) : andI .u64 (m : Int) 1 = ((m % 2 : Nat) : Int) := by
  show IntKind.u64.wrap ((BitVec.ofInt 64 (m : Int) &&& BitVec.ofInt 64 1).toNat : Int) = _
  have h1 : BitVec.ofInt 64 1 = 1#64 := by decide
  rw [h1, BitVec.ofInt_natCast, BitVec.toNat_and, BitVec.toNat_ofNat, Nat.mod_eq_of_lt (by omega)]
  have h2 : (1#64).toNat = 1 := rfl
  rw [h2, Nat.and_one_is_mod, wu64_eq (by omega) (by omega)]
theorem bit64 {x : Int} (h0 : 0 ≤ x) (h1 : x < 18446744073709551616) {k : Nat} (hk : k < 64) : (andI .u64 (shrI .u64 x (k : Int)) 1 = 1) ↔ x.toNat.testBit k = true := by
  obtain ⟨n, rfl⟩ := Int.eq_ofNat_of_zero_le h0
  have e1 : shrI .u64 (n : Int) (k : Int) = ((n / 2 ^ k : Nat) : Int) := by
    unfold shrI
    have : min (k : Int).toNat (IntKind.bits .u64) = k := by simp [IntKind.bits]; omega
    rw [this, Int.fdiv_eq_ediv_of_nonneg _ (by exact_mod_cast Nat.zero_le _)]
    push_cast
    rfl
  have h2 : n / 2 ^ k < 18446744073709551616 := Nat.lt_of_le_of_lt (Nat.div_le_self _ _) (by omega)
  rw [e1, and_one64 _ h2, Int.toNat_natCast, Nat.testBit_eq_decide_div_mod_eq]
  generalize n / 2 ^ k = m
  rw [decide_eq_true_iff]
  omega
theorem SlAt.row {w : World} {base : Nat → Prop} {pd bb sz : Nat} {s : Sl} {cs : List Value} (h : SlAt w base pd bb sz s cs) (h0 : 0 < sz) {k : Nat} (hk : k < s.len) : ∃ a, s.a = some a ∧ At w (a.add (k * sz)) ((cs.drop (k * sz)).take sz) := by
  have hl : k * sz < cs.length := by rw [h.len]; exact Nat.mul_lt_mul_of_pos_right hk h0
  obtain ⟨a, ha, _⟩ := h.cells.some_of (List.getElem?_eq_getElem hl)
  refine ⟨a, ha, ?_⟩
  have hc := h.cells
  rw [ha] at hc
  exact At.sub hc _ _
theorem one_pend {x : Nat} {bs : List UInt8} : ∀ v ∈ (Value.int .i64 (x : Int) :: u8s bs), v.oneCell' = true := by
  intro v hv
  rcases List.mem_cons.1 hv with rfl | hv
  · rfl
  · exact u8s_one bs v hv
theorem cut_to (a : Addr) (n m : Nat) (hn : 0 < n) : Sl.cut ⟨some a, n, n⟩ 1 0 (m : Int) n = ⟨some a, m, n⟩ := by
  simp [Sl.cut, Addr.add]
theorem torn_eq (f : Fall) : mx 0 (mn f.2.2 512) = (torn f : Int) ∧ torn f ≤ 512 := by
  unfold torn mx mn
  split <;> split <;> omega
theorem torn_eq' (x : Int) : 0 ≤ mx 0 (mn x 512) ∧ mx 0 (mn x 512) ≤ 512 := by
  unfold mx mn
  split <;> split <;> omega
theorem crashStep_len (f : Fall) (last : Int) (l : List Bl) (k : Nat) (p : Nat × List UInt8) : (crashStep f last l k p).length = l.length := by
  unfold crashStep
  split
  · exact setSure_len _ _ _
  · split
    · exact setSure_len _ _ _
    · rfl
def halves (l : List Bl) : List Bl := l.map fun p => (p.2, p.2)
theorem halves_step {L : List Bl} {i : Nat} (hi : i < L.length) : setNow (halves (L.take i) ++ L.drop i) i (bAt (halves (L.take i) ++ L.drop i) i).2 = halves (L.take (i + 1)) ++ L.drop (i + 1) := by
  have hl : (halves (L.take i)).length = i := by simp [halves]; omega
  have hb : bAt (halves (L.take i) ++ L.drop i) i = L[i] := by
    unfold bAt
    rw [List.getD_eq_getElem?_getD, List.getElem?_append_right (by omega), hl, Nat.sub_self, List.drop_eq_getElem_cons hi]
    rfl
  have h2 : halves (L.take (i + 1)) = halves (L.take i) ++ [(L[i].2, L[i].2)] := by unfold halves; rw [List.take_succ_eq_append_getElem hi, List.map_append]; rfl
  unfold setNow
  rw [hb, List.set_append, hl, if_neg (by omega), Nat.sub_self, List.drop_eq_getElem_cons hi, List.set_cons_zero, h2]
  simp

theorem crash_ok {w : World} {base : Nat → Prop} {pd bb : Nat} {D : Dk} (h : DAt w base pd bb D) (f : Fall) (hk : 0 ≤ f.2.1 ∧ f.2.1 < 18446744073709551616) :
    Calls Try.prog 35 #[.pointer (dp pd), aggv (fallOf f)] w (Ret r35 fun _ w' => DAt w' base pd bb (D.crash f) ∧ Fr (Foot pd bb) w w') := by
  apply s35_calls
  intro b1 w2 hb1 hw2
  have hx2 : Ext w w2 := Ext.new hw2
  have hf1 : Blk w2 b1 27 (fallOf f) := Blk.new hb1 hw2
  have hlt := h.lt
  have h2 := h.ext hx2
  have hbf : ¬ Foot pd bb b1 := by rintro (e | e) <;> omega
  refine cR_of (down_ok h2) ?_
  rintro x w' ⟨rfl, rfl⟩
  obtain ⟨c, r, sp, sf, h2⟩ := h2
  have hwf := h2.wf
  have hpl := pend_len h2.pend fun p hp => (hwf.pend p hp).2
  refine ⟨fun hd => ?_, fun hd => ?_⟩
  · refine ⟨⟨c, r, sp, sf, ?_⟩, Fr.of hx2⟩
    unfold Dk.crash
    rw [if_pos hd]; exact h2
  have hlast : IntKind.i64.wrap ((sp.len : Int) - 1) = (D.pend.length : Int) - 1 := by
    have := hwf.plen
    rw [hpl, w64_eq (by omega) (by omega)]
  refine ⟨_, rfl, sp, by rw [add_plain]; exact h2.disk.cell rfl, _, rfl, sp, by rw [add_plain]; exact h2.disk.cell rfl, ?_⟩
  refine ⟨fun s w' => ∃ (k : Nat) (l : List Bl), k ≤ D.pend.length ∧ s = (k : Int) ∧ DX w' base pd bb c r sp sf { D with bl := l } ∧ Fr (Foot pd bb) w2 w' ∧ Blk w' b1 27 (fallOf f) ∧ l.length = D.bl.length ∧
      crashL f ((D.pend.length : Int) - 1) k (D.pend.drop k) l = crashL f ((D.pend.length : Int) - 1) 0 D.pend D.bl,
    fun s _ => D.pend.length - s.toNat, ⟨0, D.bl, Nat.zero_le _, rfl, h2, Fr.refl _, hf1, rfl, rfl⟩, ?_⟩
  rintro s w13 ⟨k, l, hkl, rfl, hX, hfr, hB1, hll, hcr⟩
  refine ⟨fun hlt2 => ?_, fun hge => ?_⟩
  · have hkp : k < D.pend.length := by have := of_decide_eq_true hlt2; omega
    refine jn_of fun k1 hk1 => ?_
    obtain ⟨hpi, hp512⟩ := hwf.pend _ (List.getElem_mem hkp)
    have next : ∀ (l' : List Bl) (w' : World), l' = crashStep f ((D.pend.length : Int) - 1) l k D.pend[k] → DX w' base pd bb c r sp sf { D with bl := l' } → Fr (Foot pd bb) w2 w' → Blk w' b1 27 (fallOf f) → k1 () w' := by
      intro l' w' hl' h1 h3 h4
      have := hwf.plen
      rw [hk1, w64_eq (by omega) (by omega)]
      refine ⟨⟨k + 1, l', by omega, by omega, h1, h3, h4, by rw [hl', crashStep_len, hll], ?_⟩, by simp only; omega⟩
      rw [← hcr, List.drop_eq_getElem_cons hkp, crashL, hl']
    obtain ⟨a, ha, hat⟩ := hX.pend.row (by decide) (k := k) (by omega)
    rw [pendC_at (fun p hp => (hwf.pend p hp).2) hkp] at hat
    refine ⟨a, _, ha, by omega, by omega, rfl, ?_⟩
    rw [Int.toNat_natCast]
    refine ⟨_, by simp [u8s_len, hp512], hat, ?_⟩
    refine ⟨by simp [u8s_len, hp512], one_pend, fun b26 w27 hb26 hw27 => ?_⟩
    have hx27 : Ext w13 w27 := Ext.new hw27
    have hX27 := hX.ext hx27
    have hB26 : Blk w27 b26 116 (.int .i64 (D.pend[k].1 : Int) :: u8s D.pend[k].2) := Blk.new hb26 hw27
    intro w28 hw28
    have hx28 : Ext w27 w28 := by subst hw28; exact Ext.drew _
    have hX28 := hX27.ext hx28
    have hB26' := hB26.ext hx28
    have hB1' := (hB1.ext hx27).ext hx28
    have hfr28 : Fr (Foot pd bb) w2 w28 := (hfr.trans (Fr.of hx27)).trans (Fr.of hx28)
    have hpi' : D.pend[k].1 < l.length := by rw [hll]; exact hpi
    refine ⟨_, rfl, ⟨some ⟨bb, 0, none⟩, l.length, c⟩, by rw [add_plain]; exact hX27.disk.cell rfl, ?_⟩
    refine ⟨(D.pend[k].1 : Int), by rw [add_plain]; exact hB26.cell rfl, ?_⟩
    refine ⟨⟨bb, 0, none⟩, _, rfl, by omega, by simpa using hpi', rfl, ?_⟩
    show jn _ _
    simp only [add_plain, Nat.zero_add, Int.toNat_natCast, Nat.mul_comm _ 1024]
    have hsz : (u8s (flatB l) ++ r).length ≥ 1024 * D.pend[k].1 + 1024 := by
      have := flat_len hX.wf.bl
      simp only at this
      rw [List.length_append, u8s_len, this]
      omega
    refine jn_of fun k2 hk2 => ?_
    have key2 : ∀ b : Bool, (b = true ↔ (k < 64 ∧ f.2.1.toNat.testBit k = true)) → k2 b w28 := by
      intro b hb
      rw [hk2]
      refine ⟨fun hbt => ?_, fun hbf2 => ?_⟩
      · have hbt := hb.1 hbt
        refine ⟨u8s D.pend[k].2, by rw [u8s_len, hp512], hB26'.at (by rw [List.drop_succ_cons, List.drop_zero, List.take_length]), ?_⟩
        refine stA_blk hX28.rows (by rw [u8s_len, hp512]) (by simp only at hsz ⊢; omega) (u8s_one _) fun w' hb' hf' => ?_
        have e := splice_sure hX.wf.bl hpi' hp512 r
        rw [e] at hb'
        have hst : crashStep f ((D.pend.length : Int) - 1) l k D.pend[k] = setSure l D.pend[k].1 D.pend[k].2 := by unfold crashStep; rw [if_pos hbt]
        refine next _ w' hst.symm (hX28.setRows (D := { D with bl := l }) hb' hf' (setSure_len _ _ _) (setSure_wf hX.wf.bl hpi' hp512)) (hfr28.trans (footFr_bb hf')) (hB1'.fr hf' fun e => hbf (.inr e))
      · have hnb : ¬ (k < 64 ∧ f.2.1.toNat.testBit k = true) := fun h => by rw [hb.2 h] at hbf2; cases hbf2
        rw [hlast]
        refine ⟨fun hla => ?_, fun hla => ?_⟩
        · have hla := of_decide_eq_true hla
          intro w55 hw55
          have hx55 : Ext w28 w55 := by subst hw55; exact Ext.drew _
          refine ⟨f.2.2, hB1'.cell rfl, ?_⟩
          obtain ⟨ht1, ht2⟩ := torn_eq f
          rw [ht1]
          refine ⟨by omega, ?_⟩
          have e1 : Sl.cut ⟨some ⟨bb, 1024 * D.pend[k].1 + 512, none⟩, 512, 512⟩ 1 0 (torn f : Int) 512 = ⟨some ⟨bb, 1024 * D.pend[k].1 + 512, none⟩, torn f, 512⟩ := by
            exact cut_to _ 512 _ (by decide)
          have e2 : Sl.cut ⟨some ⟨b26, 1, none⟩, 512, 512⟩ 1 0 512 512 = ⟨some ⟨b26, 1, none⟩, 512, 512⟩ := by
            exact cut_to _ 512 512 (by decide)
          rw [e1, e2]
          have hcl : (u8s (D.pend[k].2.take (torn f))).length = torn f := by rw [u8s_len, List.length_take, hp512]; omega
          refine cpy_blk (g := bb) (e := 112) (cs := u8s (D.pend[k].2.take (torn f))) mk_39 (hX28.ext hx55).rows (by simp only [u8s_len, List.length_take, hp512]; omega) ?_ (by rw [hcl]; simp only at hsz ⊢; omega) (u8s_one _) (by intro h; cases h) fun w' hb' hf' => ?_
          · refine (hB26'.ext hx55).at ?_
            rw [hcl, List.drop_succ_cons, List.drop_zero, u8s_take]
          have e := splice_sure_part hX.wf.bl hpi' (c := D.pend[k].2.take (torn f)) (by rw [List.length_take, hp512]; omega) r
          rw [e] at hb'
          have htl : (D.pend[k].2.take (torn f)).length = torn f := by rw [List.length_take, hp512]; omega
          rw [htl] at hb'
          have hst : crashStep f ((D.pend.length : Int) - 1) l k D.pend[k] = setSure l D.pend[k].1 (D.pend[k].2.take (torn f) ++ (bAt l D.pend[k].1).2.drop (torn f)) := by
            unfold crashStep; rw [if_neg hnb, if_pos hla]
          refine next _ w' hst.symm ((hX28.ext hx55).setRows (D := { D with bl := l }) hb' hf' (setSure_len _ _ _) (setSure_wf hX.wf.bl hpi' ?_)) ((hfr28.trans (Fr.of hx55)).trans (footFr_bb hf')) ((hB1'.ext hx55).fr hf' fun e => hbf (.inr e))
          rw [List.length_append, htl, List.length_drop, (bAt_len hX.wf.bl hpi').2]
          omega
        · have hla := of_decide_eq_false hla
          have hst : crashStep f ((D.pend.length : Int) - 1) l k D.pend[k] = l := by unfold crashStep; rw [if_neg hnb, if_neg hla]
          exact next l w28 hst.symm hX28 hfr28 hB1'
    refine ⟨fun h64 => ?_, fun h64 => ?_⟩
    · have h64 := of_decide_eq_true h64
      have h64' : k < 64 := by omega
      refine ⟨f.2.1, hB1'.cell rfl, by omega, key2 _ ?_⟩
      simp only [decide_eq_true_eq, bit64 hk.1 hk.2 h64', h64', true_and]
    · have h64 := of_decide_eq_false h64
      refine key2 _ ?_
      simp; omega
  · have hge : k = D.pend.length := by have := of_decide_eq_false hge; omega
    subst hge
    rw [List.drop_length, crashL] at hcr
    have hwl := hX.wf.bl
    simp only at hwl
    refine ⟨_, rfl, ⟨some ⟨bb, 0, none⟩, l.length, c⟩, by rw [add_plain]; exact hX.disk.cell rfl, ?_⟩
    refine ⟨fun s w' => ∃ (i : Nat), i ≤ l.length ∧ s = (i : Int) ∧ DX w' base pd bb c r sp sf { D with bl := halves (l.take i) ++ l.drop i } ∧ Fr (Foot pd bb) w2 w',
      fun s _ => l.length - s.toNat, ⟨0, Nat.zero_le _, rfl, by simpa [halves] using hX, hfr⟩, ?_⟩
    rintro s w76 ⟨i, hi, rfl, hY, hfr76⟩
    have hyl : (halves (l.take i) ++ l.drop i).length = l.length := by simp [halves]; omega
    refine ⟨fun hlt3 => ?_, fun hge3 => ?_⟩
    · have hil : i < l.length := by have := of_decide_eq_true hlt3; simp only at this; omega
      have hil' : i < (halves (l.take i) ++ l.drop i).length := by omega
      intro w82 hw82
      have hx82 : Ext w76 w82 := by subst hw82; exact Ext.drew _
      refine ⟨_, rfl, ⟨some ⟨bb, 0, none⟩, (halves (l.take i) ++ l.drop i).length, c⟩, by rw [add_plain]; exact hY.disk.cell rfl, ?_⟩
      refine ⟨_, rfl, ⟨some ⟨bb, 0, none⟩, (halves (l.take i) ++ l.drop i).length, c⟩, by rw [add_plain]; exact hY.disk.cell rfl, ?_⟩
      have hfa := flatAt hY (i := i) (by simpa using hil')
      have hbl := bAt_len hY.wf.bl (i := i) (by simpa using hil')
      simp only at hfa hbl
      refine ⟨⟨bb, 0, none⟩, _, rfl, by omega, by simp only; omega, rfl, ?_⟩
      show ldA _ _ _ _
      rw [add_plain, Nat.zero_add, Int.toNat_natCast, Nat.mul_comm, add_plain]
      refine ⟨_, by rw [u8s_len]; exact hbl.2, hfa.2, ?_⟩
      refine ⟨⟨bb, 0, none⟩, _, rfl, by omega, by simp only; omega, rfl, ?_⟩
      show stA _ _ _ _ _
      rw [add_plain, Nat.zero_add, Int.toNat_natCast, Nat.mul_comm, add_plain, Nat.add_zero]
      have hsz : (u8s (flatB (halves (l.take i) ++ l.drop i)) ++ r).length ≥ 1024 * i + 1024 := by
        have := flat_len hY.wf.bl
        simp only at this
        rw [List.length_append, u8s_len, this]
        omega
      refine stA_blk (hY.ext hx82).rows (by rw [u8s_len]; exact hbl.2) (by simp only at hsz ⊢; omega) (u8s_one _) fun w' hb' hf' => ?_
      have e := splice_now hY.wf.bl (i := i) (by simpa using hil') hbl.2 r
      rw [e, halves_step hil] at hb'
      have hfew := hwf.few
      rw [w64_eq (by omega) (by omega)]
      refine ⟨⟨i + 1, by omega, by omega, ?_, (hfr76.trans (Fr.of hx82)).trans (footFr_bb hf')⟩, by simp only; omega⟩
      have hwf' : WfB (halves (l.take (i + 1)) ++ l.drop (i + 1)) := by
        intro p hp
        rcases List.mem_append.1 hp with hp | hp
        · obtain ⟨q, hq, rfl⟩ := List.mem_map.1 hp
          have := hwl q (List.mem_of_mem_take hq)
          exact ⟨this.2, this.2⟩
        · exact hwl p (List.mem_of_mem_drop hp)
      exact (hY.ext hx82).setRows (D := { D with bl := halves (l.take i) ++ l.drop i }) hb' hf' (by simp [halves]; omega) hwf'
    · have hge3 : i = l.length := by have := of_decide_eq_false hge3; simp only at this; omega
      subst hge3
      rw [List.take_length, List.drop_length, List.append_nil] at hY
      refine ⟨_, rfl, ?_⟩
      show st1 _ _ _ _
      rw [add_plain]
      refine st1_blk hY.disk (Nat.succ_lt_succ (Nat.zero_lt_succ _)) fun w98 hb98 hf98 => ?_
      refine ⟨_, rfl, ?_⟩
      show st1 _ _ _ _
      rw [add_plain]
      refine st1_blk hb98 (Nat.lt_succ_self 4) fun w101 hb101 hf101 => ?_
      refine ⟨⟨c, r, nilSl, sf, ?_⟩, (((Fr.of hx2).trans hfr76).trans (footFr_pd hf98)).trans (footFr_pd hf101)⟩
      have ec : D.crash f = { D with bl := halves l, pend := [], down := true } := by
        unfold Dk.crash
        rw [if_neg (by rw [hd]; simp), ← hcr]
        rfl
      rw [ec]
      have hfd := hf98.trans hf101
      have hz := hY.wf
      refine ⟨⟨hz.pos, hz.few, hz.bl, by simp, by simp, hz.keep, hz.flen, hz.ch⟩, h2.hpd, h2.hbb, h2.hne, hY.hcap, hb101, hY.rows.fr hfd h2.hne.symm, SlAt.nilAt _ _ _ _ _, hY.falls.fr hfd fun k _ hk e => hk (.inl e)⟩
end Go.Proofs.Ytagkcbbbdlmcjaa
end
section
/- The typed readings of the functions, and that the program meets each: written by gen.py (a program of this session). -/
set_option linter.unusedVariables false
set_option linter.unusedSimpArgs false
namespace Go.Proofs.Ytagkcbbbdlmcjaa
open Go.Lift
set_option maxRecDepth 100000 in
set_option maxHeartbeats 4000000 in
theorem s33_calls (K : Int → World → Prop) (p0 : Option Addr) (p1 : Int) (p2 : Sl) (w : World) (h : s33 K p0 p1 p2 w) :
    Calls Try.prog 33 #[.pointer p0, .int .i64 p1, Sl.v p2] w (Ret r33 K) := by
  unfold s33 at h
  refine calls_of_CW (n := 46) Try.func33 rfl rfl rfl ?_
  refine CW.seq ?_
  refine CW.region ?_
  refine RL.opS trivial rfl (OpW.assign (v := .int .i64 0) rfl ?_)
  refine RL.nil ?_
  refine CW.seq ?_
  refine CW.seq ?_
  refine CW.region ?_
  refine RL.opS trivial rfl (OpW.move (v := .pointer p0) rfl ?_)
  refine RL.opS trivial rfl (OpW.move (v := .int .i64 p1) rfl ?_)
  refine RL.opS trivial rfl (OpW.callR (al := [.pointer p0, .int .i64 p1]) Try.func59 fb_59 fn_59 rfl h (fun x1 w2 h => ?_))
  refine RL.opS trivial rfl (OpW.assign (v := .int .i64 x1) rfl ?_)
  refine RL.nil ?_
  refine CW.seq ?_
  refine CW.region ?_
  refine RL.opS trivial rfl (OpW.move (v := .int .i64 x1) rfl ?_)
  refine RL.opS trivial rfl (OpW.bin (k := .i64) (a := x1) (b := 0) (v := .bool (!decide (x1 = 0))) rfl rfl rfl ?_)
  refine RL.nil ?_
  obtain ⟨ha, hc⟩ := h
  refine CW.cond (b := (!decide (x1 = 0))) rfl (fun hb3 => ?_) (fun hb3 => ?_)
  · have h := ha hb3; clear ha hc
    refine CW.seq ?_
    refine CW.region ?_
    refine RL.opS trivial rfl (OpW.move (v := .int .i64 x1) rfl ?_)
    refine RL.opS trivial rfl (OpW.assign (v := .int .i64 x1) rfl ?_)
    refine RL.nil ?_
    refine CW.ret ?_
    exact ret_intro (res1 rfl rfl) ⟨x1, rfl, h⟩
  · have h := hc hb3; clear ha hc
    refine CW.skip ?_
    refine CW.seq ?_
    refine CW.seq ?_
    refine CW.region ?_
    refine RL.opS trivial rfl (OpW.move (v := Sl.v p2) rfl ?_)
    refine RL.opS trivial rfl (OpW.len (s := p2) slice_39 rfl ?_)
    refine RL.opS trivial rfl (OpW.bin (k := .i64) (a := (p2.len : Int)) (b := 512) (v := .bool (!decide ((p2.len : Int) = 512))) rfl rfl rfl ?_)
    refine RL.nil ?_
    obtain ⟨ha, hc⟩ := h
    refine CW.cond (b := (!decide ((p2.len : Int) = 512))) rfl (fun hb4 => ?_) (fun hb4 => ?_)
    · have h := ha hb4; clear ha hc
      refine CW.seq ?_
      refine CW.region ?_
      refine RL.opS trivial rfl (OpW.assign (v := .int .i64 1) rfl ?_)
      refine RL.nil ?_
      refine CW.ret ?_
      exact ret_intro (res1 rfl rfl) ⟨1, rfl, h⟩
    · have h := hc hb4; clear ha hc
      refine CW.skip ?_
      refine CW.seq ?_
      refine CW.region ?_
      refine RL.opS trivial rfl (OpW.move (v := .int .i64 p1) rfl ?_)
      refine RL.opS trivial rfl (OpW.buildL (vs := [(0, .int .i64 p1)]) (cs := ([.int .i64 p1] ++ List.replicate 512 (Value.int .u8 0))) (by rfl) (fun _ => by kernel_rfl) ?_)
      obtain ⟨hl_b5, ho_b5, h⟩ := h
      obtain ⟨b5, hb5_⟩ : ∃ b_, b_ = w2.heap.size := ⟨_, rfl⟩
      obtain ⟨w6, hw6_⟩ : ∃ w_, w_ = w2.alloc (.cells (List.toArray ([.int .i64 p1] ++ List.replicate 512 (Value.int .u8 0))) 116) := ⟨_, rfl⟩
      have h := h b5 w6 hb5_ hw6_
      refine RL.opS trivial rfl (OpW.allocZ (b := b5) zero_116 hb5_ ?_)
      refine RL.opN trivial (OpW.storeF (zs := ([Value.int .i64 0] ++ List.replicate 512 (Value.int .u8 0))) (cs := ([.int .i64 p1] ++ List.replicate 512 (Value.int .u8 0))) size_116 rfl rfl hl_b5 (by decide) ho_b5 hb5_ hw6_ ?_)
      refine RL.nil ?_
      refine CW.seq ?_
      refine CW.region ?_
      refine RL.opS trivial rfl (OpW.fieldAddr field_116_1 rfl ?_)
      refine RL.opS trivial rfl (OpW.sliceArr (l := 0) (h := 512) arr_110 rfl rfl rfl (by decide) (by decide) (by decide) ?_)
      refine RL.opS trivial rfl (OpW.move (v := Sl.v p2) rfl ?_)
      obtain ⟨x7, w8, hr_, h⟩ := h
      refine RL.opS trivial rfl (OpW.copyL (v := .int .i64 x7) rfl hr_ ?_)
      refine RL.nil ?_
      refine CW.seq ?_
      obtain ⟨w9, hw9_⟩ : ∃ w_, w_ = w8.drew := ⟨_, rfl⟩
      have h := h w9 hw9_
      have hx10 : Ext w8 w9 := by rw [hw9_]; exact Ext.drew _
      refine CW.draws (m := 10) (listed := #[false, false, false, false, false, false, false, false, false, false]) mixed [0, 1, 2, 3, 4, 5, 6, 7, 8] (Ext w8) rfl rfl ?_
      rw [← hw9_]
      refine DL.takeP (listed' := #[true, false, false, false, false, false, false, false, false, false]) (v := .pointer p0) 0 rfl rfl (by kernel_rfl) rfl trivial rfl (fun w_ K_ h_ => OpW.move (v := .pointer p0) rfl h_) ?_
      obtain ⟨a11, ha12, h⟩ := h
      refine DL.takeP (listed' := #[true, true, false, false, false, false, false, false, false, false]) (v := .pointer (some a11)) 1 rfl rfl (by kernel_rfl) rfl trivial rfl (fun w_ K_ h_ => OpW.nilCheck (a := a11) (congrArg Value.pointer ha12) h_) ?_
      refine DL.takeP (listed' := #[true, true, true, false, false, false, false, false, false, false]) (v := .pointer (some (Addr.add a11 0))) 2 rfl rfl (by kernel_rfl) rfl trivial rfl (fun w_ K_ h_ => OpW.fieldAddr (off := 0) field_93_0 rfl h_) ?_
      obtain ⟨x13, h1, h⟩ := h
      refine DL.takeK (listed' := #[true, true, true, true, false, false, false, false, false, false]) (v := Sl.v x13) 3 rfl rfl (by kernel_rfl) (by kernel_rfl) rfl trivial rfl hx10 (fun w_ hS_ K_ h_ => OpW.load1 (v := Sl.v x13) one_90 rfl (hS_.cell h1) h_) ?_
      refine DL.takeP (listed' := #[true, true, true, true, true, false, false, false, false, false]) (v := .int .i64 p1) 4 rfl rfl (by kernel_rfl) rfl trivial rfl (fun w_ K_ h_ => OpW.move (v := .int .i64 p1) rfl h_) ?_
      refine DL.takeP (listed' := #[true, true, true, true, true, true, false, false, false, false]) (v := .pointer (some (Addr.add ⟨b5, 0, none⟩ 1))) 5 rfl rfl (by kernel_rfl) rfl trivial rfl (fun w_ K_ h_ => OpW.fieldAddr field_116_1 rfl h_) ?_
      obtain ⟨x14, h1, h2, h⟩ := h
      refine DL.takeK (listed' := #[true, true, true, true, true, true, true, false, false, false]) (v := aggv x14) 6 rfl rfl (by kernel_rfl) (by kernel_rfl) rfl trivial rfl hx10 (fun w_ hS_ K_ h_ => OpW.loadA agg_110 rfl h1 (hS_.at h2) h_) ?_
      obtain ⟨a15_, a15, h1, h2, h3, h4, h⟩ := h
      refine DL.takeP (listed' := #[true, true, true, true, true, true, true, true, false, false]) (v := .pointer (some a15)) 7 rfl rfl (by kernel_rfl) rfl trivial rfl (fun w_ K_ h_ => OpW.indexE (a' := a15) slice_90 rfl rfl h1 h2 h3 h4 h_) ?_
      refine DL.takeP (listed' := #[true, true, true, true, true, true, true, true, true, false]) (v := .pointer (some (Addr.add a15 0))) 8 rfl rfl (by kernel_rfl) rfl trivial rfl (fun w_ K_ h_ => OpW.fieldAddr (off := 0) field_112_0 rfl h_) ?_
      obtain ⟨g_, o_, e_, cur_, ha_, h1, h2, h3, h4, h⟩ := h
      obtain ⟨w17, hw17_⟩ : ∃ w_, w_ = w9.setRow g_ (cur_.toList.take o_ ++ x14 ++ cur_.toList.drop (o_ + List.length x14)).toArray := ⟨_, rfl⟩
      have h := h w17 hw17_
      refine DL.execN (listed' := #[true, true, true, true, true, true, true, true, true, true]) 9 rfl (by kernel_rfl) rfl trivial (OpW.storeAE (cs := x14) size_110 rfl rfl ha_ h1 h2 h3 h4 hw17_ ?_)
      refine ⟨(fun h_ => absurd h_ (by decide)), ?_⟩
      refine DL.done (by kernel_rfl) ?_
      refine CW.seq ?_
      obtain ⟨w18, hw18_⟩ : ∃ w_, w_ = w17.drew := ⟨_, rfl⟩
      have h := h w18 hw18_
      have hx19 : Ext w17 w18 := by rw [hw18_]; exact Ext.drew _
      refine CW.draws (m := 12) (listed := #[false, false, false, false, false, false, false, false, false, false, false, false]) mixed [0, 1, 2, 3, 4, 5, 6, 7, 9, 10] (Ext w17) rfl rfl ?_
      rw [← hw18_]
      refine DL.takeP (listed' := #[true, false, false, false, false, false, false, false, false, false, false, false]) (v := .pointer p0) 0 rfl rfl (by kernel_rfl) rfl trivial rfl (fun w_ K_ h_ => OpW.move (v := .pointer p0) rfl h_) ?_
      refine DL.takeP (listed' := #[true, true, false, false, false, false, false, false, false, false, false, false]) (v := .pointer p0) 1 rfl rfl (by kernel_rfl) rfl trivial rfl (fun w_ K_ h_ => OpW.move (v := .pointer p0) rfl h_) ?_
      obtain ⟨a20, ha21, h⟩ := h
      refine DL.takeP (listed' := #[true, true, true, false, false, false, false, false, false, false, false, false]) (v := .pointer (some a20)) 2 rfl rfl (by kernel_rfl) rfl trivial rfl (fun w_ K_ h_ => OpW.nilCheck (a := a20) (congrArg Value.pointer ha21) h_) ?_
      refine DL.takeP (listed' := #[true, true, true, true, false, false, false, false, false, false, false, false]) (v := .pointer (some (Addr.add a20 1))) 3 rfl rfl (by kernel_rfl) rfl trivial rfl (fun w_ K_ h_ => OpW.fieldAddr field_93_1 rfl h_) ?_
      obtain ⟨x22, h1, h⟩ := h
      refine DL.takeK (listed' := #[true, true, true, true, true, false, false, false, false, false, false, false]) (v := Sl.v x22) 4 rfl rfl (by kernel_rfl) (by kernel_rfl) rfl trivial rfl hx19 (fun w_ hS_ K_ h_ => OpW.load1 (v := Sl.v x22) one_91 rfl (hS_.cell h1) h_) ?_
      obtain ⟨x23, h1, h2, h⟩ := h
      refine DL.takeK (listed' := #[true, true, true, true, true, false, true, false, false, false, false, false]) (v := aggv x23) 6 rfl rfl (by kernel_rfl) (by kernel_rfl) rfl trivial rfl hx19 (fun w_ hS_ K_ h_ => OpW.loadA agg_116 rfl h1 (hS_.at h2) h_) ?_
      obtain ⟨F29, st_5, run_5, h⟩ := h
      obtain ⟨F35, st_7, run_7, h⟩ := h
      refine DL.state (fun ρ_ w38 => ∃ (x24 : Sl) (x25 : Sl), Ext w18 w38 ∧ F29 () x24 w38 ∧ F35 () x25 w38 ∧ ρ_ 0 = .pointer p0 ∧ ρ_ 33 = .pointer p0 ∧ ρ_ 38 = Sl.v x24 ∧ ρ_ 40 = Sl.v x25) 4 #[true, true, true, true, true, true, true, true, false, false, false, false] ?_ ?_
      · rintro ρ_ w38 ⟨x24, x25, hx_1, f_5, f_7, e_0, e_33, e_38, e_40⟩
        have h := h x24 x25 w38 hx_1 f_5 f_7
        have hx39 := Ext.trans hx19 hx_1
        obtain ⟨x40, w41, hr_, h⟩ := h
        refine DL.execS (listed' := #[true, true, true, true, true, true, true, true, true, false, false, false]) 8 rfl (by kernel_rfl) rfl trivial rfl (OpW.appendL (v := Sl.v x40) (by simp only [List.map_cons, List.map_nil, ev, upd, Nat.beq, cond_false, cond_true, e_38, e_40]) hr_ ?_)
        refine ⟨(fun h_ => absurd h_ (by decide)), ?_⟩
        obtain ⟨a42, ha43, h⟩ := h
        refine DL.takeP (listed' := #[true, true, true, true, true, true, true, true, true, true, false, false]) (v := .pointer (some a42)) 9 rfl rfl (by kernel_rfl) rfl trivial rfl (fun w_ K_ h_ => OpW.nilCheck (a := a42) (e_33.trans (congrArg Value.pointer ha43)) h_) ?_
        refine DL.takeP (listed' := #[true, true, true, true, true, true, true, true, true, true, true, false]) (v := .pointer (some (Addr.add a42 1))) 10 rfl rfl (by kernel_rfl) rfl trivial rfl (fun w_ K_ h_ => OpW.fieldAddr field_93_1 rfl h_) ?_
        obtain ⟨u_, h1, h2, h⟩ := h
        obtain ⟨w44, hw44_⟩ : ∃ w_, w_ = w41.setCell (Addr.add a42 1) (Sl.v x40) := ⟨_, rfl⟩
        have h := h w44 hw44_
        refine DL.execN (listed' := #[true, true, true, true, true, true, true, true, true, true, true, true]) 11 rfl (by kernel_rfl) rfl trivial (OpW.store1E (v := Sl.v x40) size_91 rfl rfl rfl h1 h2 hw44_ ?_)
        refine ⟨(fun h_ => absurd h_ (by decide)), ?_⟩
        refine DL.done (by kernel_rfl) ?_
        refine CW.seq ?_
        refine CW.region ?_
        refine RL.opS trivial rfl (OpW.move (v := .pointer p0) e_0 ?_)
        refine RL.opS trivial rfl (OpW.callR (al := [.pointer p0]) Try.func61 fb_61 fn_61 rfl h (fun x45 w46 h => ?_))
        refine RL.opS trivial rfl (OpW.assign (v := .int .i64 x45) rfl ?_)
        refine RL.nil ?_
        refine CW.ret ?_
        exact ret_intro (res1 rfl rfl) ⟨x45, rfl, h⟩
      intro hD_5_7
      refine DL.state (fun ρ_ w47 => ∃ (x24 : Sl), Ext w18 w47 ∧ F29 () x24 w47 ∧ ρ_ 0 = .pointer p0 ∧ ρ_ 33 = .pointer p0 ∧ ρ_ 38 = Sl.v x24 ∧ ρ_ 39 = aggv x23) 5 #[true, true, true, true, true, true, true, false, false, false, false, false] ?_ ?_
      · rintro ρ_ w47 ⟨x24, hx_1, f_5, e_0, e_33, e_38, e_39⟩
        refine DL.branch [7] (by kernel_rfl) rfl ?_
        refine all_cons ?_ (all_nil)
        · clear h
          have h := run_7 () w47 hx_1 trivial
          obtain ⟨hl_, ho_, h⟩ := h
          obtain ⟨b48, hb48_⟩ : ∃ b_, b_ = w47.heap.size := ⟨_, rfl⟩
          obtain ⟨w49, hw49_⟩ : ∃ w_, w_ = w47.alloc (.cells (List.toArray x23) 116) := ⟨_, rfl⟩
          have h := h b48 w49 hb48_ hw49_
          refine DLop.execS (listed' := #[true, true, true, true, true, true, true, true, false, false, false, false]) rfl rfl trivial rfl (OpW.buildSliceE (vs := [(0, aggv x23)]) (cs := x23) (by simp only [List.map_cons, List.map_nil, ev, upd, Nat.beq, cond_false, cond_true, e_39]) (fillOne mkz_91 (by simp) (by decide) (by decide) hl_) hb48_ hw49_ ?_)
          obtain ⟨hx50, f51⟩ := h
          refine ⟨(fun _ hS_ => Ext.trans hS_ hx50), ?_⟩
          exact hD_5_7 _ _ ⟨x24, ⟨some ⟨b48, 0, none⟩, 1, 1⟩, Ext.trans hx_1 hx50, st_5 _ _ _ _ hx50 f_5, f51, e_0, e_33, e_38, rfl⟩

      intro hD_5
      refine DL.state (fun ρ_ w52 => ∃ (x25 : Sl), Ext w18 w52 ∧ F35 () x25 w52 ∧ ρ_ 0 = .pointer p0 ∧ ρ_ 33 = .pointer p0 ∧ ρ_ 37 = Sl.v x22 ∧ ρ_ 40 = Sl.v x25) 5 #[true, true, true, true, true, false, true, true, false, false, false, false] ?_ ?_
      · rintro ρ_ w52 ⟨x25, hx_1, f_7, e_0, e_33, e_37, e_40⟩
        refine DL.branch [5] (by kernel_rfl) rfl ?_
        refine all_cons ?_ (all_nil)
        · clear h
          have h := run_5 () w52 hx_1 trivial
          refine DLop.execS (listed' := #[true, true, true, true, true, true, true, true, false, false, false, false]) rfl rfl trivial rfl (OpW.callR (al := [Sl.v x22]) Try.func60 fb_60 fn_60 (by simp only [List.map_cons, List.map_nil, ev, upd, Nat.beq, cond_false, cond_true, e_37]) h (fun x53 w54 h => ?_))
          obtain ⟨hx55, f56⟩ := h
          refine ⟨(fun _ hS_ => Ext.trans hS_ hx55), ?_⟩
          exact hD_5_7 _ _ ⟨x53, x25, Ext.trans hx_1 hx55, f56, st_7 _ _ _ _ hx55 f_7, e_0, e_33, rfl, e_40⟩

      intro hD_7
      have hx_0 : Ext w18 w18 := Ext.refl _
      refine DL.branch [5, 7] (by kernel_rfl) rfl ?_
      refine all_cons ?_ (all_cons ?_ (all_nil))
      · clear h
        have h := run_5 () w18 hx_0 trivial
        refine DLop.execS (listed' := #[true, true, true, true, true, true, true, false, false, false, false, false]) rfl rfl trivial rfl (OpW.callR (al := [Sl.v x22]) Try.func60 fb_60 fn_60 rfl h (fun x57 w58 h => ?_))
        obtain ⟨hx59, f60⟩ := h
        refine ⟨(fun _ hS_ => Ext.trans hS_ hx59), ?_⟩
        exact hD_5 _ _ ⟨x57, Ext.trans hx_0 hx59, f60, rfl, rfl, rfl, rfl⟩
      · clear h
        have h := run_7 () w18 hx_0 trivial
        obtain ⟨hl_, ho_, h⟩ := h
        obtain ⟨b61, hb61_⟩ : ∃ b_, b_ = w18.heap.size := ⟨_, rfl⟩
        obtain ⟨w62, hw62_⟩ : ∃ w_, w_ = w18.alloc (.cells (List.toArray x23) 116) := ⟨_, rfl⟩
        have h := h b61 w62 hb61_ hw62_
        refine DLop.execS (listed' := #[true, true, true, true, true, false, true, true, false, false, false, false]) rfl rfl trivial rfl (OpW.buildSliceE (vs := [(0, aggv x23)]) (cs := x23) (by rfl) (fillOne mkz_91 (by simp) (by decide) (by decide) hl_) hb61_ hw62_ ?_)
        obtain ⟨hx63, f64⟩ := h
        refine ⟨(fun _ hS_ => Ext.trans hS_ hx63), ?_⟩
        exact hD_7 _ _ ⟨⟨some ⟨b61, 0, none⟩, 1, 1⟩, Ext.trans hx_0 hx63, f64, rfl, rfl, rfl, rfl⟩

end Go.Proofs.Ytagkcbbbdlmcjaa
end
section
/- The typed readings of the functions, and that the program meets each: written by gen.py (a program of this session). -/
set_option linter.unusedVariables false
set_option linter.unusedSimpArgs false
namespace Go.Proofs.Ytagkcbbbdlmcjaa
open Go.Lift
set_option maxRecDepth 100000 in
set_option maxHeartbeats 4000000 in
theorem s34_calls (K : Int → World → Prop) (p0 : Option Addr) (w : World) (h : s34 K p0 w) :
    Calls Try.prog 34 #[.pointer p0] w (Ret r34 K) := by
  unfold s34 at h
  refine calls_of_CW (n := 36) Try.func34 rfl rfl rfl ?_
  refine CW.seq ?_
  refine CW.region ?_
  refine RL.opS trivial rfl (OpW.assign (v := .int .i64 0) rfl ?_)
  refine RL.nil ?_
  refine CW.seq ?_
  refine CW.seq ?_
  refine CW.region ?_
  refine RL.opS trivial rfl (OpW.move (v := .pointer p0) rfl ?_)
  refine RL.opS trivial rfl (OpW.callR (al := [.pointer p0]) Try.func38 fb_38 fn_38 rfl h (fun x1 w2 h => ?_))
  refine RL.nil ?_
  obtain ⟨ha, hc⟩ := h
  refine CW.cond (b := x1) rfl (fun hb3 => ?_) (fun hb3 => ?_)
  · have h := ha hb3; clear ha hc
    refine CW.seq ?_
    refine CW.region ?_
    refine RL.opS trivial rfl (OpW.assign (v := .int .i64 6) rfl ?_)
    refine RL.nil ?_
    refine CW.ret ?_
    exact ret_intro (res1 rfl rfl) ⟨6, rfl, h⟩
  · have h := hc hb3; clear ha hc
    refine CW.skip ?_
    refine CW.seq ?_
    refine CW.seq ?_
    refine CW.region ?_
    refine RL.opS trivial rfl (OpW.move (v := .pointer p0) rfl ?_)
    refine RL.opS trivial rfl (OpW.callR (al := [.pointer p0]) Try.func61 fb_61 fn_61 rfl h (fun x4 w5 h => ?_))
    refine RL.opS trivial rfl (OpW.assign (v := .int .i64 x4) rfl ?_)
    refine RL.nil ?_
    refine CW.seq ?_
    refine CW.region ?_
    refine RL.opS trivial rfl (OpW.move (v := .int .i64 x4) rfl ?_)
    refine RL.opS trivial rfl (OpW.bin (k := .i64) (a := x4) (b := 0) (v := .bool (!decide (x4 = 0))) rfl rfl rfl ?_)
    refine RL.nil ?_
    obtain ⟨ha, hc⟩ := h
    refine CW.cond (b := (!decide (x4 = 0))) rfl (fun hb6 => ?_) (fun hb6 => ?_)
    · have h := ha hb6; clear ha hc
      refine CW.seq ?_
      refine CW.region ?_
      refine RL.opS trivial rfl (OpW.move (v := .int .i64 x4) rfl ?_)
      refine RL.opS trivial rfl (OpW.assign (v := .int .i64 x4) rfl ?_)
      refine RL.nil ?_
      refine CW.ret ?_
      exact ret_intro (res1 rfl rfl) ⟨x4, rfl, h⟩
    · have h := hc hb6; clear ha hc
      refine CW.skip ?_
      refine CW.seq ?_
      refine CW.seq ?_
      refine CW.region ?_
      refine RL.opS trivial rfl (OpW.move (v := .pointer p0) rfl ?_)
      obtain ⟨a7, ha8, h⟩ := h
      refine RL.opS trivial rfl (OpW.nilCheck (a := a7) (congrArg Value.pointer ha8) ?_)
      refine RL.opS trivial rfl (OpW.fieldAddr field_93_1 rfl ?_)
      obtain ⟨x9, h1, h⟩ := h
      refine RL.opS trivial rfl (OpW.load1 (v := Sl.v x9) one_91 rfl h1 ?_)
      refine RL.opS trivial rfl (OpW.len (s := x9) slice_91 rfl ?_)
      refine RL.opS trivial rfl (OpW.move (v := .int .i64 0) rfl ?_)
      refine RL.nil ?_
      refine CW.block ?_
      obtain ⟨I36, mu37, hI, hs⟩ := h
      refine CW.loop (σ := Int) (fun s10 ρ => ρ 18 = .int .i64 s10 ∧ ρ 0 = .pointer p0 ∧ ρ 16 = Sl.v x9 ∧ ρ 17 = .int .i64 (x9.len : Int)) I36 mu37 0 ⟨rfl, rfl, rfl, rfl⟩ hI ?_
      rintro s10 ρ w11 ⟨e13, e14, e15, e16⟩ hI
      have h := hs s10 w11 hI
      clear hs hI
      refine CW.seq ?_
      refine CW.region ?_
      refine RL.opS trivial rfl (OpW.bin (k := .i64) (a := s10) (b := (x9.len : Int)) (v := .bool (decide (s10 < (x9.len : Int)))) e13 e16 rfl ?_)
      refine RL.nil ?_
      refine CW.seq ?_
      obtain ⟨ha, hc⟩ := h
      refine CW.cond (b := (decide (s10 < (x9.len : Int)))) rfl (fun hb17 => ?_) (fun hb17 => ?_)
      · have h := ha hb17; clear ha hc
        refine CW.skip ?_
        refine CW.seq ?_
        refine CW.block ?_
        refine CW.seq ?_
        refine CW.region ?_
        obtain ⟨a18_, a18, h1, h2, h3, h4, h⟩ := h
        refine RL.opS trivial rfl (OpW.indexE (a' := a18) slice_91 e15 e13 h1 h2 h3 h4 ?_)
        obtain ⟨x20, h1, h2, h⟩ := h
        refine RL.opS trivial rfl (OpW.loadA agg_116 rfl h1 h2 ?_)
        obtain ⟨hl_b21, ho_b21, h⟩ := h
        obtain ⟨b21, hb21_⟩ : ∃ b_, b_ = w11.heap.size := ⟨_, rfl⟩
        obtain ⟨w22, hw22_⟩ : ∃ w_, w_ = w11.alloc (.cells (List.toArray x20) 116) := ⟨_, rfl⟩
        have h := h b21 w22 hb21_ hw22_
        refine RL.opS trivial rfl (OpW.allocZ (b := b21) zero_116 hb21_ ?_)
        refine RL.opN trivial (OpW.storeF (zs := ([Value.int .i64 0] ++ List.replicate 512 (Value.int .u8 0))) (cs := x20) size_116 rfl rfl hl_b21 (by decide) ho_b21 hb21_ hw22_ ?_)
        refine RL.nil ?_
        obtain ⟨w23, hw23_⟩ : ∃ w_, w_ = w22.drew := ⟨_, rfl⟩
        have h := h w23 hw23_
        have hx24 : Ext w22 w23 := by rw [hw23_]; exact Ext.drew _
        refine CW.draws (m := 11) (listed := #[false, false, false, false, false, false, false, false, false, false, false]) mixed [0, 1, 2, 3, 4, 5, 6, 7, 8, 9] (Ext w22) rfl rfl ?_
        rw [← hw23_]
        refine DL.takeP (listed' := #[true, false, false, false, false, false, false, false, false, false, false]) (v := .pointer p0) 0 rfl rfl (by kernel_rfl) rfl trivial rfl (fun w_ K_ h_ => OpW.move (v := .pointer p0) e14 h_) ?_
        obtain ⟨a25, ha26, h⟩ := h
        refine DL.takeP (listed' := #[true, true, false, false, false, false, false, false, false, false, false]) (v := .pointer (some a25)) 1 rfl rfl (by kernel_rfl) rfl trivial rfl (fun w_ K_ h_ => OpW.nilCheck (a := a25) (congrArg Value.pointer ha26) h_) ?_
        refine DL.takeP (listed' := #[true, true, true, false, false, false, false, false, false, false, false]) (v := .pointer (some (Addr.add a25 0))) 2 rfl rfl (by kernel_rfl) rfl trivial rfl (fun w_ K_ h_ => OpW.fieldAddr (off := 0) field_93_0 rfl h_) ?_
        obtain ⟨x27, h1, h⟩ := h
        refine DL.takeK (listed' := #[true, true, true, true, false, false, false, false, false, false, false]) (v := Sl.v x27) 3 rfl rfl (by kernel_rfl) (by kernel_rfl) rfl trivial rfl hx24 (fun w_ hS_ K_ h_ => OpW.load1 (v := Sl.v x27) one_90 rfl (hS_.cell h1) h_) ?_
        refine DL.takeP (listed' := #[true, true, true, true, true, false, false, false, false, false, false]) (v := .pointer (some (Addr.add ⟨b21, 0, none⟩ 0))) 4 rfl rfl (by kernel_rfl) rfl trivial rfl (fun w_ K_ h_ => OpW.fieldAddr (off := 0) field_116_0 rfl h_) ?_
        obtain ⟨x28, h1, h⟩ := h
        refine DL.takeK (listed' := #[true, true, true, true, true, true, false, false, false, false, false]) (v := .int .i64 x28) 5 rfl rfl (by kernel_rfl) (by kernel_rfl) rfl trivial rfl hx24 (fun w_ hS_ K_ h_ => OpW.load1 (v := .int .i64 x28) one_3 rfl (hS_.cell h1) h_) ?_
        refine DL.takeP (listed' := #[true, true, true, true, true, true, true, false, false, false, false]) (v := .pointer (some (Addr.add ⟨b21, 0, none⟩ 1))) 6 rfl rfl (by kernel_rfl) rfl trivial rfl (fun w_ K_ h_ => OpW.fieldAddr field_116_1 rfl h_) ?_
        obtain ⟨x29, h1, h2, h⟩ := h
        refine DL.takeK (listed' := #[true, true, true, true, true, true, true, true, false, false, false]) (v := aggv x29) 7 rfl rfl (by kernel_rfl) (by kernel_rfl) rfl trivial rfl hx24 (fun w_ hS_ K_ h_ => OpW.loadA agg_110 rfl h1 (hS_.at h2) h_) ?_
        obtain ⟨a30_, a30, h1, h2, h3, h4, h⟩ := h
        refine DL.takeP (listed' := #[true, true, true, true, true, true, true, true, true, false, false]) (v := .pointer (some a30)) 8 rfl rfl (by kernel_rfl) rfl trivial rfl (fun w_ K_ h_ => OpW.indexE (a' := a30) slice_90 rfl rfl h1 h2 h3 h4 h_) ?_
        refine DL.takeP (listed' := #[true, true, true, true, true, true, true, true, true, true, false]) (v := .pointer (some (Addr.add a30 512))) 9 rfl rfl (by kernel_rfl) rfl trivial rfl (fun w_ K_ h_ => OpW.fieldAddr field_112_1 rfl h_) ?_
        obtain ⟨g_, o_, e_, cur_, ha_, h1, h2, h3, h4, h⟩ := h
        obtain ⟨w32, hw32_⟩ : ∃ w_, w_ = w23.setRow g_ (cur_.toList.take o_ ++ x29 ++ cur_.toList.drop (o_ + List.length x29)).toArray := ⟨_, rfl⟩
        have h := h w32 hw32_
        refine DL.execN (listed' := #[true, true, true, true, true, true, true, true, true, true, true]) 10 rfl (by kernel_rfl) rfl trivial (OpW.storeAE (cs := x29) size_110 rfl rfl ha_ h1 h2 h3 h4 hw32_ ?_)
        refine ⟨(fun h_ => absurd h_ (by decide)), ?_⟩
        refine DL.done (by kernel_rfl) ?_
        refine CW.region ?_
        refine RL.opS trivial rfl (OpW.bin (k := .i64) (a := s10) (b := 1) (v := .int .i64 (IntKind.i64.wrap (s10 + 1))) e13 rfl rfl ?_)
        refine RL.opS trivial rfl (OpW.move (v := .int .i64 (IntKind.i64.wrap (s10 + 1))) rfl ?_)
        refine RL.nil ?_
        exact ⟨(IntKind.i64.wrap (s10 + 1)), ⟨rfl, e14, e15, e16⟩, h⟩
      · have h := hc hb17; clear ha hc
        refine CW.exit ?_
        refine CW.seq ?_
        refine CW.region ?_
        refine RL.opS trivial rfl (OpW.move (v := .pointer p0) e14 ?_)
        obtain ⟨a33, ha34, h⟩ := h
        refine RL.opS trivial rfl (OpW.nilCheck (a := a33) (congrArg Value.pointer ha34) ?_)
        refine RL.opS trivial rfl (OpW.fieldAddr field_93_1 rfl ?_)
        obtain ⟨u_, h1, h2, h⟩ := h
        obtain ⟨w35, hw35_⟩ : ∃ w_, w_ = w11.setCell (Addr.add a33 1) (Sl.v nilSl) := ⟨_, rfl⟩
        have h := h w35 hw35_
        refine RL.opN trivial (OpW.store1E (v := Sl.v nilSl) size_91 rfl rfl rfl h1 h2 hw35_ ?_)
        refine RL.nil ?_
        refine CW.seq ?_
        refine CW.region ?_
        refine RL.opS trivial rfl (OpW.assign (v := .int .i64 0) rfl ?_)
        refine RL.nil ?_
        refine CW.ret ?_
        exact ret_intro (res1 rfl rfl) ⟨0, rfl, h⟩
end Go.Proofs.Ytagkcbbbdlmcjaa
end
section
/- The typed readings of the functions, and that the program meets each: written by gen.py (a program of this session). -/
set_option linter.unusedVariables false
set_option linter.unusedSimpArgs false
namespace Go.Proofs.Ytagkcbbbdlmcjaa
open Go.Lift
set_option maxRecDepth 100000 in
set_option maxHeartbeats 4000000 in
theorem s36_calls (K : Option Addr → World → Prop) (p0 : Option Addr) (w : World) (h : s36 K p0 w) :
    Calls Try.prog 36 #[.pointer p0] w (Ret r36 K) := by
  unfold s36 at h
  refine calls_of_CW (n := 22) Try.func36 rfl rfl rfl ?_
  refine CW.seq ?_
  refine CW.region ?_
  refine RL.opS trivial rfl (OpW.assign (v := .pointer none) rfl ?_)
  refine RL.nil ?_
  refine CW.seq ?_
  refine CW.seq ?_
  refine CW.region ?_
  refine RL.opS trivial rfl (OpW.move (v := .pointer p0) rfl ?_)
  refine RL.opS trivial rfl (OpW.ptrNil (b := p0.isNone) (p := p0) ptr_31 rfl rfl rfl ?_)
  refine RL.nil ?_
  obtain ⟨ha, hc⟩ := h
  refine CW.cond (b := (p0.isNone)) rfl (fun hb1 => ?_) (fun hb1 => ?_)
  · have h := ha hb1; clear ha hc
    refine CW.seq ?_
    refine CW.region ?_
    refine RL.opS trivial rfl (OpW.assign (v := .pointer none) rfl ?_)
    refine RL.nil ?_
    refine CW.ret ?_
    exact ret_intro (res1 rfl rfl) ⟨none, rfl, h⟩
  · have h := hc hb1; clear ha hc
    refine CW.skip ?_
    refine CW.seq ?_
    refine CW.region ?_
    refine RL.opS trivial rfl (OpW.move (v := .pointer p0) rfl ?_)
    obtain ⟨a2, ha3, h⟩ := h
    refine RL.opS trivial rfl (OpW.nilCheck (a := a2) (congrArg Value.pointer ha3) ?_)
    obtain ⟨x4, h1, h2, h⟩ := h
    refine RL.opS trivial rfl (OpW.loadA agg_93 rfl h1 h2 ?_)
    obtain ⟨hl_b5, ho_b5, h⟩ := h
    obtain ⟨b5, hb5_⟩ : ∃ b_, b_ = w.heap.size := ⟨_, rfl⟩
    obtain ⟨w6, hw6_⟩ : ∃ w_, w_ = w.alloc (.cells (List.toArray x4) 93) := ⟨_, rfl⟩
    have h := h b5 w6 hb5_ hw6_
    refine RL.opS trivial rfl (OpW.allocZ (b := b5) zero_93 hb5_ ?_)
    refine RL.opN trivial (OpW.storeF (zs := [Value.slice none 0 0, Value.slice none 0 0, Value.slice none 0 0, Value.int .i64 0, Value.bool false]) (cs := x4) size_93 rfl rfl hl_b5 (by decide) ho_b5 hb5_ hw6_ ?_)
    refine RL.nil ?_
    refine CW.seq ?_
    obtain ⟨w7, hw7_⟩ : ∃ w_, w_ = w6.drew := ⟨_, rfl⟩
    have h := h w7 hw7_
    have hx8 : Ext w6 w7 := by rw [hw7_]; exact Ext.drew _
    refine CW.draws (m := 16) (listed := #[false, false, false, false, false, false, false, false, false, false, false, false, false, false, false, false]) mixed [0, 1, 2, 3, 4, 5, 6, 7, 8, 10, 12, 14] (Ext w6) rfl rfl ?_
    rw [← hw7_]
    refine DL.takeP (listed' := #[true, false, false, false, false, false, false, false, false, false, false, false, false, false, false, false]) (v := .pointer p0) 0 rfl rfl (by kernel_rfl) rfl trivial rfl (fun w_ K_ h_ => OpW.move (v := .pointer p0) rfl h_) ?_
    obtain ⟨a9, ha10, h⟩ := h
    refine DL.takeP (listed' := #[true, true, false, false, false, false, false, false, false, false, false, false, false, false, false, false]) (v := .pointer (some a9)) 1 rfl rfl (by kernel_rfl) rfl trivial rfl (fun w_ K_ h_ => OpW.nilCheck (a := a9) (congrArg Value.pointer ha10) h_) ?_
    refine DL.takeP (listed' := #[true, true, true, false, false, false, false, false, false, false, false, false, false, false, false, false]) (v := .pointer (some (Addr.add a9 0))) 2 rfl rfl (by kernel_rfl) rfl trivial rfl (fun w_ K_ h_ => OpW.fieldAddr (off := 0) field_93_0 rfl h_) ?_
    obtain ⟨x11, h1, h⟩ := h
    refine DL.takeK (listed' := #[true, true, true, true, false, false, false, false, false, false, false, false, false, false, false, false]) (v := Sl.v x11) 3 rfl rfl (by kernel_rfl) (by kernel_rfl) rfl trivial rfl hx8 (fun w_ hS_ K_ h_ => OpW.load1 (v := Sl.v x11) one_90 rfl (hS_.cell h1) h_) ?_
    refine DL.takeP (listed' := #[true, true, true, true, false, true, false, false, false, false, false, false, false, false, false, false]) (v := .pointer p0) 5 rfl rfl (by kernel_rfl) rfl trivial rfl (fun w_ K_ h_ => OpW.move (v := .pointer p0) rfl h_) ?_
    obtain ⟨a12, ha13, h⟩ := h
    refine DL.takeP (listed' := #[true, true, true, true, false, true, true, false, false, false, false, false, false, false, false, false]) (v := .pointer (some a12)) 6 rfl rfl (by kernel_rfl) rfl trivial rfl (fun w_ K_ h_ => OpW.nilCheck (a := a12) (congrArg Value.pointer ha13) h_) ?_
    refine DL.takeP (listed' := #[true, true, true, true, false, true, true, true, false, false, false, false, false, false, false, false]) (v := .pointer (some (Addr.add a12 1))) 7 rfl rfl (by kernel_rfl) rfl trivial rfl (fun w_ K_ h_ => OpW.fieldAddr field_93_1 rfl h_) ?_
    obtain ⟨x14, h1, h⟩ := h
    refine DL.takeK (listed' := #[true, true, true, true, false, true, true, true, true, false, false, false, false, false, false, false]) (v := Sl.v x14) 8 rfl rfl (by kernel_rfl) (by kernel_rfl) rfl trivial rfl hx8 (fun w_ hS_ K_ h_ => OpW.load1 (v := Sl.v x14) one_91 rfl (hS_.cell h1) h_) ?_
    refine DL.execS (listed' := #[true, true, true, true, true, true, true, true, true, false, false, false, false, false, false, false]) 4 rfl (by kernel_rfl) rfl trivial rfl (OpW.callR (al := [Sl.v x11]) Try.func62 fb_62 fn_62 rfl h (fun x15 w16 h => ?_))
    obtain ⟨hx17, h⟩ := h
    refine ⟨(fun _ _ => hx17), ?_⟩
    refine DL.execS (listed' := #[true, true, true, true, true, true, true, true, true, true, false, false, false, false, false, false]) 9 rfl (by kernel_rfl) rfl trivial rfl (OpW.callR (al := [Sl.v x14]) Try.func63 fb_63 fn_63 rfl h (fun x18 w19 h => ?_))
    refine ⟨(fun h_ => absurd h_ (by decide)), ?_⟩
    refine DL.takeP (listed' := #[true, true, true, true, true, true, true, true, true, true, true, false, false, false, false, false]) (v := .pointer (some (Addr.add ⟨b5, 0, none⟩ 0))) 10 rfl rfl (by kernel_rfl) rfl trivial rfl (fun w_ K_ h_ => OpW.fieldAddr (off := 0) field_93_0 rfl h_) ?_
    obtain ⟨u_, h1, h2, h⟩ := h
    obtain ⟨w20, hw20_⟩ : ∃ w_, w_ = w19.setCell (Addr.add ⟨b5, 0, none⟩ 0) (Sl.v x15) := ⟨_, rfl⟩
    have h := h w20 hw20_
    refine DL.execN (listed' := #[true, true, true, true, true, true, true, true, true, true, true, true, false, false, false, false]) 11 rfl (by kernel_rfl) rfl trivial (OpW.store1E (v := Sl.v x15) size_90 rfl rfl rfl h1 h2 hw20_ ?_)
    refine ⟨(fun h_ => absurd h_ (by decide)), ?_⟩
    refine DL.takeP (listed' := #[true, true, true, true, true, true, true, true, true, true, true, true, true, false, false, false]) (v := .pointer (some (Addr.add ⟨b5, 0, none⟩ 1))) 12 rfl rfl (by kernel_rfl) rfl trivial rfl (fun w_ K_ h_ => OpW.fieldAddr field_93_1 rfl h_) ?_
    obtain ⟨u_, h1, h2, h⟩ := h
    obtain ⟨w21, hw21_⟩ : ∃ w_, w_ = w20.setCell (Addr.add ⟨b5, 0, none⟩ 1) (Sl.v x18) := ⟨_, rfl⟩
    have h := h w21 hw21_
    refine DL.execN (listed' := #[true, true, true, true, true, true, true, true, true, true, true, true, true, true, false, false]) 13 rfl (by kernel_rfl) rfl trivial (OpW.store1E (v := Sl.v x18) size_91 rfl rfl rfl h1 h2 hw21_ ?_)
    refine ⟨(fun h_ => absurd h_ (by decide)), ?_⟩
    refine DL.takeP (listed' := #[true, true, true, true, true, true, true, true, true, true, true, true, true, true, true, false]) (v := .pointer (some (Addr.add ⟨b5, 0, none⟩ 2))) 14 rfl rfl (by kernel_rfl) rfl trivial rfl (fun w_ K_ h_ => OpW.fieldAddr field_93_2 rfl h_) ?_
    obtain ⟨u_, h1, h2, h⟩ := h
    obtain ⟨w22, hw22_⟩ : ∃ w_, w_ = w21.setCell (Addr.add ⟨b5, 0, none⟩ 2) (Sl.v nilSl) := ⟨_, rfl⟩
    have h := h w22 hw22_
    refine DL.execN (listed' := #[true, true, true, true, true, true, true, true, true, true, true, true, true, true, true, true]) 15 rfl (by kernel_rfl) rfl trivial (OpW.store1E (v := Sl.v nilSl) size_47 rfl rfl rfl h1 h2 hw22_ ?_)
    refine ⟨(fun h_ => absurd h_ (by decide)), ?_⟩
    refine DL.done (by kernel_rfl) ?_
    refine CW.seq ?_
    refine CW.region ?_
    refine RL.opS trivial rfl (OpW.assign (v := .pointer (some ⟨b5, 0, none⟩)) rfl ?_)
    refine RL.nil ?_
    refine CW.ret ?_
    exact ret_intro (res1 rfl rfl) ⟨some ⟨b5, 0, none⟩, rfl, h⟩
end Go.Proofs.Ytagkcbbbdlmcjaa
end
section
/- The typed readings of the functions, and that the program meets each: written by gen.py (a program of this session). -/
set_option linter.unusedVariables false
set_option linter.unusedSimpArgs false
namespace Go.Proofs.Ytagkcbbbdlmcjaa
open Go.Lift
set_option maxRecDepth 100000 in
set_option maxHeartbeats 4000000 in
theorem s60_calls (K : Sl → World → Prop) (p0 : Sl) (w : World) (h : s60 K p0 w) :
    Calls Try.prog 60 #[Sl.v p0] w (Ret r60 K) := by
  unfold s60 at h
  refine calls_of_CW (n := 9) Try.func60 rfl rfl rfl ?_
  refine CW.seq ?_
  refine CW.region ?_
  refine RL.opS trivial rfl (OpW.assign (v := Sl.v nilSl) rfl ?_)
  refine RL.nil ?_
  refine CW.seq ?_
  refine CW.region ?_
  refine RL.opS trivial rfl (OpW.move (v := Sl.v p0) rfl ?_)
  refine RL.opS trivial rfl (OpW.move (v := Sl.v p0) rfl ?_)
  refine RL.opS trivial rfl (OpW.len (s := p0) slice_91 rfl ?_)
  refine RL.opS trivial rfl (OpW.move (v := Sl.v p0) rfl ?_)
  refine RL.opS trivial rfl (OpW.len (s := p0) slice_91 rfl ?_)
  obtain ⟨⟨h1, h2, h3, h4⟩, h⟩ := h
  refine RL.opS trivial rfl (OpW.slice3 (l := 0) (h := (p0.len : Int)) (m := (p0.len : Int)) slice_91 rfl rfl rfl rfl h1 h2 h3 h4 ?_)
  refine RL.opS trivial rfl (OpW.assign (v := Sl.v (p0.cut 513 0 (p0.len : Int) (p0.len : Int))) rfl ?_)
  refine RL.nil ?_
  refine CW.ret ?_
  exact ret_intro (res1 rfl rfl) ⟨(p0.cut 513 0 (p0.len : Int) (p0.len : Int)), rfl, h⟩
end Go.Proofs.Ytagkcbbbdlmcjaa
end
section
/- The typed readings of the functions, and that the program meets each: written by gen.py (a program of this session). -/
set_option linter.unusedVariables false
set_option linter.unusedSimpArgs false
namespace Go.Proofs.Ytagkcbbbdlmcjaa
open Go.Lift
set_option maxRecDepth 100000 in
set_option maxHeartbeats 4000000 in
theorem s61_calls (K : Int → World → Prop) (p0 : Option Addr) (w : World) (h : s61 K p0 w) :
    Calls Try.prog 61 #[.pointer p0] w (Ret r61 K) := by
  unfold s61 at h
  refine calls_of_CW (n := 34) Try.func61 rfl rfl rfl ?_
  refine CW.seq ?_
  refine CW.region ?_
  refine RL.opS trivial rfl (OpW.assign (v := .int .i64 0) rfl ?_)
  refine RL.nil ?_
  refine CW.seq ?_
  refine CW.region ?_
  refine RL.opS trivial rfl (OpW.move (v := .pointer p0) rfl ?_)
  obtain ⟨a1, ha2, h⟩ := h
  refine RL.opS trivial rfl (OpW.nilCheck (a := a1) (congrArg Value.pointer ha2) ?_)
  refine RL.opS trivial rfl (OpW.fieldAddr field_93_3 rfl ?_)
  obtain ⟨x3, h1, h⟩ := h
  refine RL.opS trivial rfl (OpW.load1 (v := .int .i64 x3) one_3 rfl h1 ?_)
  refine RL.opS trivial rfl (OpW.assign (v := .int .i64 x3) rfl ?_)
  refine RL.nil ?_
  refine CW.seq ?_
  refine CW.region ?_
  refine RL.opS trivial rfl (OpW.move (v := .pointer p0) rfl ?_)
  obtain ⟨a4, ha5, h⟩ := h
  refine RL.opS trivial rfl (OpW.nilCheck (a := a4) (congrArg Value.pointer ha5) ?_)
  refine RL.opS trivial rfl (OpW.fieldAddr field_93_3 rfl ?_)
  obtain ⟨x6, h1, h⟩ := h
  refine RL.opS trivial rfl (OpW.load1 (v := .int .i64 x6) one_3 rfl h1 ?_)
  refine RL.opS trivial rfl (OpW.bin (k := .i64) (a := x6) (b := 1) (v := .int .i64 (IntKind.i64.wrap (x6 + 1))) rfl rfl rfl ?_)
  obtain ⟨a7, ha8, h⟩ := h
  refine RL.opS trivial rfl (OpW.nilCheck (a := a7) (congrArg Value.pointer ha8) ?_)
  refine RL.opS trivial rfl (OpW.fieldAddr field_93_3 rfl ?_)
  obtain ⟨u_, h1, h2, h⟩ := h
  obtain ⟨w9, hw9_⟩ : ∃ w_, w_ = w.setCell (Addr.add a7 3) (.int .i64 (IntKind.i64.wrap (x6 + 1))) := ⟨_, rfl⟩
  have h := h w9 hw9_
  refine RL.opN trivial (OpW.store1E (v := .int .i64 (IntKind.i64.wrap (x6 + 1))) size_3 rfl rfl rfl h1 h2 hw9_ ?_)
  refine RL.nil ?_
  refine CW.seq ?_
  refine CW.seq ?_
  refine CW.region ?_
  refine RL.opS trivial rfl (OpW.move (v := .pointer p0) rfl ?_)
  obtain ⟨a10, ha11, h⟩ := h
  refine RL.opS trivial rfl (OpW.nilCheck (a := a10) (congrArg Value.pointer ha11) ?_)
  refine RL.opS trivial rfl (OpW.fieldAddr field_93_2 rfl ?_)
  obtain ⟨x12, h1, h⟩ := h
  refine RL.opS trivial rfl (OpW.load1 (v := Sl.v x12) one_47 rfl h1 ?_)
  refine RL.opS trivial rfl (OpW.len (s := x12) slice_47 rfl ?_)
  refine RL.opS trivial rfl (OpW.move (v := .int .i64 0) rfl ?_)
  refine RL.nil ?_
  refine CW.block ?_
  obtain ⟨I32, mu33, hI, hs⟩ := h
  refine CW.loop (σ := Int) (fun s13 ρ => ρ 22 = .int .i64 s13 ∧ ρ 0 = .pointer p0 ∧ ρ 3 = .int .i64 x3 ∧ ρ 20 = Sl.v x12 ∧ ρ 21 = .int .i64 (x12.len : Int)) I32 mu33 0 ⟨rfl, rfl, rfl, rfl, rfl⟩ hI ?_
  rintro s13 ρ w14 ⟨e16, e17, e18, e19, e20⟩ hI
  have h := hs s13 w14 hI
  clear hs hI
  refine CW.seq ?_
  refine CW.region ?_
  refine RL.opS trivial rfl (OpW.bin (k := .i64) (a := s13) (b := (x12.len : Int)) (v := .bool (decide (s13 < (x12.len : Int)))) e16 e20 rfl ?_)
  refine RL.nil ?_
  refine CW.seq ?_
  obtain ⟨ha, hc⟩ := h
  refine CW.cond (b := (decide (s13 < (x12.len : Int)))) rfl (fun hb21 => ?_) (fun hb21 => ?_)
  · have h := ha hb21; clear ha hc
    refine CW.skip ?_
    refine CW.seq ?_
    refine CW.block ?_
    refine CW.seq ?_
    refine CW.region ?_
    obtain ⟨a22_, a22, h1, h2, h3, h4, h⟩ := h
    refine RL.opS trivial rfl (OpW.indexE (a' := a22) slice_47 e19 e16 h1 h2 h3 h4 ?_)
    obtain ⟨x24, h1, h2, h⟩ := h
    refine RL.opS trivial rfl (OpW.loadA agg_27 rfl h1 h2 ?_)
    obtain ⟨hl_b25, ho_b25, h⟩ := h
    obtain ⟨b25, hb25_⟩ : ∃ b_, b_ = w14.heap.size := ⟨_, rfl⟩
    obtain ⟨w26, hw26_⟩ : ∃ w_, w_ = w14.alloc (.cells (List.toArray x24) 27) := ⟨_, rfl⟩
    have h := h b25 w26 hb25_ hw26_
    refine RL.opS trivial rfl (OpW.allocZ (b := b25) zero_27 hb25_ ?_)
    refine RL.opN trivial (OpW.storeF (zs := [Value.int .i64 0, Value.int .u64 0, Value.int .i64 0]) (cs := x24) size_27 rfl rfl hl_b25 (by decide) ho_b25 hb25_ hw26_ ?_)
    refine RL.nil ?_
    refine CW.seq ?_
    refine CW.region ?_
    refine RL.opS trivial rfl (OpW.fieldAddr (off := 0) field_27_0 rfl ?_)
    obtain ⟨x27, h1, h⟩ := h
    refine RL.opS trivial rfl (OpW.load1 (v := .int .i64 x27) one_3 rfl h1 ?_)
    refine RL.opS trivial rfl (OpW.move (v := .int .i64 x3) e18 ?_)
    refine RL.opS trivial rfl (OpW.bin (k := .i64) (a := x27) (b := x3) (v := .bool (decide (x27 = x3))) rfl rfl rfl ?_)
    refine RL.nil ?_
    obtain ⟨ha, hc⟩ := h
    refine CW.cond (b := (decide (x27 = x3))) rfl (fun hb28 => ?_) (fun hb28 => ?_)
    · have h := ha hb28; clear ha hc
      refine CW.seq ?_
      refine CW.region ?_
      refine RL.opS trivial rfl (OpW.move (v := .pointer p0) e17 ?_)
      obtain ⟨x29, h1, h2, h⟩ := h
      refine RL.opS trivial rfl (OpW.loadA agg_27 rfl h1 h2 ?_)
      refine RL.opS trivial rfl (OpW.callR (al := [.pointer p0, aggv x29]) Try.func35 fb_35 fn_35 rfl h (fun x30 w31 h => ?_))
      refine RL.nil ?_
      refine CW.seq ?_
      refine CW.region ?_
      refine RL.opS trivial rfl (OpW.assign (v := .int .i64 6) rfl ?_)
      refine RL.nil ?_
      refine CW.ret ?_
      exact ret_intro (res1 rfl rfl) ⟨6, rfl, h⟩
    · have h := hc hb28; clear ha hc
      refine CW.skip ?_
      refine CW.region ?_
      refine RL.opS trivial rfl (OpW.bin (k := .i64) (a := s13) (b := 1) (v := .int .i64 (IntKind.i64.wrap (s13 + 1))) e16 rfl rfl ?_)
      refine RL.opS trivial rfl (OpW.move (v := .int .i64 (IntKind.i64.wrap (s13 + 1))) rfl ?_)
      refine RL.nil ?_
      exact ⟨(IntKind.i64.wrap (s13 + 1)), ⟨rfl, e17, e18, e19, e20⟩, h⟩
  · have h := hc hb21; clear ha hc
    refine CW.exit ?_
    refine CW.seq ?_
    refine CW.region ?_
    refine RL.opS trivial rfl (OpW.assign (v := .int .i64 0) rfl ?_)
    refine RL.nil ?_
    refine CW.ret ?_
    exact ret_intro (res1 rfl rfl) ⟨0, rfl, h⟩
end Go.Proofs.Ytagkcbbbdlmcjaa
end
section
/- The typed readings of the functions, and that the program meets each: written by gen.py (a program of this session). -/
set_option linter.unusedVariables false
set_option linter.unusedSimpArgs false
namespace Go.Proofs.Ytagkcbbbdlmcjaa
open Go.Lift
set_option maxRecDepth 100000 in
set_option maxHeartbeats 4000000 in
theorem s62_calls (K : Sl → World → Prop) (p0 : Sl) (w : World) (h : s62 K p0 w) :
    Calls Try.prog 62 #[Sl.v p0] w (Ret r62 K) := by
  unfold s62 at h
  refine calls_of_CW (n := 8) Try.func62 rfl rfl rfl ?_
  refine CW.seq ?_
  refine CW.region ?_
  refine RL.opS trivial rfl (OpW.assign (v := Sl.v nilSl) rfl ?_)
  refine RL.nil ?_
  refine CW.seq ?_
  refine CW.seq ?_
  refine CW.region ?_
  refine RL.opS trivial rfl (OpW.move (v := Sl.v p0) rfl ?_)
  refine RL.opS trivial rfl (OpW.slNil (b := p0.a.isNone) (s := p0) slice_90 rfl rfl rfl ?_)
  refine RL.nil ?_
  obtain ⟨ha, hc⟩ := h
  refine CW.cond (b := (p0.a.isNone)) rfl (fun hb1 => ?_) (fun hb1 => ?_)
  · have h := ha hb1; clear ha hc
    refine CW.seq ?_
    refine CW.region ?_
    refine RL.opS trivial rfl (OpW.assign (v := Sl.v nilSl) rfl ?_)
    refine RL.nil ?_
    refine CW.ret ?_
    exact ret_intro (res1 rfl rfl) ⟨nilSl, rfl, h⟩
  · have h := hc hb1; clear ha hc
    refine CW.skip ?_
    refine CW.seq ?_
    refine CW.region ?_
    obtain ⟨b2, hb2_⟩ : ∃ b_, b_ = w.heap.size := ⟨_, rfl⟩
    obtain ⟨w3, hw3_⟩ : ∃ w_, w_ = w.alloc (.cells (List.toArray []) 112) := ⟨_, rfl⟩
    have h := h b2 w3 hb2_ hw3_
    refine RL.opS trivial rfl (OpW.buildSliceE (vs := []) (cs := []) (by rfl) (by kernel_rfl) hb2_ hw3_ ?_)
    refine RL.opS trivial rfl (OpW.move (v := Sl.v p0) rfl ?_)
    obtain ⟨x4, w5, hr_, h⟩ := h
    refine RL.opS trivial rfl (OpW.appendL (v := Sl.v x4) rfl hr_ ?_)
    refine RL.opS trivial rfl (OpW.assign (v := Sl.v x4) rfl ?_)
    refine RL.nil ?_
    refine CW.ret ?_
    exact ret_intro (res1 rfl rfl) ⟨x4, rfl, h⟩
end Go.Proofs.Ytagkcbbbdlmcjaa
end
section
/- The typed readings of the functions, and that the program meets each: written by gen.py (a program of this session). -/
set_option linter.unusedVariables false
set_option linter.unusedSimpArgs false
namespace Go.Proofs.Ytagkcbbbdlmcjaa
open Go.Lift
set_option maxRecDepth 100000 in
set_option maxHeartbeats 4000000 in
theorem s63_calls (K : Sl → World → Prop) (p0 : Sl) (w : World) (h : s63 K p0 w) :
    Calls Try.prog 63 #[Sl.v p0] w (Ret r63 K) := by
  unfold s63 at h
  refine calls_of_CW (n := 8) Try.func63 rfl rfl rfl ?_
  refine CW.seq ?_
  refine CW.region ?_
  refine RL.opS trivial rfl (OpW.assign (v := Sl.v nilSl) rfl ?_)
  refine RL.nil ?_
  refine CW.seq ?_
  refine CW.seq ?_
  refine CW.region ?_
  refine RL.opS trivial rfl (OpW.move (v := Sl.v p0) rfl ?_)
  refine RL.opS trivial rfl (OpW.slNil (b := p0.a.isNone) (s := p0) slice_91 rfl rfl rfl ?_)
  refine RL.nil ?_
  obtain ⟨ha, hc⟩ := h
  refine CW.cond (b := (p0.a.isNone)) rfl (fun hb1 => ?_) (fun hb1 => ?_)
  · have h := ha hb1; clear ha hc
    refine CW.seq ?_
    refine CW.region ?_
    refine RL.opS trivial rfl (OpW.assign (v := Sl.v nilSl) rfl ?_)
    refine RL.nil ?_
    refine CW.ret ?_
    exact ret_intro (res1 rfl rfl) ⟨nilSl, rfl, h⟩
  · have h := hc hb1; clear ha hc
    refine CW.skip ?_
    refine CW.seq ?_
    refine CW.region ?_
    obtain ⟨b2, hb2_⟩ : ∃ b_, b_ = w.heap.size := ⟨_, rfl⟩
    obtain ⟨w3, hw3_⟩ : ∃ w_, w_ = w.alloc (.cells (List.toArray []) 116) := ⟨_, rfl⟩
    have h := h b2 w3 hb2_ hw3_
    refine RL.opS trivial rfl (OpW.buildSliceE (vs := []) (cs := []) (by rfl) (by kernel_rfl) hb2_ hw3_ ?_)
    refine RL.opS trivial rfl (OpW.move (v := Sl.v p0) rfl ?_)
    obtain ⟨x4, w5, hr_, h⟩ := h
    refine RL.opS trivial rfl (OpW.appendL (v := Sl.v x4) rfl hr_ ?_)
    refine RL.opS trivial rfl (OpW.assign (v := Sl.v x4) rfl ?_)
    refine RL.nil ?_
    refine CW.ret ?_
    exact ret_intro (res1 rfl rfl) ⟨x4, rfl, h⟩
end Go.Proofs.Ytagkcbbbdlmcjaa
end
section
/- What the disk's functions do that change it. -/
set_option linter.unusedVariables false
set_option linter.unusedSimpArgs false
namespace Go.Proofs.Ytagkcbbbdlmcjaa
open Go.Lift Go.Lift.Disk Go.RowKit
theorem fall_one (f : Fall) : ∀ v ∈ fallOf f, v.oneCell' = true := by
  intro v hv
  simp only [fallOf, List.mem_cons, List.not_mem_nil, or_false] at hv
  rcases hv with rfl | rfl | rfl <;> rfl
def Dk.tick (D : Dk) : Dk := { D with changes := D.changes + 1 }
theorem strike_none {D : Dk} (h : D.falls.find? (fun f => f.1 == (D.changes : Int)) = none) : D.strike = (Dk.tick D, 0) := by unfold Dk.strike; rw [h]; rfl
theorem strike_some {D : Dk} {f : Fall} (h : D.falls.find? (fun f => f.1 == (D.changes : Int)) = some f) : D.strike = ((Dk.tick D).crash f, 6) := by unfold Dk.strike; rw [h]; rfl
section
variable {w : World} {base : Nat → Prop} {pd bb : Nat} {D : Dk}
theorem strike_ok (h : DAt w base pd bb D) (hch : D.changes < 1000000000) : Calls Try.prog 61 #[.pointer (dp pd)] w (Ret r61 fun x w' => x = D.strike.2 ∧ DAt w' base pd bb D.strike.1 ∧ Fr (Foot pd bb) w w') := by
  obtain ⟨c, r, sp, sf, h⟩ := h
  have hwf := h.wf
  apply s61_calls
  refine ⟨_, rfl, (D.changes : Int), by rw [add_plain]; exact h.disk.cell rfl, _, rfl, (D.changes : Int), by rw [add_plain]; exact h.disk.cell rfl, _, rfl, ?_⟩
  show st1 _ _ _ _
  rw [add_plain, w64_eq (by omega) (by omega)]
  refine st1_blk h.disk (Nat.lt_of_lt_of_le (Nat.lt_succ_self 3) (Nat.le_succ 4)) fun w9 hb9 hf9 => ?_
  have h9 : DX w9 base pd bb c r sp sf (Dk.tick D) := by
    refine ⟨⟨hwf.pos, hwf.few, hwf.bl, hwf.pend, hwf.plen, hwf.keep, hwf.flen, by unfold Dk.tick; simp only; omega⟩, h.hpd, h.hbb, h.hne, h.hcap, ?_, h.rows.fr hf9 h.hne.symm, h.pend.fr hf9 fun k _ hk e => hk (.inl e), h.falls.fr hf9 fun k _ hk e => hk (.inl e)⟩
    have : ((D.changes + 1 : Nat) : Int) = (D.changes : Int) + 1 := by omega
    unfold Dk.tick
    simp only [this]
    exact hb9
  have hfl := fall_len h.falls
  refine ⟨_, rfl, sf, by rw [add_plain]; exact h9.disk.cell rfl, ?_⟩
  refine ⟨fun s w' => ∃ k : Nat, k ≤ D.falls.length ∧ s = (k : Int) ∧ DX w' base pd bb c r sp sf (Dk.tick D) ∧ Fr (Foot pd bb) w w' ∧ (D.falls.take k).find? (fun f => f.1 == (D.changes : Int)) = none,
    fun s _ => D.falls.length - s.toNat, ⟨0, Nat.zero_le _, rfl, h9, footFr_pd hf9, by simp⟩, ?_⟩
  rintro s w14 ⟨k, hk, rfl, hX, hfr, hno⟩
  refine ⟨fun hlt => ?_, fun hge => ?_⟩
  · have hkl : k < D.falls.length := by have := of_decide_eq_true hlt; omega
    have hsplit : D.falls = D.falls.take k ++ D.falls[k] :: D.falls.drop (k + 1) := by rw [← List.drop_eq_getElem_cons hkl, List.take_append_drop]
    obtain ⟨a, ha, hat⟩ := hX.falls.row (by decide) (k := k) (by omega)
    have e := fallC_at hkl
    have hat : At w14 (a.add (k * 3)) (fallOf D.falls[k]) := by rw [← e]; exact hat
    refine ⟨a, _, ha, by omega, by omega, rfl, ?_⟩
    rw [Int.toNat_natCast]
    refine ⟨_, rfl, hat, rfl, fall_one _, fun b25 w26 hb25 hw26 => ?_⟩
    have hx26 : Ext w14 w26 := Ext.new hw26
    have hB : Blk w26 b25 27 (fallOf D.falls[k]) := Blk.new hb25 hw26
    refine ⟨D.falls[k].1, by rw [add_plain]; exact hB.cell rfl, ?_⟩
    refine ⟨fun heq => ?_, fun hne => ?_⟩
    · have heq := of_decide_eq_true heq
      have hfind : D.falls.find? (fun f => f.1 == (D.changes : Int)) = some D.falls[k] := by
        have e2 := congrArg (fun l : List Fall => l.find? (fun f => f.1 == (D.changes : Int))) hsplit
        refine e2.trans ?_
        show List.find? _ (_ ++ _) = _
        rw [List.find?_append, hno, List.find?_cons_of_pos (by simp [heq])]
        rfl
      refine ⟨fallOf D.falls[k], rfl, hB.at rfl, ?_⟩
      refine cR_of (crash_ok (D := Dk.tick D) ⟨c, r, sp, sf, hX.ext hx26⟩ D.falls[k] (hwf.keep _ (List.getElem_mem hkl))) ?_
      rintro x w' ⟨h1, h2⟩
      rw [strike_some hfind]
      exact ⟨rfl, h1, (hfr.trans (Fr.of hx26)).trans h2⟩
    · have hne := of_decide_eq_false hne
      have := hwf.flen
      rw [w64_eq (by omega) (by omega)]
      refine ⟨⟨k + 1, by omega, by omega, hX.ext hx26, hfr.trans (Fr.of hx26), ?_⟩, by simp only; omega⟩
      rw [List.take_succ_eq_append_getElem hkl, List.find?_append, hno]
      simp [hne]
  · have hge : k = D.falls.length := by have := of_decide_eq_false hge; omega
    subst hge
    rw [List.take_length] at hno
    rw [strike_none hno]
    exact ⟨rfl, ⟨c, r, sp, sf, hX⟩, hfr⟩

theorem flush_ok (h : DAt w base pd bb D) (hch : D.changes < 1000000000) : Calls Try.prog 34 #[.pointer (dp pd)] w (Ret r34 fun x w' => x = D.flush.2 ∧ DAt w' base pd bb D.flush.1 ∧ Fr (Foot pd bb) w w') := by
  apply s34_calls
  refine cR_of (down_ok h) ?_
  rintro x w' ⟨rfl, rfl⟩
  unfold Dk.flush
  refine ⟨fun hd => ?_, fun hd => ?_⟩
  · rw [if_pos hd]; exact ⟨rfl, h, Fr.refl _⟩
  rw [if_neg (by rw [hd]; simp)]
  refine cR_of (strike_ok h hch) ?_
  rintro x w5 ⟨rfl, h5, hf5⟩
  refine ⟨fun hne => ?_, fun he => ?_⟩
  · rw [if_pos (nd_t hne)]; exact ⟨rfl, h5, hf5⟩
  have he := nd_f he
  rw [if_neg (by rw [he]; simp)]
  generalize D.strike.1 = E at h5 ⊢
  obtain ⟨c, r, sp, sf, h5⟩ := h5
  have hwf := h5.wf
  have hpl := pend_len h5.pend fun p hp => (hwf.pend p hp).2
  refine ⟨_, rfl, sp, by rw [add_plain]; exact h5.disk.cell rfl, ?_⟩
  refine ⟨fun s w' => ∃ (k : Nat), k ≤ E.pend.length ∧ s = (k : Int) ∧ DX w' base pd bb c r sp sf { E with bl := flushL E.bl (E.pend.take k) } ∧ Fr (Foot pd bb) w w' ∧ (flushL E.bl (E.pend.take k)).length = E.bl.length,
    fun s _ => E.pend.length - s.toNat, ⟨0, Nat.zero_le _, rfl, h5, hf5, rfl⟩, ?_⟩
  rintro s w11 ⟨k, hk, rfl, hX, hfr, hll⟩
  have hfs : ∀ (hkp : k < E.pend.length), flushL E.bl (E.pend.take (k + 1)) = setSure (flushL E.bl (E.pend.take k)) E.pend[k].1 E.pend[k].2 := by
    intro hkp
    unfold flushL
    rw [List.take_succ_eq_append_getElem hkp, List.foldl_append]
    rfl
  generalize hl : flushL E.bl (E.pend.take k) = l at hX hll hfs
  refine ⟨fun hlt => ?_, fun hge => ?_⟩
  · have hkp : k < E.pend.length := by have := of_decide_eq_true hlt; omega
    obtain ⟨hpi, hp512⟩ := hwf.pend _ (List.getElem_mem hkp)
    have hpi' : E.pend[k].1 < l.length := by rw [hll]; exact hpi
    obtain ⟨a, ha, hat⟩ := hX.pend.row (by decide) (k := k) (by omega)
    rw [pendC_at (fun p hp => (hwf.pend p hp).2) hkp] at hat
    refine ⟨a, _, ha, by omega, by omega, rfl, ?_⟩
    rw [Int.toNat_natCast]
    refine ⟨_, by simp [u8s_len, hp512], hat, ?_⟩
    refine ⟨by simp [u8s_len, hp512], one_pend, fun b21 w22 hb21 hw22 => ?_⟩
    have hx22 : Ext w11 w22 := Ext.new hw22
    have hX22 := hX.ext hx22
    have hB : Blk w22 b21 116 (.int .i64 (E.pend[k].1 : Int) :: u8s E.pend[k].2) := Blk.new hb21 hw22
    intro w23 hw23
    have hx23 : Ext w22 w23 := by subst hw23; exact Ext.drew _
    refine ⟨_, rfl, ⟨some ⟨bb, 0, none⟩, l.length, c⟩, by rw [add_plain]; exact hX22.disk.cell rfl, ?_⟩
    refine ⟨(E.pend[k].1 : Int), by rw [add_plain]; exact hB.cell rfl, ?_⟩
    refine ⟨u8s E.pend[k].2, by rw [u8s_len, hp512], by rw [add_plain]; exact hB.at (by rw [List.drop_succ_cons, List.drop_zero, List.take_length]), ?_⟩
    refine ⟨⟨bb, 0, none⟩, _, rfl, by omega, by simpa using hpi', rfl, ?_⟩
    show stA _ _ _ _ _
    simp only [add_plain, Nat.zero_add, Int.toNat_natCast, Nat.mul_comm _ 1024]
    have hsz : (u8s (flatB l) ++ r).length ≥ 1024 * E.pend[k].1 + 1024 := by
      have := flat_len hX.wf.bl
      simp only at this
      rw [List.length_append, u8s_len, this]
      omega
    have hX23 := hX22.ext hx23
    refine stA_blk hX23.rows (by rw [u8s_len, hp512]) (by show _ ≤ (u8s (flatB l) ++ r).length; omega) (u8s_one _) fun w' hb' hf' => ?_
    have e := splice_sure hX.wf.bl hpi' hp512 r
    rw [e] at hb'
    have := hwf.plen
    rw [w64_eq (by omega) (by omega)]
    refine ⟨⟨k + 1, by omega, by omega, ?_, ((hfr.trans (Fr.of hx22)).trans (Fr.of hx23)).trans (footFr_bb hf'), by rw [hfs hkp, setSure_len, hll]⟩, by first | omega | (simp only; omega)⟩
    rw [hfs hkp]
    exact hX23.setRows (D := { E with bl := l }) hb' hf' (setSure_len _ _ _) (setSure_wf hX.wf.bl hpi' hp512)
  · have hge : k = E.pend.length := by have := of_decide_eq_false hge; omega
    subst hge
    rw [List.take_length] at hl
    refine ⟨_, rfl, ?_⟩
    show st1 _ _ _ _
    rw [add_plain]
    refine st1_blk hX.disk (Nat.succ_lt_succ (Nat.zero_lt_succ _)) fun w35 hb35 hf35 => ?_
    refine ⟨rfl, ⟨c, r, nilSl, sf, ?_⟩, hfr.trans (footFr_pd hf35)⟩
    rw [hl]
    have hz := hX.wf
    exact ⟨⟨hz.pos, hz.few, hz.bl, by simp, by simp, hz.keep, hz.flen, hz.ch⟩, h5.hpd, h5.hbb, h5.hne, hX.hcap, hb35, hX.rows.fr hf35 h5.hne.symm, SlAt.nilAt _ _ _ _ _, hX.falls.fr hf35 fun k _ hk e => hk (.inl e)⟩

/-! ### a write -/
theorem clip_ok (s : Sl) (hs : s.len ≤ s.cap) : Calls Try.prog 60 #[s.v] w (Ret r60 fun x w' => x = ⟨s.a, s.len, s.len⟩ ∧ w = w') := by
  apply s60_calls
  refine ⟨⟨by omega, by omega, by omega, by omega⟩, ?_, rfl⟩
  simp [Sl.cut, Addr.add]
theorem Own.slAt {w' : World} {B e sz : Nat} {s : Sl} {xs : List Value} (ho : Own w' B e sz s xs) (hb : ∀ k, B ≤ k → base k) (h1 : pd < B) (h2 : bb < B) : SlAt w' base pd bb sz s xs := by
  refine ⟨ho.length, ho.cap, ?_, ho.at, ?_⟩
  · intro hn
    obtain ⟨a, l, c⟩ := s
    simp only at hn
    subst hn
    rcases ho.2 with ⟨h1, h2⟩ | ⟨g, cap, cur, h1, _⟩
    · simp only [Value.slice.injEq] at h1
      obtain ⟨_, rfl, rfl⟩ := h1
      rfl
    · simp at h1
  · intro a ha
    obtain ⟨sa, l, c⟩ := s
    simp only at ha
    subst ha
    rcases ho.2 with ⟨h1, h2⟩ | ⟨g, cap, cur, h1, h3, h5, _⟩
    · simp at h1
    · simp only [Value.slice.injEq, Option.some.injEq] at h1
      obtain ⟨rfl, _, _⟩ := h1
      exact ⟨hb _ h3, (Array.getElem?_eq_some_iff.1 h5).1, by rintro (e | e) <;> simp only at e <;> omega⟩
theorem write_ok (h : DAt w base pd bb D) (hch : D.changes < 1000000000) (hpn : D.pend.length < 1000000) (hB : ∀ k, w.heap.size ≤ k → base k) (i : Int) (p : Sl) (bs : List UInt8) (hp : Bytes w p bs) :
    Calls Try.prog 33 #[.pointer (dp pd), .int .i64 i, p.v] w (Ret r33 fun x w' => x = (D.write i bs).2 ∧ DAt w' base pd bb (D.write i bs).1 ∧ Fr (Foot pd bb) w w') := by
  apply s33_calls
  refine cR_of (has_ok h i) ?_
  rintro x w' ⟨rfl, rfl⟩
  unfold Dk.write
  refine ⟨fun hne => ?_, fun he => ?_⟩
  · rw [if_pos (nd_t hne)]; exact ⟨rfl, h, Fr.refl _⟩
  have he := nd_f he
  rw [if_neg (by rw [he]; simp)]
  have hpl := hp.1
  refine ⟨fun hne => ?_, fun hl => ?_⟩
  · have hne := nd_t hne
    rw [if_pos (by omega)]; exact ⟨rfl, h, Fr.refl _⟩
  have hl := nd_f hl
  have h512 : bs.length = 512 := by omega
  rw [if_neg (by omega)]
  obtain ⟨hd, hi0, hi1⟩ := why_zero he
  obtain ⟨n, rfl⟩ := Int.eq_ofNat_of_zero_le hi0
  have hn : n < D.bl.length := by omega
  rw [Int.toNat_natCast]
  obtain ⟨c, r, sp, sf, h⟩ := h
  have hwf := h.wf
  refine ⟨by rw [List.length_append, List.length_replicate]; rfl, ?_, ?_⟩
  · intro v hv
    rcases List.mem_append.1 hv with hv | hv
    · obtain rfl : v = _ := by simpa using hv
      rfl
    · rw [List.eq_of_mem_replicate hv]; rfl
  intro b5 w6 hb5 hw6
  have hx6 : Ext w w6 := Ext.new hw6
  have hB6 : Blk w6 b5 116 ([.int .i64 (n : Int)] ++ List.replicate 512 (Value.int .u8 0)) := Blk.new hb5 hw6
  have hpdl := h.disk.lt
  have hbbl := h.rows.lt
  have hb5n : ¬ Foot pd bb b5 := by rintro (e | e) <;> omega
  have e1 : Sl.cut ⟨some (Addr.add ⟨b5, 0, none⟩ 1), 512, 512⟩ 1 0 512 512 = ⟨some ⟨b5, 1, none⟩, 512, 512⟩ := by rw [add_plain]; exact cut_to _ 512 512 (by decide)
  rw [e1]
  have hp6 := hp.ext hx6
  refine cpy_blk (g := b5) (e := 116) (cs := u8s bs) mk_39 hB6 (by rw [u8s_len]; show bs.length = min p.len 512; omega) hp6.2 (by rw [u8s_len, List.length_append, List.length_replicate, List.length_singleton]; omega) (u8s_one _) ?_ fun w8 hb8 hf8 => ?_
  · intro hn
    have := hp.2
    rw [hn] at this
    have h0 : u8s bs = [] := this
    have := congrArg List.length h0
    rw [u8s_len] at this
    simp at this
    rw [this] at h512; cases h512
  have ecell : splice ([.int .i64 (n : Int)] ++ List.replicate 512 (Value.int .u8 0)) 1 (u8s bs) = .int .i64 (n : Int) :: u8s bs := by
    have := splice_mid [.int .i64 (n : Int)] (List.replicate 512 (Value.int .u8 0)) (u8s bs) [] 1 rfl (by rw [List.length_replicate, u8s_len, h512])
    rw [List.append_nil, List.append_nil] at this
    exact this
  rw [ecell] at hb8
  have hx8 : Ext w w8 := hf8.ext hx6 fun k _ e => by rw [e, hb5]; exact Nat.le_refl _
  have h8 := h.ext hx8
  intro w9 hw9
  have hx9 : Ext w8 w9 := by subst hw9; exact Ext.drew _
  refine ⟨_, rfl, ⟨some ⟨bb, 0, none⟩, D.bl.length, c⟩, by rw [add_plain]; exact h8.disk.cell rfl, ?_⟩
  refine ⟨u8s bs, by rw [u8s_len, h512], by rw [add_plain]; exact hb8.at (by rw [List.drop_succ_cons, List.drop_zero, List.take_length]), ?_⟩
  refine ⟨⟨bb, 0, none⟩, _, rfl, by omega, by simpa using hn, rfl, ?_⟩
  show stA _ _ _ _ _
  simp only [add_plain, Nat.zero_add, Int.toNat_natCast, Nat.mul_comm _ 1024, Nat.add_zero]
  have hsz : (u8s (flatB D.bl) ++ r).length ≥ 1024 * n + 1024 := by
    rw [List.length_append, u8s_len, flat_len hwf.bl]
    omega
  have h9 := h8.ext hx9
  refine stA_blk h9.rows (by rw [u8s_len, h512]) (by omega) (u8s_one _) fun w17 hb17 hf17 => ?_
  rw [splice_now hwf.bl hn h512] at hb17
  have h17 := h9.setRows hb17 hf17 (setNow_len _ _ _) (setNow_wf hwf.bl hn h512)
  have hB17 := (hb8.ext hx9).fr hf17 fun e => hb5n (.inr e)
  intro w18 hw18
  have hx18 : Ext w17 w18 := by subst hw18; exact Ext.drew _
  refine ⟨_, rfl, sp, by rw [add_plain]; exact h17.disk.cell rfl, ?_⟩
  have hcl : (Value.int .i64 (n : Int) :: u8s bs).length = 513 := by rw [List.length_cons, u8s_len, h512]
  refine ⟨.int .i64 (n : Int) :: u8s bs, hcl, hB17.at (by rw [List.drop_zero, List.take_length]), ?_⟩
  refine ⟨fun _ x v => x = ⟨sp.a, sp.len, sp.len⟩, fun _ _ _ _ _ h => h, fun _ v hv _ => ?_, ?_⟩
  · refine cR_of (clip_ok sp h.pend.cap) ?_
    rintro x v' ⟨rfl, rfl⟩
    exact ⟨Ext.refl _, rfl⟩
  refine ⟨fun _ x v => ∃ b, x = ⟨some ⟨b, 0, none⟩, 1, 1⟩ ∧ At v ⟨b, 0, none⟩ (.int .i64 (n : Int) :: u8s bs), fun _ _ _ _ hx ⟨b, h1, h2⟩ => ⟨b, h1, Ext.at hx h2⟩,
    fun _ v hv _ => ⟨hcl, one_pend, fun b v' hb hv' => ⟨Ext.new hv', b, rfl, At.new hb hv'⟩⟩, ?_⟩
  rintro x24 x25 w38 hx38 h24 ⟨b, h25, hat⟩
  have h24 : x24 = ⟨sp.a, sp.len, sp.len⟩ := h24
  subst h24; subst h25
  have h18 := (h17.ext hx18).ext hx38
  have hpl' := pend_len h.pend fun p hp => (hwf.pend p hp).2
  have hsz38 : w.heap.size ≤ w38.heap.size := Nat.le_trans (Nat.le_trans (hx8.trans hx9).size hf17.size) (hx18.trans hx38).size
  refine app_full (base := w.heap.size) mkz_91 (by rw [List.length_append, List.length_replicate, List.length_singleton]) rfl (fun hna => by have := h.pend.nil hna; rw [this]) h.pend.len h18.pend.cells (by rw [hcl]; exact (Nat.one_mul 513).symm) hat (by simp) Nat.zero_lt_one
    (by simp only [maxLen]; omega) (by simp only; omega) hsz38 fun s' w41 hl' ho' hx41 => ?_
  have h41 := h18.ext hx41
  refine ⟨_, rfl, ?_⟩
  show st1 _ _ _ _
  rw [add_plain]
  refine st1_blk h41.disk (Nat.succ_lt_succ (Nat.zero_lt_succ _)) fun w44 hb44 hf44 => ?_
  have hfin : DX w44 base pd bb c r s' sf (D.put n bs) := by
    have hz := h41.wf
    have hsl := Own.slAt ho' (base := base) (pd := pd) (bb := bb) hB hpdl hbbl
    refine ⟨⟨hz.pos, hz.few, hz.bl, ?_, ?_, hz.keep, hz.flen, hz.ch⟩, h.hpd, h.hbb, h.hne, h41.hcap, hb44, h41.rows.fr hf44 h.hne.symm, ?_, h41.falls.fr hf44 fun k _ hk e => hk (.inl e)⟩
    · intro p hp
      rcases List.mem_append.1 hp with hp | hp
      · exact hz.pend p hp
      · obtain rfl : p = (n, bs) := by simpa using hp
        exact ⟨by show n < (setNow D.bl n bs).length; rw [setNow_len]; exact hn, h512⟩
    · show (D.pend ++ [(n, bs)]).length ≤ _
      rw [List.length_append]
      simp only [List.length_cons, List.length_nil]
      omega
    · have ep : pendC (D.put n bs).pend = pendC D.pend ++ (.int .i64 (n : Int) :: u8s bs) := by
        show pendC (D.pend ++ [(n, bs)]) = _
        rw [pendC_append]
        simp [pendC]
      rw [ep]
      exact hsl.fr hf44 fun k _ hk e => hk (.inl e)
  refine cR_of (strike_ok ⟨c, r, s', sf, hfin⟩ hch) ?_
  rintro x w46 ⟨rfl, h46, hf46⟩
  refine ⟨rfl, h46, Fr.trans ?_ hf46⟩
  exact ((((Fr.of (hx8.trans hx9)).trans (footFr_bb hf17)).trans (Fr.of (hx18.trans hx38))).trans (Fr.of hx41)).trans (footFr_pd hf44)
end
end Go.Proofs.Ytagkcbbbdlmcjaa
end
section
/- How disks come to be: new ones, clones; a plan; a block to write; and a nil disk. -/
set_option linter.unusedVariables false
set_option linter.unusedSimpArgs false
namespace Go.Proofs.Ytagkcbbbdlmcjaa
open Go.Lift Go.Lift.Disk Go.RowKit
def zero512 : List UInt8 := List.replicate 512 0
def fresh (n : Nat) : Dk := ⟨List.replicate n (zero512, zero512), [], [], 0, false⟩
theorem zeros_u8' (m : Nat) : List.replicate m (Value.int .u8 0) = u8s (List.replicate m 0) := by simp [u8s]
theorem flat_zeros (n : Nat) : flatB (List.replicate n (zero512, zero512)) = List.replicate (1024 * n) 0 := by
  induction n with
  | zero => rfl
  | succ n ih =>
    rw [List.replicate_succ]
    unfold flatB at ih ⊢
    rw [List.flatMap_cons, ih]
    unfold zero512
    simp only [List.replicate_append_replicate]
    congr 1
    omega
theorem fresh_wf {n : Nat} (h0 : 0 < n) (h1 : n ≤ 4096) : (fresh n).Wf := by
  refine ⟨by simp [fresh]; exact h0, by simp [fresh]; exact h1, ?_, by simp [fresh], by simp [fresh], by simp [fresh], by simp [fresh], by simp [fresh]⟩
  intro p hp
  rw [List.eq_of_mem_replicate hp]
  exact ⟨List.length_replicate .., List.length_replicate ..⟩
theorem new_ok (w : World) (n : Nat) (h0 : 0 < n) (h1 : n ≤ 4096) : Calls Try.prog 15 #[.int .i64 (n : Int)] w (Ret r15 fun x w' => ∃ pd bb, x = (dp pd, 0) ∧ DAt w' (Up w.heap.size) pd bb (fresh n) ∧ Ext w w') := by
  apply s15_calls
  refine jn_of fun k hk => ?_
  have key : k false w := by
    rw [hk]
    refine ⟨fun h => absurd h (by decide), fun _ => ?_⟩
    refine ⟨by omega, by omega, by omega, by omega, fun b9 w9 hb9 hw9 => ?_⟩
    rw [Int.toNat_natCast] at hw9 ⊢
    intro b11 w12 hb11 hw12
    have hx9 : Ext w w9 := Ext.new hw9
    have hx12 : Ext w9 w12 := Ext.new hw12
    rw [zeros_u8'] at hw9
    have hB := (Blk.new hb9 hw9).ext hx12
    have hD : Blk w12 b11 93 _ := Blk.new hb11 hw12
    have hlt := (Blk.new hb9 hw9).lt
    refine ⟨b11, b9, rfl, ⟨n, [], nilSl, nilSl, ?_⟩, hx9.trans hx12⟩
    have hfl : flatB (fresh n).bl = List.replicate (n * 1024) 0 := by
      show flatB (List.replicate n (zero512, zero512)) = _
      rw [flat_zeros, Nat.mul_comm]
    refine ⟨fresh_wf h0 h1, (by show w.heap.size ≤ b11; have := hx9.size; omega), (by show w.heap.size ≤ b9; omega), by omega, by simp [fresh], ?_, by rw [hfl, List.append_nil]; exact hB, SlAt.nilAt _ _ _ _ _, SlAt.nilAt _ _ _ _ _⟩
    have hbl : (fresh n).bl.length = n := by simp [fresh]
    rw [hbl]
    exact hD
  refine ⟨fun h => absurd (of_decide_eq_true h) (by omega), fun _ => ?_⟩
  have : (decide (4096 < (n : Int))) = false := decide_eq_false (by omega)
  rw [this]; exact key
theorem new_bad (w : World) (n : Int) (h : n < 1 ∨ 4096 < n) : Calls Try.prog 15 #[.int .i64 n] w (Ret r15 fun x w' => x = (none, 1) ∧ w = w') := by
  apply s15_calls
  refine jn_of fun k hk => ?_
  have key : k true w := by
    rw [hk]
    exact ⟨fun _ => ⟨rfl, rfl⟩, fun h => absurd h (by decide)⟩
  refine ⟨fun _ => key, fun h1 => ?_⟩
  have h1 := of_decide_eq_false h1
  rw [decide_eq_true (show 4096 < n by omega)]; exact key

/-! ### a block to write -/
def fillOf (c : UInt8) (s : List UInt8) : List UInt8 := s.take 512 ++ List.replicate (512 - s.length) c
theorem fillOf_len (c : UInt8) (s : List UInt8) : (fillOf c s).length = 512 := by unfold fillOf; simp; omega
theorem Own.ofBlk {w : World} {base g n e size : Nat} {xs : List Value} (h : Blk w g e xs) (hl : xs.length = n * size) (hb : base ≤ g) (hm : n ≤ maxLen) : Own w base e size ⟨some ⟨g, 0, none⟩, n, n⟩ xs :=
  ⟨hl, .inr ⟨g, n, xs.toArray, rfl, hb, h, Nat.le_refl _, hm, by simpa using hl, by simp [← hl]⟩⟩
theorem fill_ok (w : World) (c : UInt8) (s : List UInt8) : Calls Try.prog 32 #[.int .u8 (c.toNat : Int), str s] w (Ret r32 fun x w' => Own w' w.heap.size 5 1 x (u8s (fillOf c s)) ∧ Ext w w') := by
  apply s32_calls
  refine ⟨by decide, by decide, by decide, by decide, fun b2 w2 hb2 hw2 => ?_⟩
  have hx2 : Ext w w2 := Ext.new hw2
  have hB2 : Blk w2 b2 5 (u8s (List.replicate 512 0)) := by
    rw [← zeros_u8']
    exact Blk.new hb2 hw2
  show LoopS _ _ _
  refine ⟨fun st w' => ∃ i : Nat, i ≤ 512 ∧ st = (i : Int) ∧ Blk w' b2 5 (u8s (List.replicate i c ++ List.replicate (512 - i) 0)) ∧ Ext w w', fun st _ => 512 - st.toNat, ⟨0, by omega, rfl, by rw [List.replicate_zero, List.nil_append]; exact hB2, hx2⟩, ?_⟩
  rintro st w5 ⟨i, hi, rfl, hB, hx⟩
  refine ⟨fun hlt => ?_, fun hge => ?_⟩
  · have hlt : i < 512 := by
      have := of_decide_eq_true hlt
      have h2 : (i : Int) < ((512 : Nat) : Int) := this
      omega
    refine ⟨⟨b2, 0, none⟩, _, rfl, by omega, ?_, rfl, ?_⟩
    · show (i : Int) < ((512 : Nat) : Int); omega
    show st1 _ _ _ _
    rw [add_plain, Nat.zero_add, Int.toNat_natCast, Nat.mul_one]
    refine st1_blk hB (by rw [u8s_len, List.length_append, List.length_replicate, List.length_replicate]; omega) fun w' hB' hf' => ?_
    rw [w64_eq (by omega) (by omega)]
    refine ⟨⟨i + 1, by omega, by omega, ?_, hf'.ext hx fun k _ e => by rw [e, hb2]; exact Nat.le_refl _⟩, by simp only; omega⟩
    have e : (u8s (List.replicate i c ++ List.replicate (512 - i) 0)).set i (.int .u8 (c.toNat : Int)) = u8s (List.replicate (i + 1) c ++ List.replicate (512 - (i + 1)) 0) := by
      rw [show 512 - i = (512 - (i + 1)) + 1 by omega, List.replicate_succ, u8s_append, List.set_append_right _ _ (by rw [u8s_len, List.length_replicate]; exact Nat.le_refl _), u8s_len, List.length_replicate, Nat.sub_self, List.replicate_succ', u8s_append, u8s_append]
      simp [u8s]
    rw [← e]; exact hB'
  · have hge : i = 512 := by
      have := of_decide_eq_false hge
      have h2 : ¬ ((i : Int) < ((512 : Nat) : Int)) := this
      omega
    subst hge
    rw [Nat.sub_self, List.replicate_zero, List.append_nil] at hB
    refine cpy_blk_str (g := b2) (o := 0) (dLen := 512) (dCap := 512) mk_39 hB (by rw [u8s_len, List.length_replicate]; omega) fun w' hB' hf' => ?_
    have hx' : Ext w w' := hf'.ext hx fun k _ e => by rw [e, hb2]; exact Nat.le_refl _
    refine ⟨?_, hx'⟩
    have e : splice (u8s (List.replicate 512 c)) 0 (u8s (s.take (min s.length 512))) = u8s (fillOf c s) := by
      have hm : s.take (min s.length 512) = s.take 512 := by
        rcases Nat.le_total s.length 512 with h | h
        · rw [Nat.min_eq_left h, List.take_of_length_le (Nat.le_refl _), List.take_of_length_le h]
        · rw [Nat.min_eq_right h]
      rw [hm]
      unfold splice fillOf
      rw [List.take_zero, List.nil_append, u8s_len, Nat.zero_add, u8s_drop, u8s_append, List.drop_replicate, List.length_take]
      congr 3
      omega
    rw [e] at hB'
    exact Own.ofBlk hB' (by rw [u8s_len, fillOf_len]; rfl) (by rw [hb2]; exact Nat.le_refl _) (by decide)

/-! ### a plan -/
theorem cloneF_ok (w : World) (p : Sl) (l : List Fall) (hl : p.len = l.length) (hp : AtO w p.a (fallC l)) (hn : p.a = none → p = nilSl) (hle : l.length ≤ 1000000) :
    Calls Try.prog 64 #[p.v] w (Ret r64 fun x w' => Own w' w.heap.size 27 3 x (fallC l) ∧ Ext w w') := by
  apply s64_calls
  refine ⟨fun h => ?_, fun _ => ?_⟩
  · have hna := Option.isNone_iff_eq_none.1 h
    have h0 := hn hna
    have : l = [] := by
      have h1 : p.len = 0 := by rw [h0]
      exact List.eq_nil_of_length_eq_zero (by omega)
    subst this
    exact ⟨Own.nil _ _ _ _, Ext.refl _⟩
  intro b2 w3 hb2 hw3
  have hx3 : Ext w w3 := Ext.new hw3
  have hone : ∀ u ∈ fallC l, u.oneCell' = true := by
    intro u hu
    obtain ⟨f, _, hf⟩ := List.mem_flatMap.1 hu
    exact fall_one f u hf
  refine app_ok (base := w.heap.size) mkz_47 rfl (by decide) (Own.made (e := 27) (size := 3) (c := 0) hb2 hw3 (Nat.le_refl _) rfl (by simp [maxLen])) (news := fallC l)
    (by rw [fallC_len, hl]) (Ext.atO hx3 hp) hone (by simp only [maxLen]; omega) (by simp only; omega) hx3.size ?_
  intro s' w' hl' ho' _ hB'
  exact ⟨by simpa using ho', hB' _ _ hx3 (Nat.le_refl _) hx3.size⟩
def Dk.plan (D : Dk) (l : List Fall) : Dk := { D with falls := l }
theorem plan_ok {w : World} {base : Nat → Prop} {pd bb : Nat} {D : Dk} (h : DAt w base pd bb D) (p : Sl) (l : List Fall) (hl : p.len = l.length) (hp : AtO w p.a (fallC l)) (hn : p.a = none → p = nilSl) (hle : l.length ≤ 1000000) (hB : ∀ k, w.heap.size ≤ k → base k)
    (hk : ∀ f ∈ l, 0 ≤ f.2.1 ∧ f.2.1 < 18446744073709551616) : Calls Try.prog 37 #[.pointer (dp pd), p.v] w (Ret r37 fun _ w' => DAt w' base pd bb (Dk.plan D l) ∧ Fr (Foot pd bb) w w') := by
  obtain ⟨c, r, sp, sf, h⟩ := h
  apply s37_calls
  refine ⟨fun _ => ?_, fun h => absurd h (by simp)⟩
  refine cR_of (cloneF_ok w p l hl hp hn hle) ?_
  rintro x w3 ⟨ho, hx⟩
  have h3 := h.ext hx
  refine ⟨_, rfl, ?_⟩
  show st1 _ _ _ _
  rw [add_plain]
  refine st1_blk h3.disk (Nat.succ_lt_succ (Nat.succ_lt_succ (Nat.zero_lt_succ _))) fun w6 hb hf => ?_
  refine ⟨⟨c, r, sp, x, ?_⟩, (Fr.of hx).trans (footFr_pd hf)⟩
  have hz := h.wf
  have hsl := Own.slAt ho (base := base) (pd := pd) (bb := bb) hB h.disk.lt h.rows.lt
  exact ⟨⟨hz.pos, hz.few, hz.bl, hz.pend, hz.plen, hk, hle, hz.ch⟩, h.hpd, h.hbb, h.hne, h.hcap, hb, h3.rows.fr hf h.hne.symm, h3.pend.fr hf fun k _ hk e => hk (.inl e), hsl.fr hf fun k _ hk e => hk (.inl e)⟩

/-! ### a clone -/
theorem oneCells_pend {l : List (Nat × List UInt8)} : ∀ u ∈ pendC l, u.oneCell' = true := by
  intro u hu
  obtain ⟨p, _, hp⟩ := List.mem_flatMap.1 hu
  exact one_pend u hp
def Dk.bare (D : Dk) : Dk := { D with falls := [] }
theorem clone_ok {w : World} {base : Nat → Prop} {pd bb : Nat} {D : Dk} (h : DAt w base pd bb D) : Calls Try.prog 36 #[.pointer (dp pd)] w (Ret r36 fun x w' => ∃ pd' bb', x = dp pd' ∧ DAt w' (Up w.heap.size) pd' bb' (Dk.bare D) ∧ Ext w w') := by
  obtain ⟨c, r, sp, sf, h⟩ := h
  have hwf := h.wf
  apply s36_calls
  refine ⟨fun h => absurd h (by simp), fun _ => ?_⟩
  refine ⟨_, rfl, [(⟨some ⟨bb, 0, none⟩, D.bl.length, c⟩ : Sl).v, sp.v, sf.v, .int .i64 D.changes, .bool D.down], rfl, h.disk.at rfl, rfl, ?_, ?_⟩
  · intro v hv
    simp only [List.mem_cons, List.not_mem_nil, or_false] at hv
    rcases hv with rfl | rfl | rfl | rfl | rfl <;> rfl
  intro b5 w6 hb5 hw6
  have hx6 : Ext w w6 := Ext.new hw6
  have h6 := h.ext hx6
  have hC6 : Blk w6 b5 93 _ := Blk.new hb5 hw6
  intro w7 hw7
  have hx7 : Ext w6 w7 := by subst hw7; exact Ext.drew _
  refine ⟨_, rfl, ⟨some ⟨bb, 0, none⟩, D.bl.length, c⟩, by rw [add_plain]; exact h6.disk.cell rfl, _, rfl, sp, by rw [add_plain]; exact h6.disk.cell rfl, ?_⟩
  -- the blocks
  have hbl : Calls Try.prog 62 #[(⟨some ⟨bb, 0, none⟩, D.bl.length, c⟩ : Sl).v] w7 (Ret r62 fun x w' => Own w' w7.heap.size 112 1024 x (u8s (flatB D.bl)) ∧ x.len = D.bl.length ∧ Ext w7 w') := by
    apply s62_calls
    refine ⟨fun h => absurd h (by simp), fun _ => ?_⟩
    intro b2 w3 hb2 hw3
    have hx3 : Ext w7 w3 := Ext.new hw3
    have hfl := flat_len hwf.bl
    have hfew := hwf.few
    refine app_ok (base := w7.heap.size) mk_90 (List.length_replicate ..) (by decide) (Own.made (e := 112) (size := 1024) (c := 0) hb2 hw3 (Nat.le_refl _) rfl (by simp [maxLen])) (news := u8s (flatB D.bl))
      (by rw [u8s_len, hfl, Nat.mul_comm]) (Blk.at ((h6.rows.ext hx7).ext hx3) (by rw [List.drop_zero, List.take_left])) (u8s_one _) (by simp only [maxLen]; omega) (by simp only; omega) hx3.size ?_
    intro s' w' hl' ho' _ hB'
    exact ⟨by simpa using ho', by simpa using hl', hB' _ _ hx3 (Nat.le_refl _) hx3.size⟩
  refine cR_of hbl ?_
  rintro x15 w16 ⟨ho15, hl15, hx16⟩
  refine ⟨hx7.trans hx16, ?_⟩
  have hpl := pend_len h.pend fun p hp => (hwf.pend p hp).2
  have hpe : Calls Try.prog 63 #[sp.v] w16 (Ret r63 fun x w' => Own w' w16.heap.size 116 513 x (pendC D.pend) ∧ Ext w16 w') := by
    have hat := Ext.atO (hx7.trans hx16) h6.pend.cells
    apply s63_calls
    refine ⟨fun hn => ?_, fun _ => ?_⟩
    · have h0 := h.pend.nil (Option.isNone_iff_eq_none.1 hn)
      have : D.pend = [] := by
        have h1 : sp.len = 0 := by rw [h0]
        exact List.eq_nil_of_length_eq_zero (by omega)
      rw [this]
      exact ⟨Own.nil _ _ _ _, Ext.refl _⟩
    intro b2 w3 hb2 hw3
    have hx3 : Ext w16 w3 := Ext.new hw3
    have hple := hwf.plen
    refine app_ok (base := w16.heap.size) mkz_91 (by rw [List.length_append, List.length_replicate, List.length_singleton]) (by decide) (Own.made (e := 116) (size := 513) (c := 0) hb2 hw3 (Nat.le_refl _) rfl (by simp [maxLen])) (news := pendC D.pend)
      h.pend.len (Ext.atO hx3 hat) oneCells_pend (by simp only [maxLen]; omega) (by simp only; omega) hx3.size ?_
    intro s' w' hl' ho' _ hB'
    exact ⟨by simpa using ho', hB' _ _ hx3 (Nat.le_refl _) hx3.size⟩
  refine cR_of hpe ?_
  rintro x18 w19 ⟨ho18, hx19⟩
  have hC19 := ((hC6.ext hx7).ext hx16).ext hx19
  rw [add_plain]
  refine st1_blk hC19 (Nat.zero_lt_succ _) fun w20 hb20 hf20 => ?_
  rw [add_plain]
  refine st1_blk hb20 (Nat.succ_lt_succ (Nat.zero_lt_succ _)) fun w21 hb21 hf21 => ?_
  rw [add_plain]
  refine st1_blk hb21 (Nat.succ_lt_succ (Nat.succ_lt_succ (Nat.zero_lt_succ _))) fun w22 hb22 hf22 => ?_
  have hf := (hf20.trans hf21).trans hf22
  obtain ⟨g, rest, hg, hgb, hgB, hgc⟩ := ho15.blk (by rw [hl15]; exact hwf.pos)
  have hsz6 : b5 < w7.heap.size := Nat.lt_of_lt_of_le hC6.lt hx7.size
  have hgne : g ≠ b5 := by omega
  have hx : Ext w w22 := hf.ext (((hx6.trans hx7).trans hx16).trans hx19) fun k _ e => by rw [e, hb5]; exact Nat.le_refl _
  refine ⟨b5, g, rfl, ⟨x15.cap, rest, x18, nilSl, ?_⟩, hx⟩
  have hw6s : w.heap.size ≤ w7.heap.size := (hx6.trans hx7).size
  have hg16 : g < w16.heap.size := hgB.lt
  refine ⟨⟨hwf.pos, hwf.few, hwf.bl, hwf.pend, hwf.plen, by simp [Dk.bare], by simp [Dk.bare], hwf.ch⟩, (by show w.heap.size ≤ b5; omega), (by show w.heap.size ≤ g; omega), fun e => hgne e.symm, by show D.bl.length ≤ _; rw [← hl15]; exact hgc, ?_, (hgB.ext hx19).fr hf (fun e => hgne e), ?_, SlAt.nilAt _ _ _ _ _⟩
  · have e15 : (⟨some ⟨g, 0, none⟩, D.bl.length, x15.cap⟩ : Sl) = x15 := by rw [← hg, ← hl15]
    show Blk w22 b5 93 [(⟨some ⟨g, 0, none⟩, D.bl.length, x15.cap⟩ : Sl).v, _, _, _, _]
    rw [e15]
    exact hb22
  · have hsl := Own.slAt ho18 (base := Up w.heap.size) (pd := b5) (bb := g) (fun k hk => by show w.heap.size ≤ k; have := hx16.size; omega) (by have := hx16.size; omega) hg16
    exact hsl.fr hf fun k _ hk e => hk (.inl e)
end Go.Proofs.Ytagkcbbbdlmcjaa
end
section
/- The check sums of both, over their typed readings. -/
set_option linter.unusedVariables false
set_option linter.unusedSimpArgs false
namespace Go.Proofs.Ytagkcbbbdlmcjaa
open Go.Lift Go.Lift.Crc Go.RowKit
theorem lt32 (a : R) : a.toNat < 4294967296 := a.isLt
theorem ofInt_toNat (a : R) : BitVec.ofInt 32 (a.toNat : Int) = a := by
  apply BitVec.eq_of_toNat_eq
  have := a.isLt
  simp
theorem xorI_u32 (a b : R) : xorI .u32 (a.toNat : Int) (b.toNat : Int) = ((a ^^^ b).toNat : Int) := by
  have h := (a ^^^ b).isLt
  show IntKind.u32.wrap ((BitVec.ofInt 32 (a.toNat : Int) ^^^ BitVec.ofInt 32 (b.toNat : Int)).toNat : Int) = _
  rw [ofInt_toNat, ofInt_toNat, wu32_eq (by omega) (by omega)]
theorem andI_one (a : R) : andI .u32 (a.toNat : Int) 1 = if a.getLsbD 0 then 1 else 0 := by
  show IntKind.u32.wrap ((BitVec.ofInt 32 (a.toNat : Int) &&& BitVec.ofInt 32 1).toNat : Int) = _
  rw [ofInt_toNat]
  have : a &&& BitVec.ofInt 32 1 = if a.getLsbD 0 then 1#32 else 0#32 := by
    apply BitVec.eq_of_getLsbD_eq
    intro i hi
    have h1 : (BitVec.ofInt 32 1) = 1#32 := by decide
    rw [h1, BitVec.getLsbD_and]
    rcases i with _ | i
    · cases a.getLsbD 0 <;> simp
    · cases a.getLsbD 0 <;> simp
  rw [this]
  cases a.getLsbD 0 <;> simp [wu32_mod]
theorem shrI_one (a : R) : shrI .u32 (a.toNat : Int) 1 = ((a >>> 1).toNat : Int) := by
  have h := a.isLt
  show Int.fdiv (a.toNat : Int) (2 ^ 1) = _
  rw [Int.fdiv_eq_ediv_of_nonneg _ (by decide)]
  simp [Nat.shiftRight_eq_div_pow]
theorem cmpl_u32 (a : R) : cmpl .u32 (a.toNat : Int) = ((~~~a).toNat : Int) := by
  have h := (~~~a).isLt
  show IntKind.u32.wrap ((BitVec.ofInt 32 4294967295 ^^^ BitVec.ofInt 32 (a.toNat : Int)).toNat : Int) = _
  rw [ofInt_toNat]
  have : BitVec.ofInt 32 4294967295 ^^^ a = ~~~a := by
    have h1 : BitVec.ofInt 32 4294967295 = BitVec.allOnes 32 := by decide
    rw [h1, BitVec.allOnes_xor]
  rw [this, wu32_eq (by omega) (by omega)]
theorem stp_int (a : R) : (if andI .u32 (a.toNat : Int) 1 = 1 then xorI .u32 (shrI .u32 (a.toNat : Int) 1) 3988292384 else shrI .u32 (a.toNat : Int) 1) = ((stp a).toNat : Int) := by
  rw [andI_one, shrI_one]
  have hp : (3988292384 : Int) = (poly.toNat : Int) := by decide
  rw [hp, xorI_u32]
  unfold stp
  cases a.getLsbD 0 <;> simp
theorem wide_nat (c : UInt8) : (wide c).toNat = c.toNat := by
  have := c.toBitVec.isLt
  have h2 : c.toNat = c.toBitVec.toNat := rfl
  simp [wide]
theorem u8_lt (c : UInt8) : c.toNat < 256 := c.toBitVec.isLt

theorem sum_ok (w : World) (p : Sl) (l : List (List UInt8)) (h : Parts w p l) (h1 : p.len ≤ maxLen) (h2 : ∀ b ∈ l, b.length ≤ maxLen) :
    Calls Try.prog 77 #[p.v] w (Ret r77 fun x w' => x = ((crc l.flatten).toNat : Int) ∧ w' = w) := by
  apply s77_calls
  have hpl := h.len
  simp only [maxLen] at h1 h2
  refine ⟨fun st w' => w = w' ∧ ∃ k, k ≤ l.length ∧ st.2 = (k : Int) ∧ st.1 = (((l.take k).flatten.foldl byteStep (BitVec.allOnes 32)).toNat : Int), fun st _ => l.length - st.2.toNat, ⟨rfl, 0, Nat.zero_le _, rfl, by simp⟩, ?_⟩
  rintro ⟨s, i⟩ w' ⟨rfl, k, hk, rfl, rfl⟩
  refine ⟨fun hlt => ?_, fun hge => ?_⟩
  · have hlt : k < l.length := by simpa [hpl] using hlt
    obtain ⟨a, sl, ha, hc, hb⟩ := h.get hlt
    have hbl : (l[k]).length ≤ 9223372036854775807 := h2 _ (List.getElem_mem hlt)
    have hbs := hb.1
    refine ⟨a, _, ha, by simp, by simp; omega, rfl, ?_⟩
    refine ⟨sl, by simpa using hc, ?_⟩
    refine ⟨fun st w' => w = w' ∧ ∃ j, j ≤ (l[k]).length ∧ st.2 = (j : Int) ∧ st.1 = ((((l[k]).take j).foldl byteStep ((l.take k).flatten.foldl byteStep (BitVec.allOnes 32))).toNat : Int), fun st _ => (l[k]).length - st.2.toNat, ⟨rfl, 0, Nat.zero_le _, rfl, by simp⟩, ?_⟩
    rintro ⟨s2, i2⟩ w2 ⟨rfl, j, hj, rfl, rfl⟩
    refine ⟨fun hlt2 => ?_, fun hge2 => ?_⟩
    · have hlt2 : j < (l[k]).length := by
        have := of_decide_eq_true hlt2
        simp only at this
        omega
      obtain ⟨a2, ha2, hc2⟩ := hb.get hlt2
      refine ⟨a2, _, ha2, by simp, by simp; omega, rfl, ?_⟩
      refine ⟨_, by simpa using hc2, ?_⟩
      generalize hr : ((l[k]).take j).foldl byteStep ((l.take k).flatten.foldl byteStep (BitVec.allOnes 32)) = r
      have hu := u8_lt (l[k])[j]
      refine ⟨fun st w' => w = w' ∧ ∃ i : Nat, i ≤ 8 ∧ st.2 = (i : Int) ∧ st.1 = ((iter i (r ^^^ wide (l[k])[j])).toNat : Int), fun st _ => 8 - st.2.toNat, ⟨rfl, 0, Nat.zero_le _, rfl, ?_⟩, ?_⟩
      · simp only [iter]
        rw [wu32_eq (by omega) (by omega), ← wide_nat, xorI_u32]
      rintro ⟨s3, i3⟩ w3 ⟨rfl, i, hi, rfl, rfl⟩
      refine ⟨fun hlt3 => ?_, fun hge3 => ?_⟩
      · have hlt3 : i < 8 := by have := of_decide_eq_true hlt3; simp only at this; omega
        have hstep := stp_int (iter i (r ^^^ wide (l[k])[j]))
        have hfin : ∀ x : Int, x = ((iter (i + 1) (r ^^^ wide (l[k])[j])).toNat : Int) →
            (w = w ∧ ∃ i', i' ≤ 8 ∧ (x, IntKind.i64.wrap ((i : Int) + 1)).2 = ((i' : Nat) : Int) ∧ (x, IntKind.i64.wrap ((i : Int) + 1)).1 = ((iter i' (r ^^^ wide (l[k])[j])).toNat : Int)) ∧ 8 - (x, IntKind.i64.wrap ((i : Int) + 1)).2.toNat < 8 - (((iter i (r ^^^ wide (l[k])[j])).toNat : Int), (i : Int)).2.toNat := by
          intro x hx
          simp only
          rw [w64_eq (by omega) (by omega)]
          exact ⟨⟨trivial, i + 1, by omega, by omega, hx⟩, by omega⟩
        refine ⟨fun ho => ?_, fun ho => ?_⟩
        · have ho := of_decide_eq_true ho
          simp only at ho
          rw [if_pos ho] at hstep
          exact hfin _ (by rw [hstep]; rfl)
        · have ho := of_decide_eq_false ho
          simp only at ho
          rw [if_neg ho] at hstep
          exact hfin _ (by rw [hstep]; rfl)
      · have hge3 : i = 8 := by
          have := of_decide_eq_false hge3
          simp only at this
          omega
        subst hge3
        refine ⟨⟨rfl, j + 1, by omega, ?_, ?_⟩, ?_⟩
        · simp only; rw [w64_eq (by omega) (by omega)]; omega
        · simp only
          rw [List.take_succ_eq_append_getElem hlt2, List.foldl_append, hr]
          rfl
        · simp only; rw [w64_eq (by omega) (by omega)]; omega
    · have hge2 : j = (l[k]).length := by
        have := of_decide_eq_false hge2
        simp only at this
        omega
      subst hge2
      refine ⟨⟨rfl, k + 1, by omega, ?_, ?_⟩, ?_⟩
      · simp only; rw [w64_eq (by omega) (by omega)]; omega
      · simp only
        rw [List.take_succ_eq_append_getElem hlt, List.flatten_append, List.foldl_append, List.take_length]
        simp
      · simp only; rw [w64_eq (by omega) (by omega)]; omega
  · have hge : k = l.length := by
      have := of_decide_eq_false hge
      simp only at this
      omega
    subst hge
    refine ⟨?_, rfl⟩
    simp only [List.take_length]
    rw [cmpl_u32, foldl_byteStep]
    rfl

theorem bits_get : ∀ (xs : List UInt8) (k : Nat) (h : k / 8 < xs.length), (bitsOf xs)[k]? = some ((wide xs[k / 8]).getLsbD (k % 8))
  | [], k, h => by simp at h
  | c :: xs, k, h => by
    rw [bits_cons]
    by_cases hk : k < 8
    · have h0 : k / 8 = 0 := by omega
      have h1 : k % 8 = k := by omega
      rw [List.getElem?_append_left (by simp [byteBits, bitsW]; omega)]
      simp [byteBits, bitsW, hk, h0, h1]
    · have hl : (byteBits c).length = 8 := by simp [byteBits, bitsW]
      rw [List.getElem?_append_right (by omega), hl]
      have e1 : k / 8 = (k - 8) / 8 + 1 := by omega
      have e2 : (k - 8) % 8 = k % 8 := by omega
      rw [bits_get xs (k - 8) (by simp at h; omega), e2]
      simp only [e1, List.getElem_cons_succ]
theorem tmod2 (a : R) : Int.tmod (a.toNat : Int) 2 = if a.getLsbD 0 then 1 else 0 := by
  rw [Int.tmod_eq_emod_of_nonneg (by omega)]
  have : a.getLsbD 0 = decide (a.toNat % 2 = 1) := by
    rw [BitVec.getLsbD, Nat.testBit_zero]
  rw [this]
  by_cases h : a.toNat % 2 = 1 <;> simp [h] <;> omega
theorem half (a : R) : IntKind.u32.wrap (Int.tdiv (a.toNat : Int) 2) = ((a >>> 1).toNat : Int) := by
  have := a.isLt
  rw [Int.tdiv_eq_ediv_of_nonneg (by omega), wu32_eq (by omega) (by omega)]
  simp [Nat.shiftRight_eq_div_pow]
theorem stpIn_int (a : R) (b : Bool) (x : Int) (hx : x = if b then 1 else 0) :
    (if Int.tmod (a.toNat : Int) 2 = x then IntKind.u32.wrap (Int.tdiv (a.toNat : Int) 2) else xorI .u32 (IntKind.u32.wrap (Int.tdiv (a.toNat : Int) 2)) 3988292384) = ((stpIn a b).toNat : Int) := by
  rw [tmod2, half]
  have hp : (3988292384 : Int) = (poly.toNat : Int) := by decide
  rw [hp, xorI_u32, hx]
  unfold stpIn
  cases a.getLsbD 0 <;> cases b <;> simp
theorem inbit (c : UInt8) (j : Nat) (hj : j < 8) : Int.tmod (IntKind.u32.wrap (shrI .u8 (c.toNat : Int) (j : Int))) 2 = if (wide c).getLsbD j then 1 else 0 := by
  have hc := u8_lt c
  have h2 : c.toNat / 2 ^ j < 256 := Nat.lt_of_le_of_lt (Nat.div_le_self _ _) hc
  have e1 : shrI .u8 (c.toNat : Int) (j : Int) = ((c.toNat / 2 ^ j : Nat) : Int) := by
    unfold shrI
    have : min (j : Int).toNat (IntKind.bits .u8) = j := by simp [IntKind.bits]; omega
    rw [this, Int.fdiv_eq_ediv_of_nonneg _ (by exact_mod_cast Nat.zero_le _)]
    push_cast
    rfl
  have e2 : (wide c).getLsbD j = decide (c.toNat / 2 ^ j % 2 = 1) := by
    rw [BitVec.getLsbD, wide_nat, Nat.testBit_eq_decide_div_mod_eq]
  rw [e1, e2]
  generalize c.toNat / 2 ^ j = m at h2 ⊢
  rw [wu32_eq (by omega) (by omega), Int.tmod_eq_emod_of_nonneg (by omega)]
  by_cases h : m % 2 = 1 <;> simp [h] <;> omega

theorem refsum_ok (w : World) (xs : List UInt8) (hl : xs.length ≤ 140737488355328) :
    Calls Try.prog 76 #[str xs] w (Ret r76 fun x w' => x = ((crc xs).toNat : Int) ∧ w = w') := by
  apply s76_calls
  have hbl := bits_length xs
  have h8 : IntKind.i64.wrap (8 * (xs.length : Int)) = 8 * (xs.length : Int) := w64_eq (by omega) (by omega)
  refine ⟨fun st w' => w = w' ∧ ∃ k : Nat, k ≤ 8 * xs.length ∧ st.2 = (k : Int) ∧ st.1 = ((reg (BitVec.allOnes 32) ((bitsOf xs).take k)).toNat : Int), fun st _ => 8 * xs.length - st.2.toNat, ⟨rfl, 0, Nat.zero_le _, rfl, by simp [reg]⟩, ?_⟩
  rintro ⟨s, i⟩ w' ⟨rfl, k, hk, rfl, rfl⟩
  simp only [h8]
  refine ⟨fun hlt => ?_, fun hge => ?_⟩
  · have hlt : k < 8 * xs.length := by have := of_decide_eq_true hlt; omega
    have hd : IntKind.i64.wrap (Int.tdiv (k : Int) 8) = ((k / 8 : Nat) : Int) := by
      rw [Int.tdiv_eq_ediv_of_nonneg (by omega), w64_eq (by omega) (by omega)]; omega
    have hm : IntKind.u64.wrap (Int.tmod (k : Int) 8) = ((k % 8 : Nat) : Int) := by
      rw [Int.tmod_eq_emod_of_nonneg (by omega), wu64_eq (by omega) (by omega)]; omega
    rw [hd, hm]
    have hkl : k / 8 < xs.length := by omega
    refine ⟨xs[k / 8], by omega, by rw [Int.toNat_natCast]; exact List.getElem?_eq_getElem hkl, by omega, ?_⟩
    have hb := inbit xs[k / 8] (k % 8) (by omega)
    have hstep := stpIn_int (reg (BitVec.allOnes 32) ((bitsOf xs).take k)) ((wide xs[k / 8]).getLsbD (k % 8)) _ hb
    have hnext : reg (BitVec.allOnes 32) ((bitsOf xs).take (k + 1)) = stpIn (reg (BitVec.allOnes 32) ((bitsOf xs).take k)) ((wide xs[k / 8]).getLsbD (k % 8)) := by
      have hg := bits_get xs k hkl
      have hkb : k < (bitsOf xs).length := by omega
      rw [List.getElem?_eq_getElem hkb] at hg
      rw [List.take_succ_eq_append_getElem hkb, reg_append, Option.some.inj hg]
      rfl
    rw [← hnext] at hstep
    have hfin : ∀ x : Int, x = ((reg (BitVec.allOnes 32) ((bitsOf xs).take (k + 1))).toNat : Int) →
        (w = w ∧ ∃ k' : Nat, k' ≤ 8 * xs.length ∧ IntKind.i64.wrap ((k : Int) + 1) = ((k' : Nat) : Int) ∧ x = ((reg (BitVec.allOnes 32) ((bitsOf xs).take k')).toNat : Int)) ∧ 8 * xs.length - (IntKind.i64.wrap ((k : Int) + 1)).toNat < 8 * xs.length - ((k : Nat) : Int).toNat := by
      intro x hx
      rw [w64_eq (by omega) (by omega)]
      exact ⟨⟨rfl, k + 1, by omega, by omega, hx⟩, by omega⟩
    refine ⟨fun ho => ?_, fun ho => ?_⟩
    · rw [if_neg (nd_t ho)] at hstep
      exact hfin _ hstep
    · rw [if_pos (nd_f ho)] at hstep
      exact hfin _ hstep
  · have hge : k = 8 * xs.length := by have := of_decide_eq_false hge; omega
    subst hge
    refine ⟨?_, trivial⟩
    rw [← hbl, List.take_length]
    unfold crc
    generalize reg (BitVec.allOnes 32) (bitsOf xs) = r
    have := r.isLt
    rw [wu32_eq (by omega) (by omega), BitVec.toNat_not]
    omega

theorem shrI_8 (a : R) (i : Nat) (hi : i < 4) : shrI .u32 ((a >>> (8 * i)).toNat : Int) 8 = ((a >>> (8 * (i + 1))).toNat : Int) := by
  unfold shrI
  rw [show min (8 : Int).toNat (IntKind.bits .u32) = 8 from rfl, Int.fdiv_eq_ediv_of_nonneg _ (by decide)]
  rw [show 8 * (i + 1) = 8 * i + 8 from by omega, BitVec.shiftRight_add]
  simp [Nat.shiftRight_eq_div_pow]
theorem low8 (a : R) : IntKind.u8.wrap (a.toNat : Int) = ((⟨a.setWidth 8⟩ : UInt8).toNat : Int) := by
  rw [wu8_mod]
  have : (⟨a.setWidth 8⟩ : UInt8).toNat = a.toNat % 256 := by
    show (a.setWidth 8).toNat = _
    simp
  rw [this]
  omega
theorem le4_get (a : R) (i : Nat) (hi : i < 4) : (le4 a).take (i + 1) = (le4 a).take i ++ [⟨(a >>> (8 * i)).setWidth 8⟩] := by
  have : i = 0 ∨ i = 1 ∨ i = 2 ∨ i = 3 := by omega
  rcases this with rfl | rfl | rfl | rfl <;> simp [le4]
theorem le4_len (a : R) : (le4 a).length = 4 := rfl
theorem sealed_len (bs : List UInt8) : (sealed bs).length = bs.length + 4 := by simp [sealed, le4_len]

theorem parts_one {w w' : World} {b : Nat} {p : Sl} {bs : List UInt8} {e : TypeId} (hb : b = w.heap.size) (hw : w' = w.alloc (.cells [p.v].toArray e)) (hp : Bytes w p bs) :
    Parts w' ⟨some ⟨b, 0, none⟩, 1, 1⟩ [bs] := by
  refine ⟨[p], rfl, rfl, ?_, ?_⟩
  · exact At.new hb hw
  · intro k s b hs hb'
    rcases k with _ | k
    · simp at hs hb'
      subst hs; subst hb'
      exact hp.ext (Ext.new hw)
    · simp at hs

theorem refseal_ok (w : World) (xs : List UInt8) (hl : xs.length ≤ 70368744177664) :
    Calls Try.prog 52 #[str xs] w (Ret r52 fun x w' => x = sealed xs ∧ Ext w w') := by
  apply s52_calls
  refine cR_of (refsum_ok w xs (by omega)) ?_
  rintro x w2 ⟨rfl, rfl⟩
  intro b3 w4 hb3 hw4
  have hc := (crc xs).isLt
  have e0 : IntKind.u8.wrap ((crc xs).toNat : Int) = (((le4 (crc xs))[0]'(by simp [le4])).toNat : Int) := low8 _
  have ed : ∀ n : Nat, IntKind.u32.wrap (Int.tdiv ((crc xs).toNat : Int) ((2 ^ n : Nat) : Int)) = ((crc xs >>> n).toNat : Int) := by
    intro n
    have h1 : (crc xs).toNat / 2 ^ n < 4294967296 := Nat.lt_of_le_of_lt (Nat.div_le_self _ _) hc
    rw [Int.tdiv_eq_ediv_of_nonneg (by omega), ← Int.natCast_ediv]
    rw [show (crc xs >>> n).toNat = (crc xs).toNat / 2 ^ n from by simp [Nat.shiftRight_eq_div_pow]]
    generalize (crc xs).toNat / 2 ^ n = m at h1 ⊢
    rw [wu32_eq (by omega) (by omega)]
  have e1 := ed 8
  have e2 := ed 16
  have e3 := ed 24
  simp only [Nat.reducePow] at e1 e2 e3
  refine ⟨le4 (crc xs), rfl, ?_, by simp [le4_len]; omega, rfl, Ext.new hw4⟩
  refine At.new hb3 (e := 5) ?_
  rw [hw4, low8, show (256 : Int) = ((256 : Nat) : Int) from rfl, show (65536 : Int) = ((65536 : Nat) : Int) from rfl, show (16777216 : Int) = ((16777216 : Nat) : Int) from rfl, e1, e2, e3, low8, low8, low8]
  rfl

end Go.Proofs.Ytagkcbbbdlmcjaa
end
section
/- The typed readings of the functions, and that the program meets each: written by gen.py (a program of this session). -/
set_option linter.unusedVariables false
set_option linter.unusedSimpArgs false
namespace Go.Proofs.Ytagkcbbbdlmcjaa
open Go.Lift
set_option maxRecDepth 100000 in
set_option maxHeartbeats 4000000 in
theorem s47_calls (K : Int × Int → World → Prop) (p0 : Sl) (p1 : Int) (w : World) (h : s47 K p0 p1 w) :
    Calls Try.prog 47 #[Sl.v p0, .int .i64 p1] w (Ret r47 K) := by
  unfold s47 at h
  refine calls_of_CW (n := 49) Try.func47 rfl rfl rfl ?_
  refine CW.seq ?_
  refine CW.region ?_
  refine RL.opS trivial rfl (OpW.assign (v := .int .u64 0) rfl ?_)
  refine RL.opS trivial rfl (OpW.assign (v := .int .i64 0) rfl ?_)
  refine RL.nil ?_
  refine CW.seq ?_
  obtain ⟨w1, hw1_⟩ : ∃ w_, w_ = w.drew := ⟨_, rfl⟩
  have h := h w1 hw1_
  have hx2 : Ext w w1 := by rw [hw1_]; exact Ext.drew _
  refine CW.draws (m := 8) (listed := #[false, false, false, false, false, false, false, false]) mixed [] (Ext w) rfl rfl ?_
  rw [← hw1_]
  refine DL.takeP (listed' := #[true, false, false, false, false, false, false, false]) (v := Sl.v p0) 0 rfl rfl (by kernel_rfl) rfl trivial rfl (fun w_ K_ h_ => OpW.move (v := Sl.v p0) rfl h_) ?_
  obtain ⟨⟨h1, h2, h3⟩, h⟩ := h
  refine DL.takeP (listed' := #[true, true, false, false, false, false, false, false]) (v := Sl.v (p0.cut 1 8 16 p0.cap)) 1 rfl rfl (by kernel_rfl) rfl trivial rfl (fun w_ K_ h_ => OpW.sliceSl (l := 8) (h := 16) slice_39 rfl ⟨_, rfl⟩ ⟨_, rfl⟩ h1 h2 (.inr h3) h_) ?_
  refine DL.takeP (listed' := #[true, true, false, true, false, false, false, false]) (v := Sl.v p0) 3 rfl rfl (by kernel_rfl) rfl trivial rfl (fun w_ K_ h_ => OpW.move (v := Sl.v p0) rfl h_) ?_
  obtain ⟨⟨h1, h2, h3⟩, h⟩ := h
  refine DL.takeP (listed' := #[true, true, false, true, true, false, false, false]) (v := Sl.v (p0.cut 1 16 24 p0.cap)) 4 rfl rfl (by kernel_rfl) rfl trivial rfl (fun w_ K_ h_ => OpW.sliceSl (l := 16) (h := 24) slice_39 rfl ⟨_, rfl⟩ ⟨_, rfl⟩ h1 h2 (.inr h3) h_) ?_
  refine DL.execS (listed' := #[true, true, true, true, true, false, false, false]) 2 rfl (by kernel_rfl) rfl trivial rfl (OpW.callR (al := [Sl.v (p0.cut 1 8 16 p0.cap)]) Try.func69 fb_69 fn_69 rfl h (fun x3 w4 h => ?_))
  refine ⟨(fun h_ => absurd h_ (by decide)), ?_⟩
  refine DL.execS (listed' := #[true, true, true, true, true, true, false, false]) 5 rfl (by kernel_rfl) rfl trivial rfl (OpW.callR (al := [Sl.v (p0.cut 1 16 24 p0.cap)]) Try.func69 fb_69 fn_69 rfl h (fun x5 w6 h => ?_))
  refine ⟨(fun h_ => absurd h_ (by decide)), ?_⟩
  refine DL.takeP (listed' := #[true, true, true, true, true, true, true, false]) (v := .int .u64 x3) 6 rfl rfl (by kernel_rfl) rfl trivial rfl (fun w_ K_ h_ => OpW.assign (v := .int .u64 x3) rfl h_) ?_
  refine DL.takeP (listed' := #[true, true, true, true, true, true, true, true]) (v := .int .u64 x5) 7 rfl rfl (by kernel_rfl) rfl trivial rfl (fun w_ K_ h_ => OpW.assign (v := .int .u64 x5) rfl h_) ?_
  refine DL.done (by kernel_rfl) ?_
  refine CW.seq ?_
  refine CW.seq ?_
  obtain ⟨w7, hw7_⟩ : ∃ w_, w_ = w6.drew := ⟨_, rfl⟩
  have h := h w7 hw7_
  have hx8 : Ext w6 w7 := by rw [hw7_]; exact Ext.drew _
  refine CW.draws (m := 32) (listed := #[false, false, false, false, false, false, false, false, false, false, false, false, false, false, false, false, false, false, false, false, false, false, false, false, false, false, false, false, false, false, false, false]) mixed [0, 1, 2, 3, 4, 5, 6, 7, 8, 9, 10, 11, 12, 13, 14, 15, 16, 17, 18, 19, 20, 21, 22, 23, 24, 25, 26, 27, 28, 29, 30, 31] (Ext w6) rfl rfl ?_
  rw [← hw7_]
  refine DL.takeP (listed' := #[true, false, false, false, false, false, false, false, false, false, false, false, false, false, false, false, false, false, false, false, false, false, false, false, false, false, false, false, false, false, false, false]) (v := Sl.v p0) 0 rfl rfl (by kernel_rfl) rfl trivial rfl (fun w_ K_ h_ => OpW.move (v := Sl.v p0) rfl h_) ?_
  obtain ⟨⟨h1, h2, h3⟩, h⟩ := h
  refine DL.takeP (listed' := #[true, true, false, false, false, false, false, false, false, false, false, false, false, false, false, false, false, false, false, false, false, false, false, false, false, false, false, false, false, false, false, false]) (v := Sl.v (p0.cut 1 0 24 p0.cap)) 1 rfl rfl (by kernel_rfl) rfl trivial rfl (fun w_ K_ h_ => OpW.sliceSl (l := 0) (h := 24) slice_39 rfl rfl ⟨_, rfl⟩ h1 h2 (.inr h3) h_) ?_
  obtain ⟨x9, h1, h2, h⟩ := h
  refine DL.takeK (listed' := #[true, true, true, false, false, false, false, false, false, false, false, false, false, false, false, false, false, false, false, false, false, false, false, false, false, false, false, false, false, false, false, false]) (v := str x9) 2 rfl rfl (by kernel_rfl) (by kernel_rfl) rfl trivial rfl hx8 (fun w_ hS_ K_ h_ => OpW.b2s bsl_39 str_9 rfl h1 (hS_.atO h2) h_) ?_
  refine DL.takeP (listed' := #[true, true, true, true, false, false, false, false, false, false, false, false, false, false, false, false, false, false, false, false, false, false, false, false, false, false, false, false, false, false, false, false]) (v := .int .u64 x3) 3 rfl rfl (by kernel_rfl) rfl trivial rfl (fun w_ K_ h_ => OpW.move (v := .int .u64 x3) rfl h_) ?_
  refine DL.takeP (listed' := #[true, true, true, true, true, false, false, false, false, false, false, false, false, false, false, false, false, false, false, false, false, false, false, false, false, false, false, false, false, false, false, false]) (v := .int .u64 x5) 4 rfl rfl (by kernel_rfl) rfl trivial rfl (fun w_ K_ h_ => OpW.move (v := .int .u64 x5) rfl h_) ?_
  refine DL.execS (listed' := #[true, true, true, true, true, true, false, false, false, false, false, false, false, false, false, false, false, false, false, false, false, false, false, false, false, false, false, false, false, false, false, false]) 5 rfl (by kernel_rfl) rfl trivial rfl (OpW.callR (al := [.int .u64 x3, .int .u64 x5]) Try.func70 fb_70 fn_70 rfl h (fun x10 w11 h => ?_))
  obtain ⟨hx12, h⟩ := h
  refine ⟨(fun _ _ => hx12), ?_⟩
  obtain ⟨x13, h1, h2, h⟩ := h
  refine DL.execS (listed' := #[true, true, true, true, true, true, true, false, false, false, false, false, false, false, false, false, false, false, false, false, false, false, false, false, false, false, false, false, false, false, false, false]) 6 rfl (by kernel_rfl) rfl trivial rfl (OpW.b2s bsl_39 str_9 rfl h1 h2 ?_)
  refine ⟨(fun _ _ => hx12), ?_⟩
  refine DL.takeP (listed' := #[true, true, true, true, true, true, true, true, false, false, false, false, false, false, false, false, false, false, false, false, false, false, false, false, false, false, false, false, false, false, false, false]) (v := .bool (!decide (x9 = x13))) 7 rfl rfl (by kernel_rfl) rfl trivial rfl (fun w_ K_ h_ => OpW.strCmp (b := !decide (x9 = x13)) rfl rfl rfl h_) ?_
  refine DL.takeP (listed' := #[true, true, true, true, true, true, true, true, true, false, false, false, false, false, false, false, false, false, false, false, false, false, false, false, false, false, false, false, false, false, false, false]) (v := .bool (!decide (x9 = x13))) 8 rfl rfl (by kernel_rfl) rfl trivial rfl (fun w_ K_ h_ => OpW.move (v := .bool (!decide (x9 = x13))) rfl h_) ?_
  refine jn_elim h ?_; clear h; intro k63 hk64 h
  refine DL.cut (A := Bool) (fun s23 ρ => ρ 31 = .bool s23 ∧ ρ 1 = .int .i64 p1 ∧ ρ 6 = .int .u64 x3 ∧ ρ 7 = .int .u64 x5) k63 14 #[true, true, true, true, true, true, true, true, true, true, true, true, true, true, true, true, true, true, false, false, false, false, false, false, false, false, false, false, false, false, false, false] ?_ ?_
  · rintro s23 ρ w24 ⟨e26, e27, e28, e29⟩ h
    subst hk64
    refine DL.takeP (listed' := #[true, true, true, true, true, true, true, true, true, true, true, true, true, true, true, true, true, true, true, false, false, false, false, false, false, false, false, false, false, false, false, false]) (v := .bool s23) 18 rfl rfl (by kernel_rfl) rfl trivial rfl (fun w_ K_ h_ => OpW.move (v := .bool s23) e26 h_) ?_
    refine jn_elim h ?_; clear h; intro k61 hk62 h
    refine DL.cut (A := Bool) (fun s32 ρ => ρ 35 = .bool s32 ∧ ρ 1 = .int .i64 p1 ∧ ρ 6 = .int .u64 x3 ∧ ρ 7 = .int .u64 x5) k61 10 #[true, true, true, true, true, true, true, true, true, true, true, true, true, true, true, true, true, true, true, true, true, true, false, false, false, false, false, false, false, false, false, false] ?_ ?_
    · rintro s32 ρ w33 ⟨e35, e36, e37, e38⟩ h
      subst hk62
      refine DL.takeP (listed' := #[true, true, true, true, true, true, true, true, true, true, true, true, true, true, true, true, true, true, true, true, true, true, true, false, false, false, false, false, false, false, false, false]) (v := .bool s32) 22 rfl rfl (by kernel_rfl) rfl trivial rfl (fun w_ K_ h_ => OpW.move (v := .bool s32) e35 h_) ?_
      refine jn_elim h ?_; clear h; intro k59 hk60 h
      refine DL.cut (A := Bool) (fun s41 ρ => ρ 39 = .bool s41 ∧ ρ 1 = .int .i64 p1 ∧ ρ 6 = .int .u64 x3 ∧ ρ 7 = .int .u64 x5) k59 6 #[true, true, true, true, true, true, true, true, true, true, true, true, true, true, true, true, true, true, true, true, true, true, true, true, true, true, false, false, false, false, false, false] ?_ ?_
      · rintro s41 ρ w42 ⟨e44, e45, e46, e47⟩ h
        subst hk60
        refine DL.takeP (listed' := #[true, true, true, true, true, true, true, true, true, true, true, true, true, true, true, true, true, true, true, true, true, true, true, true, true, true, true, false, false, false, false, false]) (v := .bool s41) 26 rfl rfl (by kernel_rfl) rfl trivial rfl (fun w_ K_ h_ => OpW.move (v := .bool s41) e44 h_) ?_
        refine jn_elim h ?_; clear h; intro k57 hk58 h
        refine DL.cut (A := Bool) (fun s50 ρ => ρ 45 = .bool s50 ∧ ρ 6 = .int .u64 x3 ∧ ρ 7 = .int .u64 x5) k57 0 #[true, true, true, true, true, true, true, true, true, true, true, true, true, true, true, true, true, true, true, true, true, true, true, true, true, true, true, true, true, true, true, true] ?_ ?_
        · rintro s50 ρ w51 ⟨e53, e54, e55⟩ h
          subst hk58
          refine DL.done (by kernel_rfl) ?_
          obtain ⟨ha, hc⟩ := h
          refine CW.cond (b := s50) e53 (fun hb56 => ?_) (fun hb56 => ?_)
          · have h := ha hb56; clear ha hc
            refine CW.seq ?_
            refine CW.region ?_
            refine RL.opS trivial rfl (OpW.assign (v := .int .u64 0) rfl ?_)
            refine RL.opS trivial rfl (OpW.assign (v := .int .i64 0) rfl ?_)
            refine RL.nil ?_
            refine CW.ret ?_
            exact ret_intro (res2 rfl rfl rfl) ⟨(0, 0), rfl, h⟩
          · have h := hc hb56; clear ha hc
            refine CW.skip ?_
            refine CW.seq ?_
            refine CW.region ?_
            refine RL.opS trivial rfl (OpW.move (v := .int .u64 x3) e54 ?_)
            refine RL.opS trivial rfl (OpW.move (v := .int .u64 x5) e55 ?_)
            refine RL.opS trivial rfl (OpW.convInt (a := x5) int_25 int_3 rfl ?_)
            refine RL.opS trivial rfl (OpW.assign (v := .int .u64 x3) rfl ?_)
            refine RL.opS trivial rfl (OpW.assign (v := .int .i64 (IntKind.i64.wrap x5)) rfl ?_)
            refine RL.nil ?_
            refine CW.ret ?_
            exact ret_intro (res2 rfl rfl rfl) ⟨(x3, (IntKind.i64.wrap x5)), rfl, h⟩
        · intro hJJ48; clear hk58
          obtain ⟨ha, hc⟩ := h
          rcases Bool.eq_false_or_eq_true s41 with hb49 | hb49
          · have h := ha hb49; clear ha hc
            refine DL.skipP (listed' := #[true, true, true, true, true, true, true, true, true, true, true, true, true, true, true, true, true, true, true, true, true, true, true, true, true, true, true, true, false, false, false, false]) 27 rfl (by kernel_rfl) rfl (notWanted_of rfl rfl hb49) rfl ?_
            refine DL.skipP (listed' := #[true, true, true, true, true, true, true, true, true, true, true, true, true, true, true, true, true, true, true, true, true, true, true, true, true, true, true, true, true, false, false, false]) 28 rfl (by kernel_rfl) rfl (notWanted_of rfl rfl hb49) rfl ?_
            refine DL.skipP (listed' := #[true, true, true, true, true, true, true, true, true, true, true, true, true, true, true, true, true, true, true, true, true, true, true, true, true, true, true, true, true, true, false, false]) 29 rfl (by kernel_rfl) rfl (notWanted_of rfl rfl hb49) rfl ?_
            refine DL.skipP (listed' := #[true, true, true, true, true, true, true, true, true, true, true, true, true, true, true, true, true, true, true, true, true, true, true, true, true, true, true, true, true, true, true, false]) 30 rfl (by kernel_rfl) rfl (notWanted_of rfl rfl hb49) rfl ?_
            refine DL.takeP (listed' := #[true, true, true, true, true, true, true, true, true, true, true, true, true, true, true, true, true, true, true, true, true, true, true, true, true, true, true, true, true, true, true, true]) (v := .bool true) 31 rfl rfl (by kernel_rfl) rfl trivial rfl (fun w_ K_ h_ => OpW.pick (b := true) (v := .bool true) (congrArg Value.bool hb49) rfl h_) ?_
            exact hJJ48 _ _ ⟨true, ⟨rfl, e46, e47⟩, h⟩
          · have h := hc hb49; clear ha hc
            refine DL.takeP (listed' := #[true, true, true, true, true, true, true, true, true, true, true, true, true, true, true, true, true, true, true, true, true, true, true, true, true, true, true, true, false, false, false, false]) (v := .int .u64 x5) 27 rfl rfl (by kernel_rfl) rfl (wanted_of rfl rfl hb49) rfl (fun w_ K_ h_ => OpW.move (v := .int .u64 x5) e47 h_) ?_
            refine DL.takeP (listed' := #[true, true, true, true, true, true, true, true, true, true, true, true, true, true, true, true, true, true, true, true, true, true, true, true, true, true, true, true, true, false, false, false]) (v := .int .i64 p1) 28 rfl rfl (by kernel_rfl) rfl (wanted_of rfl rfl hb49) rfl (fun w_ K_ h_ => OpW.move (v := .int .i64 p1) e45 h_) ?_
            refine DL.takeP (listed' := #[true, true, true, true, true, true, true, true, true, true, true, true, true, true, true, true, true, true, true, true, true, true, true, true, true, true, true, true, true, true, false, false]) (v := .int .u64 (IntKind.u64.wrap p1)) 29 rfl rfl (by kernel_rfl) rfl (wanted_of rfl rfl hb49) rfl (fun w_ K_ h_ => OpW.convInt (a := p1) int_3 int_25 rfl h_) ?_
            refine DL.takeP (listed' := #[true, true, true, true, true, true, true, true, true, true, true, true, true, true, true, true, true, true, true, true, true, true, true, true, true, true, true, true, true, true, true, false]) (v := .bool (decide ((IntKind.u64.wrap p1) < x5))) 30 rfl rfl (by kernel_rfl) rfl (wanted_of rfl rfl hb49) rfl (fun w_ K_ h_ => OpW.bin (k := .u64) (a := x5) (b := (IntKind.u64.wrap p1)) (v := .bool (decide ((IntKind.u64.wrap p1) < x5))) rfl rfl rfl h_) ?_
            refine DL.takeP (listed' := #[true, true, true, true, true, true, true, true, true, true, true, true, true, true, true, true, true, true, true, true, true, true, true, true, true, true, true, true, true, true, true, true]) (v := .bool (decide ((IntKind.u64.wrap p1) < x5))) 31 rfl rfl (by kernel_rfl) rfl trivial rfl (fun w_ K_ h_ => OpW.pick (b := false) (v := .bool (decide ((IntKind.u64.wrap p1) < x5))) (congrArg Value.bool hb49) rfl h_) ?_
            exact hJJ48 _ _ ⟨(decide ((IntKind.u64.wrap p1) < x5)), ⟨rfl, e46, e47⟩, h⟩
      · intro hJJ39; clear hk60
        obtain ⟨ha, hc⟩ := h
        rcases Bool.eq_false_or_eq_true s32 with hb40 | hb40
        · have h := ha hb40; clear ha hc
          refine DL.skipP (listed' := #[true, true, true, true, true, true, true, true, true, true, true, true, true, true, true, true, true, true, true, true, true, true, true, true, false, false, false, false, false, false, false, false]) 23 rfl (by kernel_rfl) rfl (notWanted_of rfl rfl hb40) rfl ?_
          refine DL.skipP (listed' := #[true, true, true, true, true, true, true, true, true, true, true, true, true, true, true, true, true, true, true, true, true, true, true, true, true, false, false, false, false, false, false, false]) 24 rfl (by kernel_rfl) rfl (notWanted_of rfl rfl hb40) rfl ?_
          refine DL.takeP (listed' := #[true, true, true, true, true, true, true, true, true, true, true, true, true, true, true, true, true, true, true, true, true, true, true, true, true, true, false, false, false, false, false, false]) (v := .bool true) 25 rfl rfl (by kernel_rfl) rfl trivial rfl (fun w_ K_ h_ => OpW.pick (b := true) (v := .bool true) (congrArg Value.bool hb40) rfl h_) ?_
          exact hJJ39 _ _ ⟨true, ⟨rfl, e36, e37, e38⟩, h⟩
        · have h := hc hb40; clear ha hc
          refine DL.takeP (listed' := #[true, true, true, true, true, true, true, true, true, true, true, true, true, true, true, true, true, true, true, true, true, true, true, true, false, false, false, false, false, false, false, false]) (v := .int .u64 x3) 23 rfl rfl (by kernel_rfl) rfl (wanted_of rfl rfl hb40) rfl (fun w_ K_ h_ => OpW.move (v := .int .u64 x3) e37 h_) ?_
          refine DL.takeP (listed' := #[true, true, true, true, true, true, true, true, true, true, true, true, true, true, true, true, true, true, true, true, true, true, true, true, true, false, false, false, false, false, false, false]) (v := .bool (decide (4611686018427387904 < x3))) 24 rfl rfl (by kernel_rfl) rfl (wanted_of rfl rfl hb40) rfl (fun w_ K_ h_ => OpW.bin (k := .u64) (a := x3) (b := 4611686018427387904) (v := .bool (decide (4611686018427387904 < x3))) rfl rfl rfl h_) ?_
          refine DL.takeP (listed' := #[true, true, true, true, true, true, true, true, true, true, true, true, true, true, true, true, true, true, true, true, true, true, true, true, true, true, false, false, false, false, false, false]) (v := .bool (decide (4611686018427387904 < x3))) 25 rfl rfl (by kernel_rfl) rfl trivial rfl (fun w_ K_ h_ => OpW.pick (b := false) (v := .bool (decide (4611686018427387904 < x3))) (congrArg Value.bool hb40) rfl h_) ?_
          exact hJJ39 _ _ ⟨(decide (4611686018427387904 < x3)), ⟨rfl, e36, e37, e38⟩, h⟩
    · intro hJJ30; clear hk62
      obtain ⟨ha, hc⟩ := h
      rcases Bool.eq_false_or_eq_true s23 with hb31 | hb31
      · have h := ha hb31; clear ha hc
        refine DL.skipP (listed' := #[true, true, true, true, true, true, true, true, true, true, true, true, true, true, true, true, true, true, true, true, false, false, false, false, false, false, false, false, false, false, false, false]) 19 rfl (by kernel_rfl) rfl (notWanted_of rfl rfl hb31) rfl ?_
        refine DL.skipP (listed' := #[true, true, true, true, true, true, true, true, true, true, true, true, true, true, true, true, true, true, true, true, true, false, false, false, false, false, false, false, false, false, false, false]) 20 rfl (by kernel_rfl) rfl (notWanted_of rfl rfl hb31) rfl ?_
        refine DL.takeP (listed' := #[true, true, true, true, true, true, true, true, true, true, true, true, true, true, true, true, true, true, true, true, true, true, false, false, false, false, false, false, false, false, false, false]) (v := .bool true) 21 rfl rfl (by kernel_rfl) rfl trivial rfl (fun w_ K_ h_ => OpW.pick (b := true) (v := .bool true) (congrArg Value.bool hb31) rfl h_) ?_
        exact hJJ30 _ _ ⟨true, ⟨rfl, e27, e28, e29⟩, h⟩
      · have h := hc hb31; clear ha hc
        refine DL.takeP (listed' := #[true, true, true, true, true, true, true, true, true, true, true, true, true, true, true, true, true, true, true, true, false, false, false, false, false, false, false, false, false, false, false, false]) (v := .int .u64 x3) 19 rfl rfl (by kernel_rfl) rfl (wanted_of rfl rfl hb31) rfl (fun w_ K_ h_ => OpW.move (v := .int .u64 x3) e28 h_) ?_
        refine DL.takeP (listed' := #[true, true, true, true, true, true, true, true, true, true, true, true, true, true, true, true, true, true, true, true, true, false, false, false, false, false, false, false, false, false, false, false]) (v := .bool (decide (x3 < 1))) 20 rfl rfl (by kernel_rfl) rfl (wanted_of rfl rfl hb31) rfl (fun w_ K_ h_ => OpW.bin (k := .u64) (a := x3) (b := 1) (v := .bool (decide (x3 < 1))) rfl rfl rfl h_) ?_
        refine DL.takeP (listed' := #[true, true, true, true, true, true, true, true, true, true, true, true, true, true, true, true, true, true, true, true, true, true, false, false, false, false, false, false, false, false, false, false]) (v := .bool (decide (x3 < 1))) 21 rfl rfl (by kernel_rfl) rfl trivial rfl (fun w_ K_ h_ => OpW.pick (b := false) (v := .bool (decide (x3 < 1))) (congrArg Value.bool hb31) rfl h_) ?_
        exact hJJ30 _ _ ⟨(decide (x3 < 1)), ⟨rfl, e27, e28, e29⟩, h⟩
  · intro hJJ15; clear hk64
    obtain ⟨ha, hc⟩ := h
    rcases Bool.eq_false_or_eq_true (!decide (x9 = x13)) with hb16 | hb16
    · have h := ha hb16; clear ha hc
      refine DL.skipP (listed' := #[true, true, true, true, true, true, true, true, true, true, false, false, false, false, false, false, false, false, false, false, false, false, false, false, false, false, false, false, false, false, false, false]) 9 rfl (by kernel_rfl) rfl (notWanted_of rfl rfl hb16) rfl ?_
      refine DL.skipP (listed' := #[true, true, true, true, true, true, true, true, true, true, true, false, false, false, false, false, false, false, false, false, false, false, false, false, false, false, false, false, false, false, false, false]) 10 rfl (by kernel_rfl) rfl (notWanted_of rfl rfl hb16) rfl ?_
      refine DL.skipP (listed' := #[true, true, true, true, true, true, true, true, true, true, true, true, false, false, false, false, false, false, false, false, false, false, false, false, false, false, false, false, false, false, false, false]) 11 rfl (by kernel_rfl) rfl (notWanted_of rfl rfl hb16) rfl ?_
      refine DL.skipP (listed' := #[true, true, true, true, true, true, true, true, true, true, true, true, true, false, false, false, false, false, false, false, false, false, false, false, false, false, false, false, false, false, false, false]) 12 rfl (by kernel_rfl) rfl (notWanted_of rfl rfl hb16) rfl ?_
      refine DL.skipP (listed' := #[true, true, true, true, true, true, true, true, true, true, true, true, true, true, false, false, false, false, false, false, false, false, false, false, false, false, false, false, false, false, false, false]) 13 rfl (by kernel_rfl) rfl (notWanted_of rfl rfl hb16) rfl ?_
      refine DL.skipX (listed' := #[true, true, true, true, true, true, true, true, true, true, true, true, true, true, true, false, false, false, false, false, false, false, false, false, false, false, false, false, false, false, false, false]) 14 rfl (by kernel_rfl) rfl (notWanted_of rfl rfl hb16) rfl ?_
      refine DL.skipX (listed' := #[true, true, true, true, true, true, true, true, true, true, true, true, true, true, true, true, false, false, false, false, false, false, false, false, false, false, false, false, false, false, false, false]) 15 rfl (by kernel_rfl) rfl (notWanted_of rfl rfl hb16) rfl ?_
      refine DL.skipP (listed' := #[true, true, true, true, true, true, true, true, true, true, true, true, true, true, true, true, true, false, false, false, false, false, false, false, false, false, false, false, false, false, false, false]) 16 rfl (by kernel_rfl) rfl (notWanted_of rfl rfl hb16) rfl ?_
      refine DL.takeP (listed' := #[true, true, true, true, true, true, true, true, true, true, true, true, true, true, true, true, true, true, false, false, false, false, false, false, false, false, false, false, false, false, false, false]) (v := .bool true) 17 rfl rfl (by kernel_rfl) rfl trivial rfl (fun w_ K_ h_ => OpW.pick (b := true) (v := .bool true) (congrArg Value.bool hb16) rfl h_) ?_
      exact hJJ15 _ _ ⟨true, ⟨rfl, rfl, rfl, rfl⟩, h⟩
    · have h := hc hb16; clear ha hc
      refine DL.takeP (listed' := #[true, true, true, true, true, true, true, true, true, true, false, false, false, false, false, false, false, false, false, false, false, false, false, false, false, false, false, false, false, false, false, false]) (v := Sl.v p0) 9 rfl rfl (by kernel_rfl) rfl (wanted_of rfl rfl hb16) rfl (fun w_ K_ h_ => OpW.move (v := Sl.v p0) rfl h_) ?_
      obtain ⟨⟨h1, h2, h3⟩, h⟩ := h
      refine DL.takeP (listed' := #[true, true, true, true, true, true, true, true, true, true, true, false, false, false, false, false, false, false, false, false, false, false, false, false, false, false, false, false, false, false, false, false]) (v := Sl.v (p0.cut 1 24 48 p0.cap)) 10 rfl rfl (by kernel_rfl) rfl (wanted_of rfl rfl hb16) rfl (fun w_ K_ h_ => OpW.sliceSl (l := 24) (h := 48) slice_39 rfl ⟨_, rfl⟩ ⟨_, rfl⟩ h1 h2 (.inr h3) h_) ?_
      obtain ⟨x17, h1, h2, h⟩ := h
      refine DL.takeK (listed' := #[true, true, true, true, true, true, true, true, true, true, true, true, false, false, false, false, false, false, false, false, false, false, false, false, false, false, false, false, false, false, false, false]) (v := str x17) 11 rfl rfl (by kernel_rfl) (by kernel_rfl) rfl (wanted_of rfl rfl hb16) rfl hx12 (fun w_ hS_ K_ h_ => OpW.b2s bsl_39 str_9 rfl h1 (hS_.atO h2) h_) ?_
      refine DL.takeP (listed' := #[true, true, true, true, true, true, true, true, true, true, true, true, true, false, false, false, false, false, false, false, false, false, false, false, false, false, false, false, false, false, false, false]) (v := .int .u64 x5) 12 rfl rfl (by kernel_rfl) rfl (wanted_of rfl rfl hb16) rfl (fun w_ K_ h_ => OpW.move (v := .int .u64 x5) rfl h_) ?_
      refine DL.takeP (listed' := #[true, true, true, true, true, true, true, true, true, true, true, true, true, true, false, false, false, false, false, false, false, false, false, false, false, false, false, false, false, false, false, false]) (v := .int .u64 x3) 13 rfl rfl (by kernel_rfl) rfl (wanted_of rfl rfl hb16) rfl (fun w_ K_ h_ => OpW.move (v := .int .u64 x3) rfl h_) ?_
      refine DL.execS (listed' := #[true, true, true, true, true, true, true, true, true, true, true, true, true, true, true, false, false, false, false, false, false, false, false, false, false, false, false, false, false, false, false, false]) 14 rfl (by kernel_rfl) rfl (wanted_of rfl rfl hb16) rfl (OpW.callR (al := [.int .u64 x5, .int .u64 x3]) Try.func70 fb_70 fn_70 rfl h (fun x18 w19 h => ?_))
      obtain ⟨hx20, h⟩ := h
      refine ⟨(fun _ _ => hx20), ?_⟩
      obtain ⟨x21, h1, h2, h⟩ := h
      refine DL.execS (listed' := #[true, true, true, true, true, true, true, true, true, true, true, true, true, true, true, true, false, false, false, false, false, false, false, false, false, false, false, false, false, false, false, false]) 15 rfl (by kernel_rfl) rfl (wanted_of rfl rfl hb16) rfl (OpW.b2s bsl_39 str_9 rfl h1 h2 ?_)
      refine ⟨(fun _ _ => hx20), ?_⟩
      refine DL.takeP (listed' := #[true, true, true, true, true, true, true, true, true, true, true, true, true, true, true, true, true, false, false, false, false, false, false, false, false, false, false, false, false, false, false, false]) (v := .bool (!decide (x17 = x21))) 16 rfl rfl (by kernel_rfl) rfl (wanted_of rfl rfl hb16) rfl (fun w_ K_ h_ => OpW.strCmp (b := !decide (x17 = x21)) rfl rfl rfl h_) ?_
      refine DL.takeP (listed' := #[true, true, true, true, true, true, true, true, true, true, true, true, true, true, true, true, true, true, false, false, false, false, false, false, false, false, false, false, false, false, false, false]) (v := .bool (!decide (x17 = x21))) 17 rfl rfl (by kernel_rfl) rfl trivial rfl (fun w_ K_ h_ => OpW.pick (b := false) (v := .bool (!decide (x17 = x21))) (congrArg Value.bool hb16) rfl h_) ?_
      exact hJJ15 _ _ ⟨(!decide (x17 = x21)), ⟨rfl, rfl, rfl, rfl⟩, h⟩
end Go.Proofs.Ytagkcbbbdlmcjaa
end
section
/- The typed readings of the functions, and that the program meets each: written by gen.py (a program of this session). -/
set_option linter.unusedVariables false
set_option linter.unusedSimpArgs false
namespace Go.Proofs.Ytagkcbbbdlmcjaa
open Go.Lift
set_option maxRecDepth 100000 in
set_option maxHeartbeats 4000000 in
theorem s49_calls (K : Sl → World → Prop) (p0 : Sl) (w : World) (h : s49 K p0 w) :
    Calls Try.prog 49 #[Sl.v p0] w (Ret r49 K) := by
  unfold s49 at h
  refine calls_of_CW (n := 9) Try.func49 rfl rfl rfl ?_
  refine CW.seq ?_
  refine CW.region ?_
  refine RL.opS trivial rfl (OpW.assign (v := Sl.v nilSl) rfl ?_)
  refine RL.nil ?_
  refine CW.seq ?_
  refine CW.region ?_
  refine RL.opS trivial rfl (OpW.move (v := Sl.v p0) rfl ?_)
  refine RL.opS trivial rfl (OpW.move (v := Sl.v p0) rfl ?_)
  refine RL.opS trivial rfl (OpW.len (s := p0) slice_39 rfl ?_)
  refine RL.opS trivial rfl (OpW.move (v := Sl.v p0) rfl ?_)
  refine RL.opS trivial rfl (OpW.len (s := p0) slice_39 rfl ?_)
  obtain ⟨⟨h1, h2, h3, h4⟩, h⟩ := h
  refine RL.opS trivial rfl (OpW.slice3 (l := 0) (h := (p0.len : Int)) (m := (p0.len : Int)) slice_39 rfl rfl rfl rfl h1 h2 h3 h4 ?_)
  refine RL.opS trivial rfl (OpW.assign (v := Sl.v (p0.cut 1 0 (p0.len : Int) (p0.len : Int))) rfl ?_)
  refine RL.nil ?_
  refine CW.ret ?_
  exact ret_intro (res1 rfl rfl) ⟨(p0.cut 1 0 (p0.len : Int) (p0.len : Int)), rfl, h⟩
end Go.Proofs.Ytagkcbbbdlmcjaa
end
section
/- The typed readings of the functions, and that the program meets each: written by gen.py (a program of this session). -/
set_option linter.unusedVariables false
set_option linter.unusedSimpArgs false
namespace Go.Proofs.Ytagkcbbbdlmcjaa
open Go.Lift
set_option maxRecDepth 100000 in
set_option maxHeartbeats 4000000 in
theorem s69_calls (K : Int → World → Prop) (p0 : Sl) (w : World) (h : s69 K p0 w) :
    Calls Try.prog 69 #[Sl.v p0] w (Ret r69 K) := by
  unfold s69 at h
  refine calls_of_CW (n := 19) Try.func69 rfl rfl rfl ?_
  refine CW.seq ?_
  refine CW.region ?_
  refine RL.opS trivial rfl (OpW.assign (v := .int .u64 0) rfl ?_)
  refine RL.nil ?_
  refine CW.seq ?_
  refine CW.region ?_
  refine RL.opS trivial rfl (OpW.assign (v := .int .u64 0) rfl ?_)
  refine RL.nil ?_
  refine CW.seq ?_
  refine CW.seq ?_
  refine CW.region ?_
  refine RL.opS trivial rfl (OpW.move (v := Sl.v p0) rfl ?_)
  refine RL.opS trivial rfl (OpW.len (s := p0) slice_39 rfl ?_)
  refine RL.opS trivial rfl (OpW.move (v := .int .i64 0) rfl ?_)
  refine RL.nil ?_
  refine CW.block ?_
  obtain ⟨I12, mu13, hI, hs⟩ := h
  refine CW.loop (σ := Int × Int) (fun s1 ρ => ρ 3 = .int .u64 s1.1 ∧ ρ 8 = .int .i64 s1.2 ∧ ρ 6 = Sl.v p0 ∧ ρ 7 = .int .i64 (p0.len : Int)) I12 mu13 (0, 0) ⟨rfl, rfl, rfl, rfl⟩ hI ?_
  rintro s1 ρ w2 ⟨e4, e5, e6, e7⟩ hI
  have h := hs s1 w2 hI
  clear hs hI
  refine CW.seq ?_
  refine CW.region ?_
  refine RL.opS trivial rfl (OpW.bin (k := .i64) (a := s1.2) (b := (p0.len : Int)) (v := .bool (decide (s1.2 < (p0.len : Int)))) e5 e7 rfl ?_)
  refine RL.nil ?_
  refine CW.seq ?_
  obtain ⟨ha, hc⟩ := h
  refine CW.cond (b := (decide (s1.2 < (p0.len : Int)))) rfl (fun hb8 => ?_) (fun hb8 => ?_)
  · have h := ha hb8; clear ha hc
    refine CW.skip ?_
    refine CW.seq ?_
    refine CW.block ?_
    refine CW.seq ?_
    refine CW.region ?_
    obtain ⟨a9_, a9, h1, h2, h3, h4, h⟩ := h
    refine RL.opS trivial rfl (OpW.indexE (a' := a9) slice_39 e6 e5 h1 h2 h3 h4 ?_)
    obtain ⟨x11, h1, h⟩ := h
    refine RL.opS trivial rfl (OpW.load1 (v := .int .u8 x11) one_5 rfl h1 ?_)
    refine RL.opS trivial rfl (OpW.assign (v := .int .u8 x11) rfl ?_)
    refine RL.nil ?_
    refine CW.region ?_
    refine RL.opS trivial rfl (OpW.move (v := .int .u64 s1.1) e4 ?_)
    refine RL.opS trivial rfl (OpW.shift (a := s1.1) (b := 8) (v := .int .u64 (shlI .u64 s1.1 8)) rfl rfl (by decide) rfl ?_)
    refine RL.opS trivial rfl (OpW.move (v := .int .u8 x11) rfl ?_)
    refine RL.opS trivial rfl (OpW.convInt (a := x11) int_5 int_25 rfl ?_)
    refine RL.opS trivial rfl (OpW.bin (k := .u64) (a := (shlI .u64 s1.1 8)) (b := (IntKind.u64.wrap x11)) (v := .int .u64 (orI .u64 (shlI .u64 s1.1 8) (IntKind.u64.wrap x11))) rfl rfl rfl ?_)
    refine RL.opS trivial rfl (OpW.assign (v := .int .u64 (orI .u64 (shlI .u64 s1.1 8) (IntKind.u64.wrap x11))) rfl ?_)
    refine RL.nil ?_
    refine CW.region ?_
    refine RL.opS trivial rfl (OpW.bin (k := .i64) (a := s1.2) (b := 1) (v := .int .i64 (IntKind.i64.wrap (s1.2 + 1))) e5 rfl rfl ?_)
    refine RL.opS trivial rfl (OpW.move (v := .int .i64 (IntKind.i64.wrap (s1.2 + 1))) rfl ?_)
    refine RL.nil ?_
    exact ⟨((orI .u64 (shlI .u64 s1.1 8) (IntKind.u64.wrap x11)), (IntKind.i64.wrap (s1.2 + 1))), ⟨rfl, rfl, e6, e7⟩, h⟩
  · have h := hc hb8; clear ha hc
    refine CW.exit ?_
    refine CW.seq ?_
    refine CW.region ?_
    refine RL.opS trivial rfl (OpW.move (v := .int .u64 s1.1) e4 ?_)
    refine RL.opS trivial rfl (OpW.assign (v := .int .u64 s1.1) rfl ?_)
    refine RL.nil ?_
    refine CW.ret ?_
    exact ret_intro (res1 rfl rfl) ⟨s1.1, rfl, h⟩
end Go.Proofs.Ytagkcbbbdlmcjaa
end
section
/- The typed readings of the functions, and that the program meets each: written by gen.py (a program of this session). -/
set_option linter.unusedVariables false
set_option linter.unusedSimpArgs false
namespace Go.Proofs.Ytagkcbbbdlmcjaa
open Go.Lift
set_option maxRecDepth 100000 in
set_option maxHeartbeats 4000000 in
theorem s70_calls (K : Sl → World → Prop) (p0 : Int) (p1 : Int) (w : World) (h : s70 K p0 p1 w) :
    Calls Try.prog 70 #[.int .u64 p0, .int .u64 p1] w (Ret r70 K) := by
  unfold s70 at h
  refine calls_of_CW (n := 13) Try.func70 rfl rfl rfl ?_
  refine CW.seq ?_
  refine CW.region ?_
  refine RL.opS trivial rfl (OpW.assign (v := Sl.v nilSl) rfl ?_)
  refine RL.nil ?_
  refine CW.seq ?_
  refine CW.region ?_
  obtain ⟨b1, hb1_⟩ : ∃ b_, b_ = w.heap.size := ⟨_, rfl⟩
  obtain ⟨w2, hw2_⟩ : ∃ w_, w_ = w.alloc (.cells (List.toArray [.int .u8 100, .int .u8 111, .int .u8 119, .int .u8 115, .int .u8 101, .int .u8 114, .int .u8 32, .int .u8 108]) 5) := ⟨_, rfl⟩
  have h := h b1 w2 hb1_ hw2_
  refine RL.opS trivial rfl (OpW.buildSliceE (vs := [(0, .int .u8 100), (1, .int .u8 111), (2, .int .u8 119), (3, .int .u8 115), (4, .int .u8 101), (5, .int .u8 114), (6, .int .u8 32), (7, .int .u8 108)]) (cs := [.int .u8 100, .int .u8 111, .int .u8 119, .int .u8 115, .int .u8 101, .int .u8 114, .int .u8 32, .int .u8 108]) (by rfl) (by kernel_rfl) hb1_ hw2_ ?_)
  obtain ⟨b_, o_, c_, e_, fr_, h1, h2, h⟩ := h
  obtain ⟨w3, hw3_⟩ : ∃ w_, w_ = w2.freeze ⟨b_, c_.size, none⟩ 1 := ⟨_, rfl⟩
  have h := h w3 hw3_
  refine RL.opS trivial rfl (OpW.markE bsl_39 rfl h1 h2 hw3_ ?_)
  refine RL.opS trivial rfl (OpW.move (v := .int .u64 p0) rfl ?_)
  refine RL.opS trivial rfl (OpW.callR (al := [.int .u64 p0]) Try.func83 fb_83 fn_83 rfl h (fun x4 w5 h => ?_))
  refine RL.opS trivial rfl (OpW.move (v := .int .u64 p1) rfl ?_)
  refine RL.opS trivial rfl (OpW.callR (al := [.int .u64 p1]) Try.func83 fb_83 fn_83 rfl h (fun x6 w7 h => ?_))
  obtain ⟨b8, hb8_⟩ : ∃ b_, b_ = w7.heap.size := ⟨_, rfl⟩
  obtain ⟨w9, hw9_⟩ : ∃ w_, w_ = w7.alloc (.cells (List.toArray [Sl.v ⟨some ⟨b1, 0, none⟩, 8, 8⟩, Sl.v x4, Sl.v x6]) 39) := ⟨_, rfl⟩
  have h := h b8 w9 hb8_ hw9_
  refine RL.opS trivial rfl (OpW.buildSliceE (vs := [(0, Sl.v ⟨some ⟨b1, 0, none⟩, 8, 8⟩), (1, Sl.v x4), (2, Sl.v x6)]) (cs := [Sl.v ⟨some ⟨b1, 0, none⟩, 8, 8⟩, Sl.v x4, Sl.v x6]) (by rfl) (by kernel_rfl) hb8_ hw9_ ?_)
  refine RL.opS trivial rfl (OpW.callR (al := [Sl.v ⟨some ⟨b8, 0, none⟩, 3, 3⟩]) Try.func71 fb_71 fn_71 rfl h (fun x10 w11 h => ?_))
  refine RL.opS trivial rfl (OpW.assign (v := Sl.v x10) rfl ?_)
  refine RL.nil ?_
  refine CW.ret ?_
  exact ret_intro (res1 rfl rfl) ⟨x10, rfl, h⟩
end Go.Proofs.Ytagkcbbbdlmcjaa
end
section
/- The typed readings of the functions, and that the program meets each: written by gen.py (a program of this session). -/
set_option linter.unusedVariables false
set_option linter.unusedSimpArgs false
namespace Go.Proofs.Ytagkcbbbdlmcjaa
open Go.Lift
set_option maxRecDepth 100000 in
set_option maxHeartbeats 4000000 in
theorem s71_calls (K : Sl → World → Prop) (p0 : Sl) (w : World) (h : s71 K p0 w) :
    Calls Try.prog 71 #[Sl.v p0] w (Ret r71 K) := by
  unfold s71 at h
  refine calls_of_CW (n := 36) Try.func71 rfl rfl rfl ?_
  refine CW.seq ?_
  refine CW.region ?_
  refine RL.opS trivial rfl (OpW.assign (v := Sl.v nilSl) rfl ?_)
  refine RL.nil ?_
  refine CW.seq ?_
  refine CW.region ?_
  refine RL.opS trivial rfl (OpW.assign (v := .int .i64 0) rfl ?_)
  refine RL.nil ?_
  refine CW.seq ?_
  refine CW.seq ?_
  refine CW.region ?_
  refine RL.opS trivial rfl (OpW.move (v := Sl.v p0) rfl ?_)
  refine RL.opS trivial rfl (OpW.len (s := p0) slice_22 rfl ?_)
  refine RL.opS trivial rfl (OpW.move (v := .int .i64 0) rfl ?_)
  refine RL.nil ?_
  refine CW.block ?_
  obtain ⟨I41, mu42, hI, hs⟩ := h
  refine CW.loop (σ := Int × Int) (fun s1 ρ => ρ 3 = .int .i64 s1.1 ∧ ρ 11 = .int .i64 s1.2 ∧ ρ 0 = Sl.v p0 ∧ ρ 9 = Sl.v p0 ∧ ρ 10 = .int .i64 (p0.len : Int)) I41 mu42 (0, 0) ⟨rfl, rfl, rfl, rfl, rfl⟩ hI ?_
  rintro s1 ρ w2 ⟨e4, e5, e6, e7, e8⟩ hI
  have h := hs s1 w2 hI
  clear hs hI
  refine CW.seq ?_
  refine CW.region ?_
  refine RL.opS trivial rfl (OpW.bin (k := .i64) (a := s1.2) (b := (p0.len : Int)) (v := .bool (decide (s1.2 < (p0.len : Int)))) e5 e8 rfl ?_)
  refine RL.nil ?_
  refine CW.seq ?_
  obtain ⟨ha, hc⟩ := h
  refine CW.cond (b := (decide (s1.2 < (p0.len : Int)))) rfl (fun hb9 => ?_) (fun hb9 => ?_)
  · have h := ha hb9; clear ha hc
    refine CW.skip ?_
    refine jn_elim h ?_; clear h; intro k22 hk23 h
    refine CW.seqJ (A := Int) (fun s15 ρ => ρ 3 = .int .i64 s15 ∧ ρ 0 = Sl.v p0 ∧ ρ 9 = Sl.v p0 ∧ ρ 10 = .int .i64 (p0.len : Int) ∧ ρ 11 = .int .i64 s1.2) k22 ?_ ?_
    · rintro s15 ρ w16 ⟨e17, e18, e19, e20, e21⟩ h
      subst hk23
      refine CW.region ?_
      refine RL.opS trivial rfl (OpW.bin (k := .i64) (a := s1.2) (b := 1) (v := .int .i64 (IntKind.i64.wrap (s1.2 + 1))) e21 rfl rfl ?_)
      refine RL.opS trivial rfl (OpW.move (v := .int .i64 (IntKind.i64.wrap (s1.2 + 1))) rfl ?_)
      refine RL.nil ?_
      exact ⟨(s15, (IntKind.i64.wrap (s1.2 + 1))), ⟨e17, rfl, e18, e19, e20⟩, h⟩
    · clear hk23
      refine CW.block ?_
      refine CW.seq ?_
      refine CW.region ?_
      obtain ⟨a11_, a11, h1, h2, h3, h4, h⟩ := h
      refine RL.opS trivial rfl (OpW.indexE (a' := a11) slice_22 e7 e5 h1 h2 h3 h4 ?_)
      obtain ⟨x13, h1, h⟩ := h
      refine RL.opS trivial rfl (OpW.load1 (v := Sl.v x13) one_39 rfl h1 ?_)
      refine RL.opS trivial rfl (OpW.assign (v := Sl.v x13) rfl ?_)
      refine RL.nil ?_
      refine CW.seq ?_
      refine CW.region ?_
      refine RL.opS trivial rfl (OpW.move (v := .int .i64 s1.1) e4 ?_)
      refine RL.opS trivial rfl (OpW.move (v := Sl.v x13) rfl ?_)
      refine RL.opS trivial rfl (OpW.len (s := x13) slice_39 rfl ?_)
      refine RL.opS trivial rfl (OpW.bin (k := .i64) (a := s1.1) (b := (x13.len : Int)) (v := .int .i64 (IntKind.i64.wrap (s1.1 + (x13.len : Int)))) rfl rfl rfl ?_)
      refine RL.opS trivial rfl (OpW.assign (v := .int .i64 (IntKind.i64.wrap (s1.1 + (x13.len : Int)))) rfl ?_)
      refine RL.nil ?_
      refine CW.seq ?_
      refine CW.region ?_
      refine RL.opS trivial rfl (OpW.move (v := .int .i64 (IntKind.i64.wrap (s1.1 + (x13.len : Int)))) rfl ?_)
      refine RL.opS trivial rfl (OpW.bin (k := .i64) (a := (IntKind.i64.wrap (s1.1 + (x13.len : Int)))) (b := 0) (v := .bool (decide ((IntKind.i64.wrap (s1.1 + (x13.len : Int))) < 0))) rfl rfl rfl ?_)
      refine RL.nil ?_
      obtain ⟨ha, hc⟩ := h
      refine CW.cond (b := (decide ((IntKind.i64.wrap (s1.1 + (x13.len : Int))) < 0))) rfl (fun hb14 => ?_) (fun hb14 => ?_)
      · have h := ha hb14; clear ha hc
        refine CW.region ?_
        exact h.elim
      · have h := hc hb14; clear ha hc
        refine CW.skip ?_
        exact ⟨(IntKind.i64.wrap (s1.1 + (x13.len : Int))), ⟨rfl, e6, e7, e8, e5⟩, h⟩
  · have h := hc hb9; clear ha hc
    refine CW.exit ?_
    refine CW.seq ?_
    refine CW.region ?_
    refine RL.opS trivial rfl (OpW.move (v := .int .i64 s1.1) e4 ?_)
    refine RL.opS trivial rfl (OpW.callR (al := [Sl.v nilSl, .int .i64 s1.1]) Try.func84 fb_84 fn_84 rfl h (fun x24 w25 h => ?_))
    refine RL.opS trivial rfl (OpW.assign (v := Sl.v x24) rfl ?_)
    refine RL.nil ?_
    refine CW.seq ?_
    refine CW.seq ?_
    refine CW.region ?_
    refine RL.opS trivial rfl (OpW.move (v := Sl.v p0) e6 ?_)
    refine RL.opS trivial rfl (OpW.len (s := p0) slice_22 rfl ?_)
    refine RL.opS trivial rfl (OpW.move (v := .int .i64 0) rfl ?_)
    refine RL.nil ?_
    refine CW.block ?_
    obtain ⟨I39, mu40, hI, hs⟩ := h
    refine CW.loop (σ := Sl × Int) (fun s26 ρ => ρ 6 = Sl.v s26.1 ∧ ρ 27 = .int .i64 s26.2 ∧ ρ 25 = Sl.v p0 ∧ ρ 26 = .int .i64 (p0.len : Int)) I39 mu40 (x24, 0) ⟨rfl, rfl, rfl, rfl⟩ hI ?_
    rintro s26 ρ w27 ⟨e29, e30, e31, e32⟩ hI
    have h := hs s26 w27 hI
    clear hs hI
    refine CW.seq ?_
    refine CW.region ?_
    refine RL.opS trivial rfl (OpW.bin (k := .i64) (a := s26.2) (b := (p0.len : Int)) (v := .bool (decide (s26.2 < (p0.len : Int)))) e30 e32 rfl ?_)
    refine RL.nil ?_
    refine CW.seq ?_
    obtain ⟨ha, hc⟩ := h
    refine CW.cond (b := (decide (s26.2 < (p0.len : Int)))) rfl (fun hb33 => ?_) (fun hb33 => ?_)
    · have h := ha hb33; clear ha hc
      refine CW.skip ?_
      refine CW.seq ?_
      refine CW.block ?_
      refine CW.seq ?_
      refine CW.region ?_
      obtain ⟨a34_, a34, h1, h2, h3, h4, h⟩ := h
      refine RL.opS trivial rfl (OpW.indexE (a' := a34) slice_22 e31 e30 h1 h2 h3 h4 ?_)
      obtain ⟨x36, h1, h⟩ := h
      refine RL.opS trivial rfl (OpW.load1 (v := Sl.v x36) one_39 rfl h1 ?_)
      refine RL.opS trivial rfl (OpW.assign (v := Sl.v x36) rfl ?_)
      refine RL.nil ?_
      refine CW.region ?_
      refine RL.opS trivial rfl (OpW.move (v := Sl.v s26.1) e29 ?_)
      refine RL.opS trivial rfl (OpW.move (v := Sl.v x36) rfl ?_)
      obtain ⟨x37, w38, hr_, h⟩ := h
      refine RL.opS trivial rfl (OpW.appendL (v := Sl.v x37) rfl hr_ ?_)
      refine RL.opS trivial rfl (OpW.assign (v := Sl.v x37) rfl ?_)
      refine RL.nil ?_
      refine CW.region ?_
      refine RL.opS trivial rfl (OpW.bin (k := .i64) (a := s26.2) (b := 1) (v := .int .i64 (IntKind.i64.wrap (s26.2 + 1))) e30 rfl rfl ?_)
      refine RL.opS trivial rfl (OpW.move (v := .int .i64 (IntKind.i64.wrap (s26.2 + 1))) rfl ?_)
      refine RL.nil ?_
      exact ⟨(x37, (IntKind.i64.wrap (s26.2 + 1))), ⟨rfl, rfl, e31, e32⟩, h⟩
    · have h := hc hb33; clear ha hc
      refine CW.exit ?_
      refine CW.seq ?_
      refine CW.region ?_
      refine RL.opS trivial rfl (OpW.move (v := Sl.v s26.1) e29 ?_)
      refine RL.opS trivial rfl (OpW.assign (v := Sl.v s26.1) rfl ?_)
      refine RL.nil ?_
      refine CW.ret ?_
      exact ret_intro (res1 rfl rfl) ⟨s26.1, rfl, h⟩
end Go.Proofs.Ytagkcbbbdlmcjaa
end
section
/- The typed readings of the functions, and that the program meets each: written by gen.py (a program of this session). -/
set_option linter.unusedVariables false
set_option linter.unusedSimpArgs false
namespace Go.Proofs.Ytagkcbbbdlmcjaa
open Go.Lift
set_option maxRecDepth 100000 in
set_option maxHeartbeats 4000000 in
theorem s83_calls (K : Sl → World → Prop) (p0 : Int) (w : World) (h : s83 K p0 w) :
    Calls Try.prog 83 #[.int .u64 p0] w (Ret r83 K) := by
  unfold s83 at h
  refine calls_of_CW (n := 19) Try.func83 rfl rfl rfl ?_
  refine CW.seq ?_
  refine CW.region ?_
  refine RL.opS trivial rfl (OpW.assign (v := Sl.v nilSl) rfl ?_)
  refine RL.nil ?_
  refine CW.seq ?_
  refine CW.region ?_
  obtain ⟨h1, h2, h3, h4, h⟩ := h
  obtain ⟨b1, hb1_⟩ : ∃ b_, b_ = w.heap.size := ⟨_, rfl⟩
  obtain ⟨w2, hw2_⟩ : ∃ w_, w_ = w.alloc (.cells (List.replicate (Int.toNat 8 * 1) (Value.int .u8 0)).toArray 5) := ⟨_, rfl⟩
  have h := h b1 w2 hb1_ hw2_
  obtain ⟨x3, hx3_⟩ : ∃ s_ : Sl, s_ = ⟨some ⟨b1, 0, none⟩, Int.toNat 8, Int.toNat 8⟩ := ⟨_, rfl⟩
  rw [← hx3_] at h
  refine RL.opS trivial rfl (OpW.makeSliceE mk_39 (by decide) rfl rfl h1 h2 h3 h4 hb1_ hw2_ hx3_ ?_)
  refine RL.opS trivial rfl (OpW.assign (v := Sl.v x3) rfl ?_)
  refine RL.nil ?_
  refine CW.seq ?_
  refine CW.seq ?_
  refine CW.region ?_
  refine RL.opS trivial rfl (OpW.move (v := .int .i64 0) rfl ?_)
  refine RL.nil ?_
  refine CW.block ?_
  obtain ⟨I14, mu15, hI, hs⟩ := h
  refine CW.loop (σ := Int × Int) (fun s4 ρ => ρ 0 = .int .u64 s4.1 ∧ ρ 6 = .int .i64 s4.2 ∧ ρ 3 = Sl.v x3) I14 mu15 (p0, 0) ⟨rfl, rfl, rfl⟩ hI ?_
  rintro s4 ρ w5 ⟨e7, e8, e9⟩ hI
  have h := hs s4 w5 hI
  clear hs hI
  refine CW.seq ?_
  refine CW.region ?_
  refine RL.opS trivial rfl (OpW.bin (k := .i64) (a := s4.2) (b := 8) (v := .bool (decide (s4.2 < 8))) e8 rfl rfl ?_)
  refine RL.nil ?_
  refine CW.seq ?_
  obtain ⟨ha, hc⟩ := h
  refine CW.cond (b := (decide (s4.2 < 8))) rfl (fun hb10 => ?_) (fun hb10 => ?_)
  · have h := ha hb10; clear ha hc
    refine CW.skip ?_
    refine CW.seq ?_
    refine CW.block ?_
    refine CW.seq ?_
    refine CW.region ?_
    refine RL.opS trivial rfl (OpW.move (v := .int .i64 s4.2) e8 ?_)
    refine RL.opS trivial rfl (OpW.assign (v := .int .i64 s4.2) rfl ?_)
    refine RL.nil ?_
    refine CW.seq ?_
    refine CW.region ?_
    refine RL.opS trivial rfl (OpW.move (v := Sl.v x3) e9 ?_)
    refine RL.opS trivial rfl (OpW.move (v := .int .i64 s4.2) rfl ?_)
    refine RL.opS trivial rfl (OpW.bin (k := .i64) (a := 7) (b := s4.2) (v := .int .i64 (IntKind.i64.wrap (7 - s4.2))) rfl rfl rfl ?_)
    refine RL.opS trivial rfl (OpW.move (v := .int .u64 s4.1) e7 ?_)
    refine RL.opS trivial rfl (OpW.convInt (a := s4.1) int_25 int_5 rfl ?_)
    obtain ⟨a11_, a11, h1, h2, h3, h4, h⟩ := h
    refine RL.opS trivial rfl (OpW.indexE (a' := a11) slice_39 rfl rfl h1 h2 h3 h4 ?_)
    obtain ⟨u_, h1, h2, h⟩ := h
    obtain ⟨w13, hw13_⟩ : ∃ w_, w_ = w5.setCell a11 (.int .u8 (IntKind.u8.wrap s4.1)) := ⟨_, rfl⟩
    have h := h w13 hw13_
    refine RL.opN trivial (OpW.store1E (v := .int .u8 (IntKind.u8.wrap s4.1)) size_5 rfl rfl rfl h1 h2 hw13_ ?_)
    refine RL.nil ?_
    refine CW.region ?_
    refine RL.opS trivial rfl (OpW.move (v := .int .u64 s4.1) e7 ?_)
    refine RL.opS trivial rfl (OpW.shift (a := s4.1) (b := 8) (v := .int .u64 (shrI .u64 s4.1 8)) rfl rfl (by decide) rfl ?_)
    refine RL.opS trivial rfl (OpW.assign (v := .int .u64 (shrI .u64 s4.1 8)) rfl ?_)
    refine RL.nil ?_
    refine CW.region ?_
    refine RL.opS trivial rfl (OpW.bin (k := .i64) (a := s4.2) (b := 1) (v := .int .i64 (IntKind.i64.wrap (s4.2 + 1))) e8 rfl rfl ?_)
    refine RL.opS trivial rfl (OpW.move (v := .int .i64 (IntKind.i64.wrap (s4.2 + 1))) rfl ?_)
    refine RL.nil ?_
    exact ⟨((shrI .u64 s4.1 8), (IntKind.i64.wrap (s4.2 + 1))), ⟨rfl, rfl, e9⟩, h⟩
  · have h := hc hb10; clear ha hc
    refine CW.exit ?_
    refine CW.seq ?_
    refine CW.region ?_
    refine RL.opS trivial rfl (OpW.move (v := Sl.v x3) e9 ?_)
    refine RL.opS trivial rfl (OpW.assign (v := Sl.v x3) rfl ?_)
    refine RL.nil ?_
    refine CW.ret ?_
    exact ret_intro (res1 rfl rfl) ⟨x3, rfl, h⟩
end Go.Proofs.Ytagkcbbbdlmcjaa
end
section
/- The typed readings of the functions, and that the program meets each: written by gen.py (a program of this session). -/
set_option linter.unusedVariables false
set_option linter.unusedSimpArgs false
namespace Go.Proofs.Ytagkcbbbdlmcjaa
open Go.Lift
set_option maxRecDepth 100000 in
set_option maxHeartbeats 4000000 in
theorem s84_calls (K : Sl → World → Prop) (p0 : Sl) (p1 : Int) (w : World) (h : s84 K p0 p1 w) :
    Calls Try.prog 84 #[Sl.v p0, .int .i64 p1] w (Ret r84 K) := by
  unfold s84 at h
  refine calls_of_CW (n := 27) Try.func84 rfl rfl rfl ?_
  refine CW.seq ?_
  refine CW.region ?_
  refine RL.opS trivial rfl (OpW.assign (v := Sl.v nilSl) rfl ?_)
  refine RL.nil ?_
  refine jn_elim h ?_; clear h; intro k16 hk17 h
  refine CW.seqJ (A := Unit) (fun s3 ρ => ρ 0 = Sl.v p0 ∧ ρ 1 = .int .i64 p1) k16 ?_ ?_
  · rintro s3 ρ w4 ⟨e5, e6⟩ h
    subst hk17
    refine jn_elim h ?_; clear h; intro k14 hk15 h
    refine CW.seqJ (A := Sl) (fun s11 ρ => ρ 0 = Sl.v s11) k14 ?_ ?_
    · rintro s11 ρ w12 e13 h
      subst hk15
      refine CW.seq ?_
      refine CW.region ?_
      refine RL.opS trivial rfl (OpW.move (v := Sl.v s11) e13 ?_)
      refine RL.opS trivial rfl (OpW.assign (v := Sl.v s11) rfl ?_)
      refine RL.nil ?_
      refine CW.ret ?_
      exact ret_intro (res1 rfl rfl) ⟨s11, rfl, h⟩
    · clear hk15
      refine CW.seq ?_
      refine CW.region ?_
      refine RL.opS trivial rfl (OpW.move (v := .int .i64 p1) e6 ?_)
      refine RL.opS trivial rfl (OpW.move (v := Sl.v p0) e5 ?_)
      refine RL.opS trivial rfl (OpW.cap (s := p0) slice_39 rfl ?_)
      refine RL.opS trivial rfl (OpW.move (v := Sl.v p0) e5 ?_)
      refine RL.opS trivial rfl (OpW.len (s := p0) slice_39 rfl ?_)
      refine RL.opS trivial rfl (OpW.bin (k := .i64) (a := (p0.cap : Int)) (b := (p0.len : Int)) (v := .int .i64 (IntKind.i64.wrap ((p0.cap : Int) - (p0.len : Int)))) rfl rfl rfl ?_)
      refine RL.opS trivial rfl (OpW.bin (k := .i64) (a := p1) (b := (IntKind.i64.wrap ((p0.cap : Int) - (p0.len : Int)))) (v := .int .i64 (IntKind.i64.wrap (p1 - (IntKind.i64.wrap ((p0.cap : Int) - (p0.len : Int)))))) rfl rfl rfl ?_)
      refine RL.opS trivial rfl (OpW.assign (v := .int .i64 (IntKind.i64.wrap (p1 - (IntKind.i64.wrap ((p0.cap : Int) - (p0.len : Int)))))) rfl ?_)
      refine RL.nil ?_
      refine CW.seq ?_
      refine CW.region ?_
      refine RL.opS trivial rfl (OpW.move (v := .int .i64 (IntKind.i64.wrap (p1 - (IntKind.i64.wrap ((p0.cap : Int) - (p0.len : Int)))))) rfl ?_)
      refine RL.opS trivial rfl (OpW.bin (k := .i64) (a := (IntKind.i64.wrap (p1 - (IntKind.i64.wrap ((p0.cap : Int) - (p0.len : Int)))))) (b := 0) (v := .bool (decide (0 < (IntKind.i64.wrap (p1 - (IntKind.i64.wrap ((p0.cap : Int) - (p0.len : Int)))))))) rfl rfl rfl ?_)
      refine RL.nil ?_
      obtain ⟨ha, hc⟩ := h
      refine CW.cond (b := (decide (0 < (IntKind.i64.wrap (p1 - (IntKind.i64.wrap ((p0.cap : Int) - (p0.len : Int)))))))) rfl (fun hb8 => ?_) (fun hb8 => ?_)
      · have h := ha hb8; clear ha hc
        refine CW.region ?_
        refine RL.opS trivial rfl (OpW.move (v := Sl.v p0) e5 ?_)
        refine RL.opS trivial rfl (OpW.move (v := Sl.v p0) e5 ?_)
        refine RL.opS trivial rfl (OpW.cap (s := p0) slice_39 rfl ?_)
        obtain ⟨⟨h1, h2, h3⟩, h⟩ := h
        refine RL.opS trivial rfl (OpW.sliceSl (l := 0) (h := (p0.cap : Int)) slice_39 rfl rfl ⟨_, rfl⟩ h1 h2 (.inr h3) ?_)
        refine RL.opS trivial rfl (OpW.move (v := .int .i64 (IntKind.i64.wrap (p1 - (IntKind.i64.wrap ((p0.cap : Int) - (p0.len : Int)))))) rfl ?_)
        obtain ⟨x9, w10, hr_, h⟩ := h
        refine RL.opS trivial rfl (OpW.appendL (v := Sl.v x9) rfl hr_ ?_)
        refine RL.opS trivial rfl (OpW.move (v := Sl.v p0) e5 ?_)
        refine RL.opS trivial rfl (OpW.len (s := p0) slice_39 rfl ?_)
        obtain ⟨⟨h1, h2, h3⟩, h⟩ := h
        refine RL.opS trivial rfl (OpW.sliceSl (l := 0) (h := (p0.len : Int)) slice_39 rfl rfl ⟨_, rfl⟩ h1 h2 (.inr h3) ?_)
        refine RL.opS trivial rfl (OpW.assign (v := Sl.v (x9.cut 1 0 (p0.len : Int) x9.cap)) rfl ?_)
        refine RL.nil ?_
        exact ⟨(x9.cut 1 0 (p0.len : Int) x9.cap), rfl, h⟩
      · have h := hc hb8; clear ha hc
        refine CW.skip ?_
        exact ⟨p0, e5, h⟩
  · clear hk17
    refine CW.seq ?_
    refine CW.region ?_
    refine RL.opS trivial rfl (OpW.move (v := .int .i64 p1) rfl ?_)
    refine RL.opS trivial rfl (OpW.bin (k := .i64) (a := p1) (b := 0) (v := .bool (decide (p1 < 0))) rfl rfl rfl ?_)
    refine RL.nil ?_
    obtain ⟨ha, hc⟩ := h
    refine CW.cond (b := (decide (p1 < 0))) rfl (fun hb2 => ?_) (fun hb2 => ?_)
    · have h := ha hb2; clear ha hc
      refine CW.region ?_
      exact h.elim
    · have h := hc hb2; clear ha hc
      refine CW.skip ?_
      exact ⟨(), ⟨rfl, rfl⟩, h⟩
end Go.Proofs.Ytagkcbbbdlmcjaa
end
section
/- What the journal's functions on bytes do: numbers in eight bytes, halves of heads, parts put together. -/
set_option linter.unusedVariables false
set_option linter.unusedSimpArgs false
namespace Go.Proofs.Ytagkcbbbdlmcjaa
open Go.Lift Go.Lift.Disk Go.Lift.Crc Go.Lift.Wal Go.RowKit
theorem u8n (m : Nat) : IntKind.u8.wrap (m : Int) = ((UInt8.ofNat m).toNat : Int) := by
  rw [wu8_mod]
  simp
theorem shr8 (m : Nat) : shrI .u64 (m : Int) 8 = ((m / 256 : Nat) : Int) := by
  unfold shrI
  rw [show min (8 : Int).toNat (IntKind.bits .u64) = 8 from rfl, Int.fdiv_eq_ediv_of_nonneg _ (by decide)]
  simp
theorem ofIntN (m : Nat) : BitVec.ofInt 64 (m : Int) = BitVec.ofNat 64 m := by
  apply BitVec.eq_of_toNat_eq
  simp
theorem orI_nat {a b : Nat} (ha : a < 18446744073709551616) (hb : b < 18446744073709551616) : orI .u64 (a : Int) (b : Int) = ((a ||| b : Nat) : Int) := by
  show IntKind.u64.wrap ((BitVec.ofInt 64 (a : Int) ||| BitVec.ofInt 64 (b : Int)).toNat : Int) = _
  have h1 : (BitVec.ofInt 64 (a : Int) ||| BitVec.ofInt 64 (b : Int)).toNat = a ||| b := by
    rw [ofIntN, ofIntN, BitVec.toNat_or, BitVec.toNat_ofNat, BitVec.toNat_ofNat, Nat.mod_eq_of_lt (by simpa using ha), Nat.mod_eq_of_lt (by simpa using hb)]
  have h2 : a ||| b < 2 ^ 64 := Nat.or_lt_two_pow (by simpa using ha) (by simpa using hb)
  rw [h1, wu64_eq (by omega) (by omega)]
theorem shlI_nat {a s : Nat} (hs : s ≤ 64) : shlI .u64 (a : Int) (s : Int) = ((a * 2 ^ s % 18446744073709551616 : Nat) : Int) := by
  show IntKind.u64.wrap ((a : Int) * 2 ^ min (s : Int).toNat 64) = _
  rw [Int.toNat_natCast, Nat.min_eq_left hs, wu64_mod, Int.natCast_emod, Int.natCast_mul, Int.natCast_pow]
  rfl
theorem lowStep_int {a : Nat} (c : UInt8) (ha : a < 18446744073709551616) : orI .u64 (shlI .u64 (a : Int) 8) (IntKind.u64.wrap (c.toNat : Int)) = ((lowStep a c : Nat) : Int) := by
  have hc := u8_lt c
  have e8 : shlI .u64 (a : Int) 8 = ((a * 2 ^ 8 % 18446744073709551616 : Nat) : Int) := shlI_nat (s := 8) (by decide)
  rw [e8, wu64_eq (by omega) (by omega), orI_nat (Nat.mod_lt _ (by decide)) (by omega)]
  have e : a * 2 ^ 8 % 18446744073709551616 = 2 ^ 8 * (a % 72057594037927936) := by omega
  rw [e, ← Nat.two_pow_add_eq_or_of_lt (by omega)]
  unfold lowStep
  congr 1
  omega
theorem lowB_lt (bs : List UInt8) : lowB bs < 18446744073709551616 := by
  unfold lowB
  have key : ∀ (bs : List UInt8) (a : Nat), a < 18446744073709551616 → bs.foldl lowStep a < 18446744073709551616 := by
    intro bs
    induction bs with
    | nil => exact fun a h => h
    | cons c bs ih => exact fun a _ => ih _ (Nat.mod_lt _ (by decide))
  exact key bs 0 (by decide)
theorem low_ok (w : World) (p : Sl) (bs : List UInt8) (hp : Bytes w p bs) (hl : bs.length ≤ 140737488355328) : Calls Try.prog 69 #[p.v] w (Ret r69 fun x w' => x = ((lowB bs : Nat) : Int) ∧ w = w') := by
  apply s69_calls
  have hpl := hp.1
  refine ⟨fun st w' => w = w' ∧ ∃ k : Nat, k ≤ bs.length ∧ st.2 = (k : Int) ∧ st.1 = ((lowB (bs.take k) : Nat) : Int), fun st _ => bs.length - st.2.toNat, ⟨rfl, 0, Nat.zero_le _, rfl, rfl⟩, ?_⟩
  rintro ⟨a, i⟩ w' ⟨rfl, k, hk, rfl, rfl⟩
  refine ⟨fun hlt => ?_, fun hge => ?_⟩
  · have hlt : k < bs.length := by have := of_decide_eq_true hlt; simp only at this; omega
    obtain ⟨a, ha, hc⟩ := hp.get hlt
    refine ⟨a, _, ha, by simp only; omega, by simp only; omega, rfl, (bs[k].toNat : Int), by simp only [Int.toNat_natCast, Nat.mul_one]; exact hc, ?_⟩
    simp only
    rw [lowStep_int _ (lowB_lt _), w64_eq (by omega) (by omega)]
    refine ⟨⟨trivial, k + 1, by omega, by omega, ?_⟩, by omega⟩
    rw [List.take_succ_eq_append_getElem hlt]
    unfold lowB
    rw [List.foldl_append]
    rfl
  · have hge : k = bs.length := by have := of_decide_eq_false hge; simp only at this; omega
    subst hge
    rw [List.take_length]
    exact ⟨rfl, rfl⟩
theorem high_ok (w : World) (n : Nat) (hn : n < 18446744073709551616) : Calls Try.prog 83 #[.int .u64 (n : Int)] w (Ret r83 fun x w' => Own w' w.heap.size 5 1 x (u8s (beB 8 n)) ∧ Ext w w') := by
  apply s83_calls
  refine ⟨by decide, by decide, by decide, by decide, fun b2 w2 hb2 hw2 => ?_⟩
  have hx2 : Ext w w2 := Ext.new hw2
  have hB2 : Blk w2 b2 5 (u8s (zeros 8)) := by
    unfold zeros
    rw [← zeros_u8']
    exact Blk.new hb2 hw2
  show LoopS _ _ _
  refine ⟨fun st w' => ∃ i : Nat, i ≤ 8 ∧ st.2 = (i : Int) ∧ st.1 = ((n / 256 ^ i : Nat) : Int) ∧ Blk w' b2 5 (u8s (zeros (8 - i) ++ beB i n)) ∧ Ext w w', fun st _ => 8 - st.2.toNat, ⟨0, by omega, rfl, by simp, by simpa [beB] using hB2, hx2⟩, ?_⟩
  rintro ⟨m, st⟩ w5 ⟨i, hi, rfl, rfl, hB, hx⟩
  refine ⟨fun hlt => ?_, fun hge => ?_⟩
  · have hlt : i < 8 := by have := of_decide_eq_true hlt; simp only at this; omega
    have e7 : IntKind.i64.wrap (7 - (i : Int)) = ((7 - i : Nat) : Int) := by rw [w64_eq (by omega) (by omega)]; omega
    simp only
    rw [e7, u8n, shr8]
    refine ⟨⟨b2, 0, none⟩, _, rfl, by omega, by show ((7 - i : Nat) : Int) < ((8 : Nat) : Int); omega, rfl, ?_⟩
    show st1 _ _ _ _
    rw [add_plain, Nat.zero_add, Int.toNat_natCast, Nat.mul_one]
    refine st1_blk hB (by rw [u8s_len, List.length_append, beB_len, zeros, List.length_replicate]; omega) fun w' hB' hf' => ?_
    rw [w64_eq (by omega) (by omega)]
    refine ⟨⟨i + 1, by omega, by omega, ?_, ?_, hf'.ext hx fun k _ e => by rw [e, hb2]; exact Nat.le_refl _⟩, by omega⟩
    · simp only [Nat.div_div_eq_div_mul, Nat.pow_succ]
    · have e : (u8s (zeros (8 - i) ++ beB i n)).set (7 - i) (.int .u8 ((UInt8.ofNat (n / 256 ^ i)).toNat : Int)) = u8s (zeros (8 - (i + 1)) ++ beB (i + 1) n) := by
        rw [show 8 - i = (7 - i) + 1 by omega, show 8 - (i + 1) = 7 - i by omega]
        unfold zeros
        rw [List.replicate_succ', List.append_assoc, u8s_append, List.set_append_right _ _ (by rw [u8s_len, List.length_replicate]; exact Nat.le_refl _), u8s_len, List.length_replicate, Nat.sub_self, u8s_append, beB, u8s_append]
        rfl
      rw [← e]; exact hB'
  · have hge : i = 8 := by have := of_decide_eq_false hge; simp only at this; omega
    subst hge
    have hB' : Blk w5 b2 5 (u8s (beB 8 n)) := hB
    exact ⟨Own.ofBlk hB' (by rw [u8s_len, beB_len]; rfl) (by rw [hb2]; exact Nat.le_refl _) (by decide), hx⟩
theorem clip8_ok (w : World) (s : Sl) (hs : s.len ≤ s.cap) : Calls Try.prog 49 #[s.v] w (Ret r49 fun x w' => x = ⟨s.a, s.len, s.len⟩ ∧ w = w') := by
  apply s49_calls
  refine ⟨⟨by omega, by omega, by omega, by omega⟩, ?_, rfl⟩
  simp [Sl.cut, Addr.add]
theorem grow_ok (w : World) (k : Nat) (hk : k ≤ 1000000000) : Calls Try.prog 84 #[nilSl.v, .int .i64 (k : Int)] w (Ret r84 fun x w' => Own w' w.heap.size 5 1 x [] ∧ Ext w w') := by
  apply s84_calls
  refine jn_of fun k1 hk1 => ⟨fun h => absurd (of_decide_eq_true h) (by omega), fun _ => ?_⟩
  rw [hk1]
  refine jn_of fun k2 hk2 => ?_
  have e0 : IntKind.i64.wrap ((k : Int) - IntKind.i64.wrap (((nilSl.cap : Nat) : Int) - ((nilSl.len : Nat) : Int))) = (k : Int) := by
    have : IntKind.i64.wrap (((nilSl.cap : Nat) : Int) - ((nilSl.len : Nat) : Int)) = 0 := by decide
    rw [this, w64_eq (by omega) (by omega)]; omega
  rw [e0]
  refine ⟨fun hpos => ?_, fun h0 => ?_⟩
  · have hpos : 0 < k := by have := of_decide_eq_true hpos; omega
    obtain ⟨hu, i, z, hi, hz, hs, hby, hc⟩ := mkCells_eq mk_39
    have hu3 : Try.prog.underlying 3 = some (.int .i64) := Try.underlying3
    have hrun := Go.Lib.run_append_grow_zeros (P := Try.prog) w 39 3 39 5 i z .i64 .i64 hu hu3 hi hz none 0 0 [] rfl k hpos (by omega) (by omega) (by omega) (by rw [hby]; omega)
      (by rw [hby]; have := nextslicecap_le (need := 0 + k) (old := 0) (by omega); omega)
    have hz1 : z.cells = #[Value.int .u8 0] := by
      have h2 : z.cells.toList = List.replicate 1 (Value.int .u8 0) := hc
      rw [← Array.toArray_toList (xs := z.cells), h2]
      rfl
    have hge := grownCap_ge w (0 + k) 0 5
    have hle : grownCap w (0 + k) 0 5 ≤ maxLen := grownCap_le_maxLen w _ _ _ (by simp only [maxLen]; omega)
    refine ⟨by decide, ⟨some ⟨w.heap.size, 0, none⟩, 0 + k, grownCap w (0 + k) 0 5⟩, _, hrun, ?_⟩
    refine ⟨⟨by decide, by decide, by simp⟩, ?_⟩
    show k2 _ _
    rw [hk2]
    have hsz : ∀ n, (Builtin.zeroCells z.cells n).size = n := by intro n; simp [Builtin.zeroCells, hz1]
    refine ⟨?_, Below.alloc (Below.drew (Ext.refl w)) (Nat.le_refl _) _⟩
    have hcut : Sl.cut ⟨some ⟨w.heap.size, 0, none⟩, 0 + k, grownCap w (0 + k) 0 5⟩ 1 0 (nilSl.len : Nat) (grownCap w (0 + k) 0 5 : Nat) = ⟨some ⟨w.heap.size, 0, none⟩, 0, grownCap w (0 + k) 0 5⟩ := by
      simp [Sl.cut, Addr.add]
    rw [hcut]
    refine Own.made (w := w.drew) (c := grownCap w (0 + k) 0 5) (cs := (#[] ++ Builtin.zeroCells z.cells k ++ Builtin.zeroCells z.cells (grownCap w (0 + k) 0 5 - (0 + k)) : Array Value).toList) rfl rfl (Nat.le_refl _) ?_ hle
    rw [Array.length_toList, Array.size_append, Array.size_append, hsz, hsz]
    show 0 + k + _ = _
    omega
  · show k2 _ _
    rw [hk2]
    exact ⟨Own.nil _ _ _ _, Ext.refl _⟩

theorem Own.lower {w : World} {base base' : Nat} {e : TypeId} {size : Nat} {s : Sl} {xs : List Value} (h : Own w base e size s xs) (hb : base' ≤ base) : Own w base' e size s xs := by
  refine ⟨h.1, ?_⟩
  rcases h.2 with h | ⟨g, cap, cur, h1, h2, h3⟩
  · exact .inl h
  · exact .inr ⟨g, cap, cur, h1, Nat.le_trans hb h2, h3⟩
/-- parts put together, one behind the other -/
theorem sum_le : ∀ (l : List (List UInt8)) (k : Nat), (l.take k).flatten.length ≤ l.flatten.length := by
  intro l k
  rw [List.length_flatten, List.length_flatten]
  conv => rhs; rw [← List.take_append_drop k l, List.map_append, List.sum_append]
  omega
theorem concat_ok (w : World) (p : Sl) (l : List (List UInt8)) (h : Parts w p l) (hl : l.length ≤ 1000000) (hf : l.flatten.length ≤ 1000000000) :
    Calls Try.prog 71 #[p.v] w (Ret r71 fun x w' => Own w' w.heap.size 5 1 x (u8s l.flatten) ∧ x.len = l.flatten.length ∧ Ext w w') := by
  apply s71_calls
  have hpl := h.len
  have hstep : ∀ k (hk : k < l.length), (l.take (k + 1)).flatten = (l.take k).flatten ++ l[k] := by
    intro k hk
    rw [List.take_succ_eq_append_getElem hk, List.flatten_append]
    simp
  refine ⟨fun st w' => w = w' ∧ ∃ k : Nat, k ≤ l.length ∧ st.2 = (k : Int) ∧ st.1 = ((l.take k).flatten.length : Int), fun st _ => l.length - st.2.toNat, ⟨rfl, 0, Nat.zero_le _, rfl, by simp⟩, ?_⟩
  rintro ⟨n, i⟩ w' ⟨rfl, k, hk, rfl, rfl⟩
  refine ⟨fun hlt => ?_, fun hge => ?_⟩
  · have hlt : k < l.length := by have := of_decide_eq_true hlt; simp only at this; omega
    obtain ⟨a, sl, ha, hc, hb⟩ := h.get hlt
    have hbl := hb.1
    have h1 := sum_le l (k + 1)
    rw [hstep k hlt, List.length_append] at h1
    refine jn_of fun k1 hk1 => ?_
    refine ⟨a, _, ha, by simp only; omega, by simp only; omega, rfl, sl, by simp only [Int.toNat_natCast, Nat.mul_one]; exact hc, ?_⟩
    simp only
    rw [w64_eq (by omega) (by omega)]
    refine ⟨fun h => absurd (of_decide_eq_true h) (by omega), fun _ => ?_⟩
    rw [hk1]
    simp only
    rw [w64_eq (by omega) (by omega)]
    refine ⟨⟨trivial, k + 1, by omega, by omega, ?_⟩, by omega⟩
    rw [hstep k hlt, List.length_append]
    omega
  · have hge : k = l.length := by have := of_decide_eq_false hge; simp only at this; omega
    subst hge
    rw [List.take_length]
    refine cR_of (grow_ok w l.flatten.length hf) ?_
    rintro x24 w25 ⟨ho25, hx25⟩
    have h25 := h.ext hx25
    refine ⟨fun st w' => ∃ k : Nat, k ≤ l.length ∧ st.2 = (k : Int) ∧ Own w' w.heap.size 5 1 st.1 (u8s (l.take k).flatten) ∧ Ext w w', fun st _ => l.length - st.2.toNat, ⟨0, Nat.zero_le _, rfl, by rw [List.take_zero]; exact ho25, hx25⟩, ?_⟩
    rintro ⟨s, i⟩ w27 ⟨k, hk, rfl, ho, hx⟩
    simp only at ho ⊢
    refine ⟨fun hlt => ?_, fun hge => ?_⟩
    · have hlt : k < l.length := by have := of_decide_eq_true hlt; omega
      obtain ⟨a, sl, ha, hc, hb⟩ := (h.ext hx).get hlt
      have hbl := hb.1
      have hol := ho.length
      rw [u8s_length] at hol
      have h1 := sum_le l (k + 1)
      rw [hstep k hlt, List.length_append] at h1
      refine ⟨a, _, ha, by omega, by omega, rfl, sl, by rw [Int.toNat_natCast, Nat.mul_one]; exact hc, ?_⟩
      refine app_ok (base := w.heap.size) mk_39 rfl (by decide) ho (news := u8s l[k]) (by rw [u8s_length]; omega) hb.2 (u8s_one _) (by simp only [maxLen]; omega) (by first | omega | (simp only; omega)) hx.size ?_
      intro s' w' hl' ho' _ hB'
      rw [w64_eq (by omega) (by omega)]
      refine ⟨⟨k + 1, by omega, by omega, ?_, hB' _ _ hx (Nat.le_refl _) hx.size⟩, by omega⟩
      rw [hstep k hlt, u8s_append]; exact ho'
    · have hge : k = l.length := by have := of_decide_eq_false hge; omega
      subst hge
      rw [List.take_length] at ho
      have hol := ho.length
      rw [u8s_length] at hol
      exact ⟨ho, by omega, hx⟩
theorem at_frozen_new {w w2 w3 : World} {b : Nat} {e : TypeId} {cs : List Value} (hb : b = w.heap.size) (hw : w2 = w.alloc (.cells cs.toArray e)) (hw3 : w3 = w2.freeze ⟨b, cs.toArray.size, none⟩ 1) : At w3 ⟨b, 0, none⟩ cs ∧ Ext w w3 := by
  refine ⟨by rw [hw3]; exact At.freeze (At.new hb hw) _ _, ?_⟩
  rw [hw3]
  exact (Ext.new hw).freeze 1 (by rw [hb]; exact Nat.le_refl _)
theorem half_ok (w : World) (a b : Nat) (ha : a < 18446744073709551616) (hb : b < 18446744073709551616) :
    Calls Try.prog 70 #[.int .u64 (a : Int), .int .u64 (b : Int)] w (Ret r70 fun x w' => Own w' w.heap.size 5 1 x (u8s (halfB a b)) ∧ x.len = 24 ∧ Ext w w') := by
  apply s70_calls
  intro b1 w2 hb1 hw2
  refine ⟨b1, 0, _, 5, (0, 0), rfl, by rw [hb1, hw2]; exact heap_new _ _, ?_⟩
  intro w3 hw3
  obtain ⟨hA, hx3⟩ := at_frozen_new hb1 hw2 hw3
  refine cR_of (high_ok w3 a ha) ?_
  rintro x4 w5 ⟨ho4, hx5⟩
  refine cR_of (high_ok w5 b hb) ?_
  rintro x6 w7 ⟨ho6, hx7⟩
  intro b8 w9 hb8 hw9
  have hx9 : Ext w7 w9 := Ext.new hw9
  have hp : Parts w9 ⟨some ⟨b8, 0, none⟩, 3, 3⟩ [magic, beB 8 a, beB 8 b] := by
    refine ⟨[⟨some ⟨b1, 0, none⟩, 8, 8⟩, x4, x6], rfl, rfl, At.new hb8 hw9, ?_⟩
    intro k s c hs hc
    rcases k with _ | _ | _ | k
    · simp at hs hc
      subst hs; subst hc
      exact ⟨rfl, ((hx5.trans hx7).trans hx9).at hA⟩
    · simp at hs hc
      subst hs; subst hc
      exact ((ho4.ext hx7).ext hx9).bytes
    · simp at hs hc
      subst hs; subst hc
      exact (ho6.ext hx9).bytes
    · simp at hs
  have hfl : [magic, beB 8 a, beB 8 b].flatten = halfB a b := by simp [halfB]
  refine cR_of (concat_ok w9 _ _ hp (by simp) (by rw [hfl, halfB_len]; decide)) ?_
  rintro x10 w11 ⟨ho, hl, hx11⟩
  rw [hfl] at ho hl
  rw [halfB_len] at hl
  have hx : Ext w w9 := ((hx3.trans hx5).trans hx7).trans hx9
  exact ⟨Own.lower ho hx.size, hl, hx.trans hx11⟩

theorem cut_ok {w : World} {p : Sl} {b : List UInt8} (h : Bytes w p b) (hc : p.len ≤ p.cap) {i j : Nat} (h1 : i ≤ j) (h2 : j ≤ b.length) : Bytes w (p.cut 1 (i : Nat) (j : Nat) (p.cap : Nat)) (sliceB b i j) := by
  have := h.1
  exact h.cut h1 (by omega) h2
theorem right_ok (w : World) (p : Sl) (b : List UInt8) (h : Bytes w p b) (hc : p.len ≤ p.cap) (hl : b.length = 512) (room : Nat) (hr : room ≤ 1000000000) :
    Calls Try.prog 47 #[p.v, .int .i64 (room : Int)] w (Ret r47 fun x w' => x = (((right b room).1 : Int), ((right b room).2 : Int)) ∧ Ext w w') := by
  apply s47_calls
  have hpl := h.1
  intro w1 hw1
  have hx1 : Ext w w1 := by subst hw1; exact Ext.drew _
  refine ⟨⟨by omega, by omega, by omega⟩, ⟨by omega, by omega, by omega⟩, ?_⟩
  have hc8 := cut_ok h hc (i := 8) (j := 16) (by decide) (by omega)
  have hc16 := cut_ok h hc (i := 16) (j := 24) (by decide) (by omega)
  have hc0 := cut_ok h hc (i := 0) (j := 24) (by decide) (by omega)
  have hc24 := cut_ok h hc (i := 24) (j := 48) (by decide) (by omega)
  have hsl : ∀ i j, (sliceB b i j).length ≤ 512 := by intro i j; simp [sliceB]; omega
  refine cR_of (low_ok w1 _ _ (hc8.ext hx1) (Nat.le_trans (hsl _ _) (by decide))) ?_
  rintro x3 w4 ⟨rfl, rfl⟩
  refine cR_of (low_ok w1 _ _ (hc16.ext hx1) (Nat.le_trans (hsl _ _) (by decide))) ?_
  rintro x5 w6 ⟨rfl, rfl⟩
  obtain ⟨seq, hseq⟩ : ∃ s, s = lowB (sliceB b 8 16) := ⟨_, rfl⟩
  obtain ⟨n, hn⟩ : ∃ s, s = lowB (sliceB b 16 24) := ⟨_, rfl⟩
  have hsl1 : seq < 18446744073709551616 := by rw [hseq]; exact lowB_lt _
  have hnl : n < 18446744073709551616 := by rw [hn]; exact lowB_lt _
  rw [← hseq, ← hn]
  intro w7 hw7
  have hx7 : Ext w1 w7 := by subst hw7; exact Ext.drew _
  have hx7' := hx1.trans hx7
  refine ⟨⟨by omega, by omega, by omega⟩, _, (hc0.ext hx1).1, (hc0.ext hx1).2, ?_⟩
  refine cR_of (half_ok w7 seq n hsl1 hnl) ?_
  rintro x10 w11 ⟨ho10, hl10, hx11⟩
  have hx11' := hx7'.trans hx11
  refine ⟨hx7.trans hx11, _, ho10.bytes.1, ho10.bytes.2, ?_⟩
  -- the end
  refine jn_of fun k1 hk1 => ?_
  have key1 : ∀ (w' : World) (q : Bool), Ext w w' → (q = false ↔ (sliceB b 0 24 = halfB seq n ∧ sliceB b 24 48 = halfB n seq)) → k1 q w' := by
    intro w' q hx' hq
    rw [hk1]
    refine jn_of fun k2 hk2 => ?_
    have key2 : ∀ q2 : Bool, (q2 = false ↔ ((sliceB b 0 24 = halfB seq n ∧ sliceB b 24 48 = halfB n seq) ∧ 1 ≤ seq)) → k2 q2 w' := by
      intro q2 hq2
      rw [hk2]
      refine jn_of fun k3 hk3 => ?_
      have key3 : ∀ q3 : Bool, (q3 = false ↔ (((sliceB b 0 24 = halfB seq n ∧ sliceB b 24 48 = halfB n seq) ∧ 1 ≤ seq) ∧ seq ≤ last)) → k3 q3 w' := by
        intro q3 hq3
        rw [hk3]
        refine jn_of fun k4 hk4 => ?_
        have key4 : ∀ q4 : Bool, (q4 = false ↔ ((((sliceB b 0 24 = halfB seq n ∧ sliceB b 24 48 = halfB n seq) ∧ 1 ≤ seq) ∧ seq ≤ last) ∧ n ≤ room)) → k4 q4 w' := by
          intro q4 hq4
          rw [hk4]
          unfold right
          simp only [← hseq, ← hn]
          refine ⟨fun ht => ?_, fun hf => ?_⟩
          · rw [if_neg (fun hh => by rw [hq4.2 ⟨⟨⟨⟨hh.1, hh.2.1⟩, hh.2.2.1⟩, hh.2.2.2.1⟩, hh.2.2.2.2⟩] at ht; cases ht)]
            exact ⟨rfl, hx'⟩
          · obtain ⟨⟨⟨⟨a1, a2⟩, a3⟩, a4⟩, a5⟩ := hq4.1 hf
            rw [if_pos ⟨a1, a2, a3, a4, a5⟩, w64_eq (by omega) (by omega)]
            exact ⟨rfl, hx'⟩
        refine ⟨fun ht => key4 true ⟨fun h => absurd h (by decide), fun hh => by rw [hq3.2 hh.1] at ht; cases ht⟩, fun hf => key4 _ ?_⟩
        rw [wu64_eq (by omega) (by omega), decide_eq_false_iff_not]
        exact ⟨fun hh => ⟨hq3.1 hf, by omega⟩, fun hh => by have := hh.2; omega⟩
      refine ⟨fun ht => key3 true ⟨fun h => absurd h (by decide), fun hh => by rw [hq2.2 hh.1] at ht; cases ht⟩, fun hf => key3 _ ?_⟩
      rw [decide_eq_false_iff_not]
      exact ⟨fun hh => ⟨hq2.1 hf, by unfold last; omega⟩, fun hh => by have := hh.2; unfold last at this; omega⟩
    refine ⟨fun ht => key2 true ⟨fun h => absurd h (by decide), fun hh => by rw [hq.2 hh.1] at ht; cases ht⟩, fun hf => key2 _ ?_⟩
    rw [decide_eq_false_iff_not]
    exact ⟨fun hh => ⟨hq.1 hf, by omega⟩, fun hh => by have := hh.2; omega⟩
  refine ⟨fun hne => key1 w11 true hx11' ⟨fun h => absurd h (by decide), fun hh => absurd hh.1 (nd_t hne)⟩, fun he => ?_⟩
  refine ⟨⟨by omega, by omega, by omega⟩, _, (hc24.ext hx1).1, (hc24.ext hx1).2, ?_⟩
  refine cR_of (half_ok w11 n seq hnl hsl1) ?_
  rintro x18 w19 ⟨ho18, hl18, hx19⟩
  refine ⟨(hx7.trans hx11).trans hx19, _, ho18.bytes.1, ho18.bytes.2, ?_⟩
  refine key1 w19 _ (hx11'.trans hx19) ?_
  rw [Bool.not_eq_false', decide_eq_true_iff]
  exact ⟨fun hh => ⟨nd_f he, hh⟩, fun hh => hh.2⟩
end Go.Proofs.Ytagkcbbbdlmcjaa
end
section
/- The typed readings of the functions, and that the program meets each: written by gen.py (a program of this session). -/
set_option linter.unusedVariables false
set_option linter.unusedSimpArgs false
namespace Go.Proofs.Ytagkcbbbdlmcjaa
open Go.Lift
set_option maxRecDepth 100000 in
set_option maxHeartbeats 4000000 in
theorem s50_calls (K : Sl × Int → World → Prop) (p0 : Sl) (w : World) (h : s50 K p0 w) :
    Calls Try.prog 50 #[Sl.v p0] w (Ret r50 K) := by
  unfold s50 at h
  refine calls_of_CW (n := 65) Try.func50 rfl rfl rfl ?_
  refine CW.seq ?_
  refine CW.region ?_
  refine RL.opS trivial rfl (OpW.assign (v := Sl.v nilSl) rfl ?_)
  refine RL.opS trivial rfl (OpW.assign (v := .int .i64 0) rfl ?_)
  refine RL.nil ?_
  refine CW.seq ?_
  refine CW.region ?_
  refine RL.opS trivial rfl (OpW.assign (v := Sl.v nilSl) rfl ?_)
  refine RL.nil ?_
  refine CW.seq ?_
  refine CW.block ?_
  obtain ⟨I58, mu59, hI, hs⟩ := h
  refine CW.loop (σ := Sl × Sl) (fun s1 ρ => ρ 0 = Sl.v s1.1 ∧ ρ 4 = Sl.v s1.2) I58 mu59 (p0, nilSl) ⟨rfl, rfl⟩ hI ?_
  rintro s1 ρ w2 ⟨e4, e5⟩ hI
  have h := hs s1 w2 hI
  clear hs hI
  refine CW.seq ?_
  refine CW.seq ?_
  refine CW.region ?_
  refine RL.opS trivial rfl (OpW.move (v := Sl.v s1.1) e4 ?_)
  refine RL.opS trivial rfl (OpW.len (s := s1.1) slice_39 rfl ?_)
  refine RL.opS trivial rfl (OpW.bin (k := .i64) (a := (s1.1.len : Int)) (b := 0) (v := .bool (decide (0 < (s1.1.len : Int)))) rfl rfl rfl ?_)
  refine RL.nil ?_
  obtain ⟨ha, hc⟩ := h
  refine CW.cond (b := (decide (0 < (s1.1.len : Int)))) rfl (fun hb6 => ?_) (fun hb6 => ?_)
  · have h := ha hb6; clear ha hc
    refine CW.skip ?_
    refine CW.block ?_
    refine CW.seq ?_
    refine CW.region ?_
    refine RL.opS trivial rfl (OpW.move (v := Sl.v s1.1) e4 ?_)
    refine RL.opS trivial rfl (OpW.callR (al := [Sl.v s1.1]) Try.func72 fb_72 fn_72 rfl h (fun x7 w8 h => ?_))
    refine RL.opS trivial rfl (OpW.assign (v := .pointer x7) rfl ?_)
    refine RL.nil ?_
    refine CW.seq ?_
    refine CW.region ?_
    refine RL.opS trivial rfl (OpW.move (v := .pointer x7) rfl ?_)
    refine RL.opS trivial rfl (OpW.callR (al := [.pointer x7]) Try.func73 fb_73 fn_73 rfl h (fun x9 w10 h => ?_))
    refine RL.opS trivial rfl (OpW.assign (v := .int .u64 x9) rfl ?_)
    refine RL.nil ?_
    refine CW.seq ?_
    refine CW.region ?_
    refine RL.opS trivial rfl (OpW.move (v := Sl.v s1.1) e4 ?_)
    refine RL.opS trivial rfl (OpW.len (s := s1.1) slice_39 rfl ?_)
    refine RL.opS trivial rfl (OpW.move (v := .pointer x7) rfl ?_)
    refine RL.opS trivial rfl (OpW.callR (al := [.pointer x7]) Try.func74 fb_74 fn_74 rfl h (fun x11 w12 h => ?_))
    refine RL.opS trivial rfl (OpW.bin (k := .i64) (a := (s1.1.len : Int)) (b := x11) (v := .int .i64 (IntKind.i64.wrap ((s1.1.len : Int) - x11))) rfl rfl rfl ?_)
    refine RL.opS trivial rfl (OpW.assign (v := .int .i64 (IntKind.i64.wrap ((s1.1.len : Int) - x11))) rfl ?_)
    refine RL.nil ?_
    refine CW.seq ?_
    refine CW.seq ?_
    refine CW.region ?_
    refine RL.opS trivial rfl (OpW.move (v := .pointer x7) rfl ?_)
    refine RL.opS trivial rfl (OpW.callR (al := [.pointer x7]) Try.func75 fb_75 fn_75 rfl h (fun x13 w14 h => ?_))
    refine RL.opS trivial rfl (OpW.bin (k := .i64) (a := x13) (b := 0) (v := .bool (!decide (x13 = 0))) rfl rfl rfl ?_)
    refine RL.opS trivial rfl (OpW.move (v := .bool (!decide (x13 = 0))) rfl ?_)
    refine jn_elim h ?_; clear h; intro k56 hk57 h
    refine RL.joinAt (A := Bool) 4 (fun s19 ρ => ρ 29 = .bool s19 ∧ ρ 0 = Sl.v s1.1 ∧ ρ 4 = Sl.v s1.2 ∧ ρ 5 = .pointer x7 ∧ ρ 6 = .int .u64 x9 ∧ ρ 7 = .int .i64 (IntKind.i64.wrap ((s1.1.len : Int) - x11))) k56 ?_ ?_
    · rintro s19 ρ w20 ⟨e21, e22, e23, e24, e25, e26⟩ h
      subst hk57
      dsimp only [List.drop]
      refine RL.opS trivial rfl (OpW.move (v := .bool s19) e21 ?_)
      refine jn_elim h ?_; clear h; intro k54 hk55 h
      refine RL.joinAt (A := Bool) 7 (fun s31 ρ => ρ 37 = .bool s31 ∧ ρ 0 = Sl.v s1.1 ∧ ρ 4 = Sl.v s1.2 ∧ ρ 6 = .int .u64 x9 ∧ ρ 7 = .int .i64 (IntKind.i64.wrap ((s1.1.len : Int) - x11))) k54 ?_ ?_
      · rintro s31 ρ w32 ⟨e33, e34, e35, e36, e37⟩ h
        subst hk55
        dsimp only [List.drop]
        refine RL.nil ?_
        obtain ⟨ha, hc⟩ := h
        refine CW.cond (b := s31) e33 (fun hb38 => ?_) (fun hb38 => ?_)
        · have h := ha hb38; clear ha hc
          refine CW.seq ?_
          refine CW.region ?_
          refine RL.opS trivial rfl (OpW.assign (v := Sl.v nilSl) rfl ?_)
          refine RL.opS trivial rfl (OpW.assign (v := .int .i64 7) rfl ?_)
          refine RL.nil ?_
          refine CW.ret ?_
          exact ret_intro (res2 rfl rfl rfl) ⟨(nilSl, 7), rfl, h⟩
        · have h := hc hb38; clear ha hc
          refine CW.skip ?_
          refine CW.seq ?_
          refine CW.region ?_
          refine RL.opS trivial rfl (OpW.move (v := .int .i64 (IntKind.i64.wrap ((s1.1.len : Int) - x11))) e37 ?_)
          refine RL.opS trivial rfl (OpW.bin (k := .i64) (a := (IntKind.i64.wrap ((s1.1.len : Int) - x11))) (b := 4) (v := .int .i64 (IntKind.i64.wrap ((IntKind.i64.wrap ((s1.1.len : Int) - x11)) + 4))) rfl rfl rfl ?_)
          refine RL.opS trivial rfl (OpW.move (v := .int .u64 x9) e36 ?_)
          refine RL.opS trivial rfl (OpW.convInt (a := x9) int_25 int_3 rfl ?_)
          refine RL.opS trivial rfl (OpW.bin (k := .i64) (a := (IntKind.i64.wrap ((IntKind.i64.wrap ((s1.1.len : Int) - x11)) + 4))) (b := (IntKind.i64.wrap x9)) (v := .int .i64 (IntKind.i64.wrap ((IntKind.i64.wrap ((IntKind.i64.wrap ((s1.1.len : Int) - x11)) + 4)) + (IntKind.i64.wrap x9)))) rfl rfl rfl ?_)
          refine RL.opS trivial rfl (OpW.assign (v := .int .i64 (IntKind.i64.wrap ((IntKind.i64.wrap ((IntKind.i64.wrap ((s1.1.len : Int) - x11)) + 4)) + (IntKind.i64.wrap x9)))) rfl ?_)
          refine RL.nil ?_
          refine CW.seq ?_
          refine CW.region ?_
          refine RL.opS trivial rfl (OpW.move (v := Sl.v s1.1) e34 ?_)
          refine RL.opS trivial rfl (OpW.move (v := .int .i64 (IntKind.i64.wrap ((s1.1.len : Int) - x11))) e37 ?_)
          refine RL.opS trivial rfl (OpW.bin (k := .i64) (a := (IntKind.i64.wrap ((s1.1.len : Int) - x11))) (b := 4) (v := .int .i64 (IntKind.i64.wrap ((IntKind.i64.wrap ((s1.1.len : Int) - x11)) + 4))) rfl rfl rfl ?_)
          refine RL.opS trivial rfl (OpW.move (v := .int .i64 (IntKind.i64.wrap ((IntKind.i64.wrap ((IntKind.i64.wrap ((s1.1.len : Int) - x11)) + 4)) + (IntKind.i64.wrap x9)))) rfl ?_)
          obtain ⟨⟨h1, h2, h3⟩, h⟩ := h
          refine RL.opS trivial rfl (OpW.sliceSl (l := (IntKind.i64.wrap ((IntKind.i64.wrap ((s1.1.len : Int) - x11)) + 4))) (h := (IntKind.i64.wrap ((IntKind.i64.wrap ((IntKind.i64.wrap ((s1.1.len : Int) - x11)) + 4)) + (IntKind.i64.wrap x9)))) slice_39 rfl ⟨_, rfl⟩ ⟨_, rfl⟩ h1 h2 (.inr h3) ?_)
          refine RL.opS trivial rfl (OpW.assign (v := Sl.v (s1.1.cut 1 (IntKind.i64.wrap ((IntKind.i64.wrap ((s1.1.len : Int) - x11)) + 4)) (IntKind.i64.wrap ((IntKind.i64.wrap ((IntKind.i64.wrap ((s1.1.len : Int) - x11)) + 4)) + (IntKind.i64.wrap x9))) s1.1.cap)) rfl ?_)
          refine RL.nil ?_
          refine CW.seq ?_
          refine CW.seq ?_
          obtain ⟨w39, hw39_⟩ : ∃ w_, w_ = w32.drew := ⟨_, rfl⟩
          have h := h w39 hw39_
          have hx40 : Ext w32 w39 := by rw [hw39_]; exact Ext.drew _
          refine CW.draws (m := 8) (listed := #[false, false, false, false, false, false, false, false]) mixed [0, 1, 2, 3, 4, 5, 6, 7] (Ext w32) rfl rfl ?_
          rw [← hw39_]
          refine DL.takeP (listed' := #[true, false, false, false, false, false, false, false]) (v := Sl.v (s1.1.cut 1 (IntKind.i64.wrap ((IntKind.i64.wrap ((s1.1.len : Int) - x11)) + 4)) (IntKind.i64.wrap ((IntKind.i64.wrap ((IntKind.i64.wrap ((s1.1.len : Int) - x11)) + 4)) + (IntKind.i64.wrap x9))) s1.1.cap)) 0 rfl rfl (by kernel_rfl) rfl trivial rfl (fun w_ K_ h_ => OpW.move (v := Sl.v (s1.1.cut 1 (IntKind.i64.wrap ((IntKind.i64.wrap ((s1.1.len : Int) - x11)) + 4)) (IntKind.i64.wrap ((IntKind.i64.wrap ((IntKind.i64.wrap ((s1.1.len : Int) - x11)) + 4)) + (IntKind.i64.wrap x9))) s1.1.cap)) rfl h_) ?_
          refine DL.takeP (listed' := #[true, false, false, true, false, false, false, false]) (v := Sl.v s1.1) 3 rfl rfl (by kernel_rfl) rfl trivial rfl (fun w_ K_ h_ => OpW.move (v := Sl.v s1.1) e34 h_) ?_
          refine DL.takeP (listed' := #[true, false, false, true, true, false, false, false]) (v := .int .i64 (IntKind.i64.wrap ((IntKind.i64.wrap ((IntKind.i64.wrap ((s1.1.len : Int) - x11)) + 4)) + (IntKind.i64.wrap x9)))) 4 rfl rfl (by kernel_rfl) rfl trivial rfl (fun w_ K_ h_ => OpW.move (v := .int .i64 (IntKind.i64.wrap ((IntKind.i64.wrap ((IntKind.i64.wrap ((s1.1.len : Int) - x11)) + 4)) + (IntKind.i64.wrap x9)))) rfl h_) ?_
          obtain ⟨⟨h1, h2, h3⟩, h⟩ := h
          refine DL.takeP (listed' := #[true, false, false, true, true, true, false, false]) (v := Sl.v (s1.1.cut 1 0 (IntKind.i64.wrap ((IntKind.i64.wrap ((IntKind.i64.wrap ((s1.1.len : Int) - x11)) + 4)) + (IntKind.i64.wrap x9))) s1.1.cap)) 5 rfl rfl (by kernel_rfl) rfl trivial rfl (fun w_ K_ h_ => OpW.sliceSl (l := 0) (h := (IntKind.i64.wrap ((IntKind.i64.wrap ((IntKind.i64.wrap ((s1.1.len : Int) - x11)) + 4)) + (IntKind.i64.wrap x9)))) slice_39 rfl rfl ⟨_, rfl⟩ h1 h2 (.inr h3) h_) ?_
          obtain ⟨x41, h1, h2, h⟩ := h
          refine DL.takeK (listed' := #[true, false, false, true, true, true, true, false]) (v := str x41) 6 rfl rfl (by kernel_rfl) (by kernel_rfl) rfl trivial rfl hx40 (fun w_ hS_ K_ h_ => OpW.b2s bsl_39 str_9 rfl h1 (hS_.atO h2) h_) ?_
          refine DL.execS (listed' := #[true, true, false, true, true, true, true, false]) 1 rfl (by kernel_rfl) rfl trivial rfl (OpW.callR (al := [Sl.v (s1.1.cut 1 (IntKind.i64.wrap ((IntKind.i64.wrap ((s1.1.len : Int) - x11)) + 4)) (IntKind.i64.wrap ((IntKind.i64.wrap ((IntKind.i64.wrap ((s1.1.len : Int) - x11)) + 4)) + (IntKind.i64.wrap x9))) s1.1.cap)]) Try.func54 fb_54 fn_54 rfl h (fun x42 w43 h => ?_))
          obtain ⟨hx44, h⟩ := h
          refine ⟨(fun _ _ => hx44), ?_⟩
          obtain ⟨x45, h1, h2, h⟩ := h
          refine DL.execS (listed' := #[true, true, true, true, true, true, true, false]) 2 rfl (by kernel_rfl) rfl trivial rfl (OpW.b2s bsl_39 str_9 rfl h1 h2 ?_)
          refine ⟨(fun _ _ => hx44), ?_⟩
          refine DL.takeP (listed' := #[true, true, true, true, true, true, true, true]) (v := .bool (!decide (x45 = x41))) 7 rfl rfl (by kernel_rfl) rfl trivial rfl (fun w_ K_ h_ => OpW.strCmp (b := !decide (x45 = x41)) rfl rfl rfl h_) ?_
          refine DL.done (by kernel_rfl) ?_
          obtain ⟨ha, hc⟩ := h
          refine CW.cond (b := (!decide (x45 = x41))) rfl (fun hb47 => ?_) (fun hb47 => ?_)
          · have h := ha hb47; clear ha hc
            refine CW.seq ?_
            refine CW.region ?_
            refine RL.opS trivial rfl (OpW.assign (v := Sl.v nilSl) rfl ?_)
            refine RL.opS trivial rfl (OpW.assign (v := .int .i64 20) rfl ?_)
            refine RL.nil ?_
            refine CW.ret ?_
            exact ret_intro (res2 rfl rfl rfl) ⟨(nilSl, 20), rfl, h⟩
          · have h := hc hb47; clear ha hc
            refine CW.skip ?_
            refine CW.seq ?_
            refine CW.region ?_
            refine RL.opS trivial rfl (OpW.move (v := Sl.v s1.2) e35 ?_)
            refine RL.opS trivial rfl (OpW.move (v := Sl.v (s1.1.cut 1 (IntKind.i64.wrap ((IntKind.i64.wrap ((s1.1.len : Int) - x11)) + 4)) (IntKind.i64.wrap ((IntKind.i64.wrap ((IntKind.i64.wrap ((s1.1.len : Int) - x11)) + 4)) + (IntKind.i64.wrap x9))) s1.1.cap)) rfl ?_)
            refine RL.opS trivial rfl (OpW.callR (al := [Sl.v (s1.1.cut 1 (IntKind.i64.wrap ((IntKind.i64.wrap ((s1.1.len : Int) - x11)) + 4)) (IntKind.i64.wrap ((IntKind.i64.wrap ((IntKind.i64.wrap ((s1.1.len : Int) - x11)) + 4)) + (IntKind.i64.wrap x9))) s1.1.cap)]) Try.func53 fb_53 fn_53 rfl h (fun x48 w49 h => ?_))
            obtain ⟨b50, hb50_⟩ : ∃ b_, b_ = w49.heap.size := ⟨_, rfl⟩
            obtain ⟨w51, hw51_⟩ : ∃ w_, w_ = w49.alloc (.cells (List.toArray [Sl.v x48]) 39) := ⟨_, rfl⟩
            have h := h b50 w51 hb50_ hw51_
            refine RL.opS trivial rfl (OpW.buildSliceE (vs := [(0, Sl.v x48)]) (cs := [Sl.v x48]) (by rfl) (by kernel_rfl) hb50_ hw51_ ?_)
            obtain ⟨x52, w53, hr_, h⟩ := h
            refine RL.opS trivial rfl (OpW.appendL (v := Sl.v x52) rfl hr_ ?_)
            refine RL.opS trivial rfl (OpW.assign (v := Sl.v x52) rfl ?_)
            refine RL.nil ?_
            refine CW.region ?_
            refine RL.opS trivial rfl (OpW.move (v := Sl.v s1.1) e34 ?_)
            refine RL.opS trivial rfl (OpW.move (v := .int .i64 (IntKind.i64.wrap ((IntKind.i64.wrap ((IntKind.i64.wrap ((s1.1.len : Int) - x11)) + 4)) + (IntKind.i64.wrap x9)))) rfl ?_)
            obtain ⟨⟨h1, h2⟩, h⟩ := h
            refine RL.opS trivial rfl (OpW.sliceSl (l := (IntKind.i64.wrap ((IntKind.i64.wrap ((IntKind.i64.wrap ((s1.1.len : Int) - x11)) + 4)) + (IntKind.i64.wrap x9)))) (h := (s1.1.len : Int)) slice_39 rfl ⟨_, rfl⟩ rfl h1 h2 (.inl rfl) ?_)
            refine RL.opS trivial rfl (OpW.assign (v := Sl.v (s1.1.cut 1 (IntKind.i64.wrap ((IntKind.i64.wrap ((IntKind.i64.wrap ((s1.1.len : Int) - x11)) + 4)) + (IntKind.i64.wrap x9))) (s1.1.len : Int) s1.1.cap)) rfl ?_)
            refine RL.nil ?_
            exact ⟨((s1.1.cut 1 (IntKind.i64.wrap ((IntKind.i64.wrap ((IntKind.i64.wrap ((s1.1.len : Int) - x11)) + 4)) + (IntKind.i64.wrap x9))) (s1.1.len : Int) s1.1.cap), x52), ⟨rfl, rfl⟩, h⟩
      · clear hk55
        dsimp only [List.take]
        obtain ⟨ha, hc⟩ := h
        rcases Bool.eq_false_or_eq_true s19 with hb27 | hb27
        · have h := ha hb27; clear ha hc
          refine RL.skipS (notWanted_of rfl rfl hb27) rfl ?_
          refine RL.skipS (notWanted_of rfl rfl hb27) rfl ?_
          refine RL.skipS (notWanted_of rfl rfl hb27) rfl ?_
          refine RL.skipS (notWanted_of rfl rfl hb27) rfl ?_
          refine RL.skipS (notWanted_of rfl rfl hb27) rfl ?_
          refine RL.skipS (notWanted_of rfl rfl hb27) rfl ?_
          refine RL.opS trivial rfl (OpW.pick (b := true) (v := .bool true) (congrArg Value.bool hb27) rfl ?_)
          refine RL.nil ?_
          exact ⟨true, ⟨rfl, e22, e23, e25, e26⟩, h⟩
        · have h := hc hb27; clear ha hc
          refine RL.opS (wanted_of rfl rfl hb27) rfl (OpW.move (v := .int .u64 x9) e25 ?_)
          refine RL.opS (wanted_of rfl rfl hb27) rfl (OpW.move (v := .pointer x7) e24 ?_)
          refine RL.opS (wanted_of rfl rfl hb27) rfl (OpW.callR (al := [.pointer x7]) Try.func74 fb_74 fn_74 rfl h (fun x29 w30 h => ?_))
          refine RL.opS (wanted_of rfl rfl hb27) rfl (OpW.bin (k := .i64) (a := x29) (b := 4) (v := .int .i64 (IntKind.i64.wrap (x29 - 4))) rfl rfl rfl ?_)
          refine RL.opS (wanted_of rfl rfl hb27) rfl (OpW.convInt (a := (IntKind.i64.wrap (x29 - 4))) int_3 int_25 rfl ?_)
          refine RL.opS (wanted_of rfl rfl hb27) rfl (OpW.bin (k := .u64) (a := x9) (b := (IntKind.u64.wrap (IntKind.i64.wrap (x29 - 4)))) (v := .bool (decide ((IntKind.u64.wrap (IntKind.i64.wrap (x29 - 4))) < x9))) rfl rfl rfl ?_)
          refine RL.opS trivial rfl (OpW.pick (b := false) (v := .bool (decide ((IntKind.u64.wrap (IntKind.i64.wrap (x29 - 4))) < x9))) (congrArg Value.bool hb27) rfl ?_)
          refine RL.nil ?_
          exact ⟨(decide ((IntKind.u64.wrap (IntKind.i64.wrap (x29 - 4))) < x9)), ⟨rfl, e22, e23, e25, e26⟩, h⟩
    · clear hk57
      dsimp only [List.take]
      obtain ⟨ha, hc⟩ := h
      rcases Bool.eq_false_or_eq_true (!decide (x13 = 0)) with hb15 | hb15
      · have h := ha hb15; clear ha hc
        refine RL.skipS (notWanted_of rfl rfl hb15) rfl ?_
        refine RL.skipS (notWanted_of rfl rfl hb15) rfl ?_
        refine RL.skipS (notWanted_of rfl rfl hb15) rfl ?_
        refine RL.opS trivial rfl (OpW.pick (b := true) (v := .bool true) (congrArg Value.bool hb15) rfl ?_)
        refine RL.nil ?_
        exact ⟨true, ⟨rfl, e4, e5, rfl, rfl, rfl⟩, h⟩
      · have h := hc hb15; clear ha hc
        refine RL.opS (wanted_of rfl rfl hb15) rfl (OpW.move (v := .pointer x7) rfl ?_)
        refine RL.opS (wanted_of rfl rfl hb15) rfl (OpW.callR (al := [.pointer x7]) Try.func74 fb_74 fn_74 rfl h (fun x17 w18 h => ?_))
        refine RL.opS (wanted_of rfl rfl hb15) rfl (OpW.bin (k := .i64) (a := x17) (b := 4) (v := .bool (decide (x17 < 4))) rfl rfl rfl ?_)
        refine RL.opS trivial rfl (OpW.pick (b := false) (v := .bool (decide (x17 < 4))) (congrArg Value.bool hb15) rfl ?_)
        refine RL.nil ?_
        exact ⟨(decide (x17 < 4)), ⟨rfl, e4, e5, rfl, rfl, rfl⟩, h⟩
  · have h := hc hb6; clear ha hc
    refine CW.exit ?_
    refine CW.seq ?_
    refine CW.region ?_
    refine RL.opS trivial rfl (OpW.move (v := Sl.v s1.2) e5 ?_)
    refine RL.opS trivial rfl (OpW.assign (v := Sl.v s1.2) rfl ?_)
    refine RL.opS trivial rfl (OpW.assign (v := .int .i64 0) rfl ?_)
    refine RL.nil ?_
    refine CW.ret ?_
    exact ret_intro (res2 rfl rfl rfl) ⟨(s1.2, 0), rfl, h⟩
end Go.Proofs.Ytagkcbbbdlmcjaa
end
section
/- The typed readings of the functions, and that the program meets each: written by gen.py (a program of this session). -/
set_option linter.unusedVariables false
set_option linter.unusedSimpArgs false
namespace Go.Proofs.Ytagkcbbbdlmcjaa
open Go.Lift
set_option maxRecDepth 100000 in
set_option maxHeartbeats 4000000 in
theorem s54_calls (K : Sl → World → Prop) (p0 : Sl) (w : World) (h : s54 K p0 w) :
    Calls Try.prog 54 #[Sl.v p0] w (Ret r54 K) := by
  unfold s54 at h
  refine calls_of_CW (n := 25) Try.func54 rfl rfl rfl ?_
  refine CW.seq ?_
  refine CW.region ?_
  refine RL.opS trivial rfl (OpW.assign (v := Sl.v nilSl) rfl ?_)
  refine RL.nil ?_
  refine CW.seq ?_
  refine CW.region ?_
  refine RL.opS trivial rfl (OpW.move (v := Sl.v p0) rfl ?_)
  obtain ⟨b1, hb1_⟩ : ∃ b_, b_ = w.heap.size := ⟨_, rfl⟩
  obtain ⟨w2, hw2_⟩ : ∃ w_, w_ = w.alloc (.cells (List.toArray [Sl.v p0]) 39) := ⟨_, rfl⟩
  have h := h b1 w2 hb1_ hw2_
  refine RL.opS trivial rfl (OpW.buildSliceE (vs := [(0, Sl.v p0)]) (cs := [Sl.v p0]) (by rfl) (by kernel_rfl) hb1_ hw2_ ?_)
  refine RL.opS trivial rfl (OpW.callR (al := [Sl.v ⟨some ⟨b1, 0, none⟩, 1, 1⟩]) Try.func77 fb_77 fn_77 rfl h (fun x3 w4 h => ?_))
  refine RL.opS trivial rfl (OpW.assign (v := .int .u32 x3) rfl ?_)
  refine RL.nil ?_
  refine CW.seq ?_
  refine CW.region ?_
  refine RL.opS trivial rfl (OpW.move (v := Sl.v p0) rfl ?_)
  refine RL.opS trivial rfl (OpW.len (s := p0) slice_39 rfl ?_)
  refine RL.opS trivial rfl (OpW.convInt (a := (p0.len : Int)) int_3 int_25 rfl ?_)
  refine RL.opS trivial rfl (OpW.callR (al := [.int .u64 (IntKind.u64.wrap (p0.len : Int))]) Try.func78 fb_78 fn_78 rfl h (fun x5 w6 h => ?_))
  refine RL.opS trivial rfl (OpW.assign (v := Sl.v x5) rfl ?_)
  refine RL.nil ?_
  refine CW.seq ?_
  refine CW.seq ?_
  refine CW.region ?_
  refine RL.opS trivial rfl (OpW.move (v := .int .i64 0) rfl ?_)
  refine RL.nil ?_
  refine CW.block ?_
  obtain ⟨I21, mu22, hI, hs⟩ := h
  refine CW.loop (σ := Int × Sl × Int) (fun s7 ρ => ρ 3 = .int .u32 s7.1 ∧ ρ 4 = Sl.v s7.2.1 ∧ ρ 12 = .int .i64 s7.2.2 ∧ ρ 0 = Sl.v p0) I21 mu22 (x3, x5, 0) ⟨rfl, rfl, rfl, rfl⟩ hI ?_
  rintro s7 ρ w8 ⟨e10, e11, e12, e13⟩ hI
  have h := hs s7 w8 hI
  clear hs hI
  refine CW.seq ?_
  refine CW.region ?_
  refine RL.opS trivial rfl (OpW.bin (k := .i64) (a := s7.2.2) (b := 4) (v := .bool (decide (s7.2.2 < 4))) e12 rfl rfl ?_)
  refine RL.nil ?_
  refine CW.seq ?_
  obtain ⟨ha, hc⟩ := h
  refine CW.cond (b := (decide (s7.2.2 < 4))) rfl (fun hb14 => ?_) (fun hb14 => ?_)
  · have h := ha hb14; clear ha hc
    refine CW.skip ?_
    refine CW.seq ?_
    refine CW.block ?_
    refine CW.seq ?_
    refine CW.region ?_
    refine RL.opS trivial rfl (OpW.move (v := Sl.v s7.2.1) e11 ?_)
    refine RL.opS trivial rfl (OpW.move (v := .int .u32 s7.1) e10 ?_)
    refine RL.opS trivial rfl (OpW.convInt (a := s7.1) int_129 int_5 rfl ?_)
    obtain ⟨b15, hb15_⟩ : ∃ b_, b_ = w8.heap.size := ⟨_, rfl⟩
    obtain ⟨w16, hw16_⟩ : ∃ w_, w_ = w8.alloc (.cells (List.toArray [.int .u8 (IntKind.u8.wrap s7.1)]) 5) := ⟨_, rfl⟩
    have h := h b15 w16 hb15_ hw16_
    refine RL.opS trivial rfl (OpW.buildSliceE (vs := [(0, .int .u8 (IntKind.u8.wrap s7.1))]) (cs := [.int .u8 (IntKind.u8.wrap s7.1)]) (by rfl) (by kernel_rfl) hb15_ hw16_ ?_)
    obtain ⟨x17, w18, hr_, h⟩ := h
    refine RL.opS trivial rfl (OpW.appendL (v := Sl.v x17) rfl hr_ ?_)
    refine RL.opS trivial rfl (OpW.assign (v := Sl.v x17) rfl ?_)
    refine RL.nil ?_
    refine CW.region ?_
    refine RL.opS trivial rfl (OpW.move (v := .int .u32 s7.1) e10 ?_)
    refine RL.opS trivial rfl (OpW.shift (a := s7.1) (b := 8) (v := .int .u32 (shrI .u32 s7.1 8)) rfl rfl (by decide) rfl ?_)
    refine RL.opS trivial rfl (OpW.assign (v := .int .u32 (shrI .u32 s7.1 8)) rfl ?_)
    refine RL.nil ?_
    refine CW.region ?_
    refine RL.opS trivial rfl (OpW.bin (k := .i64) (a := s7.2.2) (b := 1) (v := .int .i64 (IntKind.i64.wrap (s7.2.2 + 1))) e12 rfl rfl ?_)
    refine RL.opS trivial rfl (OpW.move (v := .int .i64 (IntKind.i64.wrap (s7.2.2 + 1))) rfl ?_)
    refine RL.nil ?_
    exact ⟨((shrI .u32 s7.1 8), x17, (IntKind.i64.wrap (s7.2.2 + 1))), ⟨rfl, rfl, rfl, e13⟩, h⟩
  · have h := hc hb14; clear ha hc
    refine CW.exit ?_
    refine CW.seq ?_
    refine CW.region ?_
    refine RL.opS trivial rfl (OpW.move (v := Sl.v s7.2.1) e11 ?_)
    refine RL.opS trivial rfl (OpW.move (v := Sl.v p0) e13 ?_)
    obtain ⟨x19, w20, hr_, h⟩ := h
    refine RL.opS trivial rfl (OpW.appendL (v := Sl.v x19) rfl hr_ ?_)
    refine RL.opS trivial rfl (OpW.assign (v := Sl.v x19) rfl ?_)
    refine RL.nil ?_
    refine CW.ret ?_
    exact ret_intro (res1 rfl rfl) ⟨x19, rfl, h⟩
end Go.Proofs.Ytagkcbbbdlmcjaa
end
section
/- The typed readings of the functions, and that the program meets each: written by gen.py (a program of this session). -/
set_option linter.unusedVariables false
set_option linter.unusedSimpArgs false
namespace Go.Proofs.Ytagkcbbbdlmcjaa
open Go.Lift
set_option maxRecDepth 100000 in
set_option maxHeartbeats 4000000 in
theorem s72_calls (K : Option Addr → World → Prop) (p0 : Sl) (w : World) (h : s72 K p0 w) :
    Calls Try.prog 72 #[Sl.v p0] w (Ret r72 K) := by
  unfold s72 at h
  refine calls_of_CW (n := 13) Try.func72 rfl rfl rfl ?_
  refine CW.seq ?_
  refine CW.region ?_
  refine RL.opS trivial rfl (OpW.assign (v := .pointer none) rfl ?_)
  refine RL.nil ?_
  refine CW.seq ?_
  refine CW.region ?_
  refine RL.opS trivial rfl (OpW.move (v := Sl.v p0) rfl ?_)
  refine RL.opS trivial rfl (OpW.len (s := p0) slice_39 rfl ?_)
  obtain ⟨h1, h2, h3, h4, h⟩ := h
  obtain ⟨b1, hb1_⟩ : ∃ b_, b_ = w.heap.size := ⟨_, rfl⟩
  obtain ⟨w2, hw2_⟩ : ∃ w_, w_ = w.alloc (.cells (List.replicate (Int.toNat (p0.len : Int) * 1) (Value.int .u8 0)).toArray 5) := ⟨_, rfl⟩
  have h := h b1 w2 hb1_ hw2_
  obtain ⟨x3, hx3_⟩ : ∃ s_ : Sl, s_ = ⟨some ⟨b1, 0, none⟩, Int.toNat (p0.len : Int), Int.toNat (p0.len : Int)⟩ := ⟨_, rfl⟩
  rw [← hx3_] at h
  refine RL.opS trivial rfl (OpW.makeSliceE mk_39 (by decide) rfl rfl h1 h2 h3 h4 hb1_ hw2_ hx3_ ?_)
  refine RL.opS trivial rfl (OpW.assign (v := Sl.v x3) rfl ?_)
  refine RL.nil ?_
  refine CW.seq ?_
  refine CW.region ?_
  refine RL.opS trivial rfl (OpW.move (v := Sl.v x3) rfl ?_)
  refine RL.opS trivial rfl (OpW.move (v := Sl.v p0) rfl ?_)
  obtain ⟨x4, w5, hr_, h⟩ := h
  refine RL.opS trivial rfl (OpW.copyL (v := .int .i64 x4) rfl hr_ ?_)
  refine RL.nil ?_
  refine CW.seq ?_
  refine CW.region ?_
  refine RL.opS trivial rfl (OpW.move (v := Sl.v x3) rfl ?_)
  refine RL.opS trivial rfl (OpW.buildL (vs := [(0, Sl.v x3)]) (cs := [Sl.v x3, Value.int .i64 0]) (by rfl) (fun _ => by kernel_rfl) ?_)
  obtain ⟨b6, hb6_⟩ : ∃ b_, b_ = w5.heap.size := ⟨_, rfl⟩
  obtain ⟨w7, hw7_⟩ : ∃ w_, w_ = w5.alloc (.cells (List.toArray [Sl.v x3, Value.int .i64 0]) 140) := ⟨_, rfl⟩
  have h := h b6 w7 hb6_ hw7_
  refine RL.opS trivial rfl (OpW.boxE (cs := [Sl.v x3, Value.int .i64 0]) (rfl) hb6_ hw7_ ?_)
  refine RL.opS trivial rfl (OpW.assign (v := .pointer (some ⟨b6, 0, none⟩)) rfl ?_)
  refine RL.nil ?_
  refine CW.ret ?_
  exact ret_intro (res1 rfl rfl) ⟨some ⟨b6, 0, none⟩, rfl, h⟩
end Go.Proofs.Ytagkcbbbdlmcjaa
end
section
/- The typed readings of the functions, and that the program meets each: written by gen.py (a program of this session). -/
set_option linter.unusedVariables false
set_option linter.unusedSimpArgs false
namespace Go.Proofs.Ytagkcbbbdlmcjaa
open Go.Lift
set_option maxRecDepth 100000 in
set_option maxHeartbeats 4000000 in
theorem s73_calls (K : Int → World → Prop) (p0 : Option Addr) (w : World) (h : s73 K p0 w) :
    Calls Try.prog 73 #[.pointer p0] w (Ret r73 K) := by
  unfold s73 at h
  refine calls_of_CW (n := 70) Try.func73 rfl rfl rfl ?_
  refine CW.seq ?_
  refine CW.region ?_
  refine RL.opS trivial rfl (OpW.assign (v := .int .u64 0) rfl ?_)
  refine RL.nil ?_
  refine CW.seq ?_
  refine CW.seq ?_
  refine CW.region ?_
  refine RL.opS trivial rfl (OpW.move (v := .pointer p0) rfl ?_)
  refine RL.opS trivial rfl (OpW.callR (al := [.pointer p0]) Try.func75 fb_75 fn_75 rfl h (fun x1 w2 h => ?_))
  refine RL.opS trivial rfl (OpW.bin (k := .i64) (a := x1) (b := 0) (v := .bool (!decide (x1 = 0))) rfl rfl rfl ?_)
  refine RL.nil ?_
  obtain ⟨ha, hc⟩ := h
  refine CW.cond (b := (!decide (x1 = 0))) rfl (fun hb3 => ?_) (fun hb3 => ?_)
  · have h := ha hb3; clear ha hc
    refine CW.seq ?_
    refine CW.region ?_
    refine RL.opS trivial rfl (OpW.assign (v := .int .u64 0) rfl ?_)
    refine RL.nil ?_
    refine CW.ret ?_
    exact ret_intro (res1 rfl rfl) ⟨0, rfl, h⟩
  · have h := hc hb3; clear ha hc
    refine CW.skip ?_
    refine CW.seq ?_
    refine CW.region ?_
    refine RL.opS trivial rfl (OpW.assign (v := .int .u64 0) rfl ?_)
    refine RL.opS trivial rfl (OpW.assign (v := .int .i64 0) rfl ?_)
    refine RL.nil ?_
    refine CW.seq ?_
    refine CW.seq ?_
    refine CW.region ?_
    refine RL.opS trivial rfl (OpW.move (v := .int .i64 0) rfl ?_)
    refine RL.nil ?_
    refine CW.block ?_
    obtain ⟨I62, mu63, hI, hs⟩ := h
    refine CW.loop (σ := Int × Int × Int) (fun s4 ρ => ρ 3 = .int .u64 s4.1 ∧ ρ 4 = .int .i64 s4.2.1 ∧ ρ 10 = .int .i64 s4.2.2 ∧ ρ 0 = .pointer p0) I62 mu63 (0, 0, 0) ⟨rfl, rfl, rfl, rfl⟩ hI ?_
    rintro s4 ρ w5 ⟨e7, e8, e9, e10⟩ hI
    have h := hs s4 w5 hI
    clear hs hI
    refine CW.seq ?_
    refine CW.region ?_
    refine RL.opS trivial rfl (OpW.bin (k := .i64) (a := s4.2.2) (b := 10) (v := .bool (decide (s4.2.2 < 10))) e9 rfl rfl ?_)
    refine RL.nil ?_
    refine CW.seq ?_
    obtain ⟨ha, hc⟩ := h
    refine CW.cond (b := (decide (s4.2.2 < 10))) rfl (fun hb11 => ?_) (fun hb11 => ?_)
    · have h := ha hb11; clear ha hc
      refine CW.skip ?_
      refine CW.seq ?_
      refine CW.block ?_
      refine CW.seq ?_
      refine CW.region ?_
      refine RL.opS trivial rfl (OpW.move (v := .int .i64 s4.2.2) e9 ?_)
      refine RL.opS trivial rfl (OpW.assign (v := .int .i64 s4.2.2) rfl ?_)
      refine RL.nil ?_
      refine CW.seq ?_
      refine CW.seq ?_
      refine CW.region ?_
      refine RL.opS trivial rfl (OpW.move (v := .int .i64 s4.2.2) rfl ?_)
      refine RL.opS trivial rfl (OpW.move (v := .pointer p0) e10 ?_)
      obtain ⟨a12, ha13, h⟩ := h
      refine RL.opS trivial rfl (OpW.nilCheck (a := a12) (congrArg Value.pointer ha13) ?_)
      refine RL.opS trivial rfl (OpW.fieldAddr (off := 0) field_140_0 rfl ?_)
      obtain ⟨x14, h1, h⟩ := h
      refine RL.opS trivial rfl (OpW.load1 (v := Sl.v x14) one_39 rfl h1 ?_)
      refine RL.opS trivial rfl (OpW.len (s := x14) slice_39 rfl ?_)
      refine RL.opS trivial rfl (OpW.bin (k := .i64) (a := s4.2.2) (b := (x14.len : Int)) (v := .bool (decide (s4.2.2 = (x14.len : Int)))) rfl rfl rfl ?_)
      refine RL.nil ?_
      obtain ⟨ha, hc⟩ := h
      refine CW.cond (b := (decide (s4.2.2 = (x14.len : Int)))) rfl (fun hb15 => ?_) (fun hb15 => ?_)
      · have h := ha hb15; clear ha hc
        refine CW.seq ?_
        refine CW.region ?_
        refine RL.opS trivial rfl (OpW.move (v := .pointer p0) e10 ?_)
        refine RL.opS trivial rfl (OpW.callR (al := [.pointer p0, .int .i64 10]) Try.func85 fb_85 fn_85 rfl h (fun x16 w17 h => ?_))
        refine RL.opS trivial rfl (OpW.assign (v := .int .u64 x16) rfl ?_)
        refine RL.nil ?_
        refine CW.ret ?_
        exact ret_intro (res1 rfl rfl) ⟨x16, rfl, h⟩
      · have h := hc hb15; clear ha hc
        refine CW.skip ?_
        refine CW.seq ?_
        refine CW.region ?_
        refine RL.opS trivial rfl (OpW.move (v := .pointer p0) e10 ?_)
        obtain ⟨a18, ha19, h⟩ := h
        refine RL.opS trivial rfl (OpW.nilCheck (a := a18) (congrArg Value.pointer ha19) ?_)
        refine RL.opS trivial rfl (OpW.fieldAddr (off := 0) field_140_0 rfl ?_)
        obtain ⟨x20, h1, h⟩ := h
        refine RL.opS trivial rfl (OpW.load1 (v := Sl.v x20) one_39 rfl h1 ?_)
        refine RL.opS trivial rfl (OpW.move (v := .int .i64 s4.2.2) rfl ?_)
        obtain ⟨a21_, a21, h1, h2, h3, h4, h⟩ := h
        refine RL.opS trivial rfl (OpW.indexE (a' := a21) slice_39 rfl rfl h1 h2 h3 h4 ?_)
        obtain ⟨x23, h1, h⟩ := h
        refine RL.opS trivial rfl (OpW.load1 (v := .int .u8 x23) one_5 rfl h1 ?_)
        refine RL.opS trivial rfl (OpW.assign (v := .int .u8 x23) rfl ?_)
        refine RL.nil ?_
        refine CW.seq ?_
        refine CW.seq ?_
        refine CW.region ?_
        refine RL.opS trivial rfl (OpW.move (v := .int .i64 s4.2.2) rfl ?_)
        refine RL.opS trivial rfl (OpW.bin (k := .i64) (a := s4.2.2) (b := 9) (v := .bool (decide (s4.2.2 = 9))) rfl rfl rfl ?_)
        refine RL.opS trivial rfl (OpW.move (v := .bool (decide (s4.2.2 = 9))) rfl ?_)
        refine jn_elim h ?_; clear h; intro k58 hk59 h
        refine RL.joinAt (A := Bool) 3 (fun s26 ρ => ρ 34 = .bool s26 ∧ ρ 0 = .pointer p0 ∧ ρ 3 = .int .u64 s4.1 ∧ ρ 4 = .int .i64 s4.2.1 ∧ ρ 5 = .int .i64 s4.2.2 ∧ ρ 6 = .int .u8 x23 ∧ ρ 10 = .int .i64 s4.2.2) k58 ?_ ?_
        · rintro s26 ρ w27 ⟨e28, e29, e30, e31, e32, e33, e34⟩ h
          subst hk59
          dsimp only [List.drop]
          refine RL.nil ?_
          obtain ⟨ha, hc⟩ := h
          refine CW.cond (b := s26) e28 (fun hb35 => ?_) (fun hb35 => ?_)
          · have h := ha hb35; clear ha hc
            refine CW.seq ?_
            refine CW.region ?_
            refine RL.opS trivial rfl (OpW.move (v := .pointer p0) e29 ?_)
            refine RL.opS trivial rfl (OpW.callR (al := [.pointer p0, .int .i64 7]) Try.func85 fb_85 fn_85 rfl h (fun x36 w37 h => ?_))
            refine RL.opS trivial rfl (OpW.assign (v := .int .u64 x36) rfl ?_)
            refine RL.nil ?_
            refine CW.ret ?_
            exact ret_intro (res1 rfl rfl) ⟨x36, rfl, h⟩
          · have h := hc hb35; clear ha hc
            refine CW.skip ?_
            refine CW.seq ?_
            refine CW.region ?_
            refine RL.opS trivial rfl (OpW.move (v := .int .u64 s4.1) e30 ?_)
            refine RL.opS trivial rfl (OpW.move (v := .int .u8 x23) e33 ?_)
            refine RL.opS trivial rfl (OpW.quo (a := x23) (b := 128) (v := .int .u8 (Int.tmod x23 128)) rfl rfl (by decide) rfl ?_)
            refine RL.opS trivial rfl (OpW.convInt (a := (Int.tmod x23 128)) int_5 int_25 rfl ?_)
            refine RL.opS trivial rfl (OpW.move (v := .int .i64 s4.2.1) e31 ?_)
            obtain ⟨hq_, h⟩ := h
            refine RL.opS trivial rfl (OpW.shift (a := (IntKind.u64.wrap (Int.tmod x23 128))) (b := s4.2.1) (v := .int .u64 (shlI .u64 (IntKind.u64.wrap (Int.tmod x23 128)) s4.2.1)) rfl rfl hq_ rfl ?_)
            refine RL.opS trivial rfl (OpW.bin (k := .u64) (a := s4.1) (b := (shlI .u64 (IntKind.u64.wrap (Int.tmod x23 128)) s4.2.1)) (v := .int .u64 (orI .u64 s4.1 (shlI .u64 (IntKind.u64.wrap (Int.tmod x23 128)) s4.2.1))) rfl rfl rfl ?_)
            refine RL.opS trivial rfl (OpW.assign (v := .int .u64 (orI .u64 s4.1 (shlI .u64 (IntKind.u64.wrap (Int.tmod x23 128)) s4.2.1))) rfl ?_)
            refine RL.nil ?_
            refine CW.seq ?_
            refine CW.region ?_
            refine RL.opS trivial rfl (OpW.move (v := .int .i64 s4.2.1) e31 ?_)
            refine RL.opS trivial rfl (OpW.bin (k := .i64) (a := s4.2.1) (b := 7) (v := .int .i64 (IntKind.i64.wrap (s4.2.1 + 7))) rfl rfl rfl ?_)
            refine RL.opS trivial rfl (OpW.assign (v := .int .i64 (IntKind.i64.wrap (s4.2.1 + 7))) rfl ?_)
            refine RL.nil ?_
            refine CW.seq ?_
            refine CW.seq ?_
            refine CW.region ?_
            refine RL.opS trivial rfl (OpW.move (v := .int .u8 x23) e33 ?_)
            refine RL.opS trivial rfl (OpW.bin (k := .u8) (a := x23) (b := 128) (v := .bool (decide (128 ≤ x23))) rfl rfl rfl ?_)
            refine RL.nil ?_
            obtain ⟨ha, hc⟩ := h
            refine CW.cond (b := (decide (128 ≤ x23))) rfl (fun hb38 => ?_) (fun hb38 => ?_)
            · have h := ha hb38; clear ha hc
              refine CW.exit ?_
              refine CW.region ?_
              refine RL.opS trivial rfl (OpW.bin (k := .i64) (a := s4.2.2) (b := 1) (v := .int .i64 (IntKind.i64.wrap (s4.2.2 + 1))) e34 rfl rfl ?_)
              refine RL.opS trivial rfl (OpW.move (v := .int .i64 (IntKind.i64.wrap (s4.2.2 + 1))) rfl ?_)
              refine RL.nil ?_
              exact ⟨((orI .u64 s4.1 (shlI .u64 (IntKind.u64.wrap (Int.tmod x23 128)) s4.2.1)), (IntKind.i64.wrap (s4.2.1 + 7)), (IntKind.i64.wrap (s4.2.2 + 1))), ⟨rfl, rfl, rfl, e29⟩, h⟩
            · have h := hc hb38; clear ha hc
              refine CW.skip ?_
              refine CW.seq ?_
              refine CW.seq ?_
              refine CW.region ?_
              refine RL.opS trivial rfl (OpW.move (v := .int .u8 x23) e33 ?_)
              refine RL.opS trivial rfl (OpW.bin (k := .u8) (a := x23) (b := 0) (v := .bool (decide (x23 = 0))) rfl rfl rfl ?_)
              refine RL.opS trivial rfl (OpW.move (v := .bool (decide (x23 = 0))) rfl ?_)
              refine jn_elim h ?_; clear h; intro k56 hk57 h
              refine RL.joinAt (A := Bool) 3 (fun s41 ρ => ρ 53 = .bool s41 ∧ ρ 0 = .pointer p0 ∧ ρ 3 = .int .u64 (orI .u64 s4.1 (shlI .u64 (IntKind.u64.wrap (Int.tmod x23 128)) s4.2.1)) ∧ ρ 5 = .int .i64 s4.2.2) k56 ?_ ?_
              · rintro s41 ρ w42 ⟨e43, e44, e45, e46⟩ h
                subst hk57
                dsimp only [List.drop]
                refine RL.nil ?_
                obtain ⟨ha, hc⟩ := h
                refine CW.cond (b := s41) e43 (fun hb47 => ?_) (fun hb47 => ?_)
                · have h := ha hb47; clear ha hc
                  refine CW.seq ?_
                  refine CW.region ?_
                  refine RL.opS trivial rfl (OpW.move (v := .pointer p0) e44 ?_)
                  refine RL.opS trivial rfl (OpW.callR (al := [.pointer p0, .int .i64 7]) Try.func85 fb_85 fn_85 rfl h (fun x48 w49 h => ?_))
                  refine RL.opS trivial rfl (OpW.assign (v := .int .u64 x48) rfl ?_)
                  refine RL.nil ?_
                  refine CW.ret ?_
                  exact ret_intro (res1 rfl rfl) ⟨x48, rfl, h⟩
                · have h := hc hb47; clear ha hc
                  refine CW.skip ?_
                  refine CW.seq ?_
                  refine CW.region ?_
                  refine RL.opS trivial rfl (OpW.move (v := .pointer p0) e44 ?_)
                  refine RL.opS trivial rfl (OpW.move (v := .pointer p0) e44 ?_)
                  obtain ⟨a50, ha51, h⟩ := h
                  refine RL.opS trivial rfl (OpW.nilCheck (a := a50) (congrArg Value.pointer ha51) ?_)
                  refine RL.opS trivial rfl (OpW.fieldAddr (off := 0) field_140_0 rfl ?_)
                  obtain ⟨x52, h1, h⟩ := h
                  refine RL.opS trivial rfl (OpW.load1 (v := Sl.v x52) one_39 rfl h1 ?_)
                  refine RL.opS trivial rfl (OpW.move (v := .int .i64 s4.2.2) e46 ?_)
                  refine RL.opS trivial rfl (OpW.bin (k := .i64) (a := s4.2.2) (b := 1) (v := .int .i64 (IntKind.i64.wrap (s4.2.2 + 1))) rfl rfl rfl ?_)
                  obtain ⟨⟨h1, h2⟩, h⟩ := h
                  refine RL.opS trivial rfl (OpW.sliceSl (l := (IntKind.i64.wrap (s4.2.2 + 1))) (h := (x52.len : Int)) slice_39 rfl ⟨_, rfl⟩ rfl h1 h2 (.inl rfl) ?_)
                  obtain ⟨a53, ha54, h⟩ := h
                  refine RL.opS trivial rfl (OpW.nilCheck (a := a53) (congrArg Value.pointer ha54) ?_)
                  refine RL.opS trivial rfl (OpW.fieldAddr (off := 0) field_140_0 rfl ?_)
                  obtain ⟨u_, h1, h2, h⟩ := h
                  obtain ⟨w55, hw55_⟩ : ∃ w_, w_ = w42.setCell (Addr.add a53 0) (Sl.v (x52.cut 1 (IntKind.i64.wrap (s4.2.2 + 1)) (x52.len : Int) x52.cap)) := ⟨_, rfl⟩
                  have h := h w55 hw55_
                  refine RL.opN trivial (OpW.store1E (v := Sl.v (x52.cut 1 (IntKind.i64.wrap (s4.2.2 + 1)) (x52.len : Int) x52.cap)) size_39 rfl rfl rfl h1 h2 hw55_ ?_)
                  refine RL.nil ?_
                  refine CW.seq ?_
                  refine CW.region ?_
                  refine RL.opS trivial rfl (OpW.move (v := .int .u64 (orI .u64 s4.1 (shlI .u64 (IntKind.u64.wrap (Int.tmod x23 128)) s4.2.1))) e45 ?_)
                  refine RL.opS trivial rfl (OpW.assign (v := .int .u64 (orI .u64 s4.1 (shlI .u64 (IntKind.u64.wrap (Int.tmod x23 128)) s4.2.1))) rfl ?_)
                  refine RL.nil ?_
                  refine CW.ret ?_
                  exact ret_intro (res1 rfl rfl) ⟨(orI .u64 s4.1 (shlI .u64 (IntKind.u64.wrap (Int.tmod x23 128)) s4.2.1)), rfl, h⟩
              · clear hk57
                dsimp only [List.take]
                obtain ⟨ha, hc⟩ := h
                rcases Bool.eq_false_or_eq_true (decide (x23 = 0)) with hb39 | hb39
                · have h := ha hb39; clear ha hc
                  refine RL.opS (wanted_of rfl rfl hb39) rfl (OpW.move (v := .int .i64 s4.2.2) e32 ?_)
                  refine RL.opS (wanted_of rfl rfl hb39) rfl (OpW.bin (k := .i64) (a := s4.2.2) (b := 0) (v := .bool (decide (0 < s4.2.2))) rfl rfl rfl ?_)
                  refine RL.opS trivial rfl (OpW.pick (b := true) (v := .bool (decide (0 < s4.2.2))) (congrArg Value.bool hb39) rfl ?_)
                  refine RL.nil ?_
                  exact ⟨(decide (0 < s4.2.2)), ⟨rfl, e29, rfl, e32⟩, h⟩
                · have h := hc hb39; clear ha hc
                  refine RL.skipS (notWanted_of rfl rfl hb39) rfl ?_
                  refine RL.skipS (notWanted_of rfl rfl hb39) rfl ?_
                  refine RL.opS trivial rfl (OpW.pick (b := false) (v := .bool false) (congrArg Value.bool hb39) rfl ?_)
                  refine RL.nil ?_
                  exact ⟨false, ⟨rfl, e29, rfl, e32⟩, h⟩
        · clear hk59
          dsimp only [List.take]
          obtain ⟨ha, hc⟩ := h
          rcases Bool.eq_false_or_eq_true (decide (s4.2.2 = 9)) with hb24 | hb24
          · have h := ha hb24; clear ha hc
            refine RL.opS (wanted_of rfl rfl hb24) rfl (OpW.move (v := .int .u8 x23) rfl ?_)
            refine RL.opS (wanted_of rfl rfl hb24) rfl (OpW.bin (k := .u8) (a := x23) (b := 1) (v := .bool (decide (1 < x23))) rfl rfl rfl ?_)
            refine RL.opS trivial rfl (OpW.pick (b := true) (v := .bool (decide (1 < x23))) (congrArg Value.bool hb24) rfl ?_)
            refine RL.nil ?_
            exact ⟨(decide (1 < x23)), ⟨rfl, e10, e7, e8, rfl, rfl, e9⟩, h⟩
          · have h := hc hb24; clear ha hc
            refine RL.skipS (notWanted_of rfl rfl hb24) rfl ?_
            refine RL.skipS (notWanted_of rfl rfl hb24) rfl ?_
            refine RL.opS trivial rfl (OpW.pick (b := false) (v := .bool false) (congrArg Value.bool hb24) rfl ?_)
            refine RL.nil ?_
            exact ⟨false, ⟨rfl, e10, e7, e8, rfl, rfl, e9⟩, h⟩
    · have h := hc hb11; clear ha hc
      refine CW.exit ?_
      refine CW.seq ?_
      refine CW.region ?_
      refine RL.opS trivial rfl (OpW.move (v := .pointer p0) e10 ?_)
      refine RL.opS trivial rfl (OpW.callR (al := [.pointer p0, .int .i64 7]) Try.func85 fb_85 fn_85 rfl h (fun x60 w61 h => ?_))
      refine RL.opS trivial rfl (OpW.assign (v := .int .u64 x60) rfl ?_)
      refine RL.nil ?_
      refine CW.ret ?_
      exact ret_intro (res1 rfl rfl) ⟨x60, rfl, h⟩
end Go.Proofs.Ytagkcbbbdlmcjaa
end
section
/- The typed readings of the functions, and that the program meets each: written by gen.py (a program of this session). -/
set_option linter.unusedVariables false
set_option linter.unusedSimpArgs false
namespace Go.Proofs.Ytagkcbbbdlmcjaa
open Go.Lift
set_option maxRecDepth 100000 in
set_option maxHeartbeats 4000000 in
theorem s74_calls (K : Int → World → Prop) (p0 : Option Addr) (w : World) (h : s74 K p0 w) :
    Calls Try.prog 74 #[.pointer p0] w (Ret r74 K) := by
  unfold s74 at h
  refine calls_of_CW (n := 10) Try.func74 rfl rfl rfl ?_
  refine CW.seq ?_
  refine CW.region ?_
  refine RL.opS trivial rfl (OpW.assign (v := .int .i64 0) rfl ?_)
  refine RL.nil ?_
  refine CW.seq ?_
  refine CW.seq ?_
  refine CW.region ?_
  refine RL.opS trivial rfl (OpW.move (v := .pointer p0) rfl ?_)
  refine RL.opS trivial rfl (OpW.ptrNil (b := p0.isNone) (p := p0) ptr_126 rfl rfl rfl ?_)
  refine RL.nil ?_
  obtain ⟨ha, hc⟩ := h
  refine CW.cond (b := (p0.isNone)) rfl (fun hb1 => ?_) (fun hb1 => ?_)
  · have h := ha hb1; clear ha hc
    refine CW.seq ?_
    refine CW.region ?_
    refine RL.opS trivial rfl (OpW.assign (v := .int .i64 0) rfl ?_)
    refine RL.nil ?_
    refine CW.ret ?_
    exact ret_intro (res1 rfl rfl) ⟨0, rfl, h⟩
  · have h := hc hb1; clear ha hc
    refine CW.skip ?_
    refine CW.seq ?_
    refine CW.region ?_
    refine RL.opS trivial rfl (OpW.move (v := .pointer p0) rfl ?_)
    obtain ⟨a2, ha3, h⟩ := h
    refine RL.opS trivial rfl (OpW.nilCheck (a := a2) (congrArg Value.pointer ha3) ?_)
    refine RL.opS trivial rfl (OpW.fieldAddr (off := 0) field_140_0 rfl ?_)
    obtain ⟨x4, h1, h⟩ := h
    refine RL.opS trivial rfl (OpW.load1 (v := Sl.v x4) one_39 rfl h1 ?_)
    refine RL.opS trivial rfl (OpW.len (s := x4) slice_39 rfl ?_)
    refine RL.opS trivial rfl (OpW.assign (v := .int .i64 (x4.len : Int)) rfl ?_)
    refine RL.nil ?_
    refine CW.ret ?_
    exact ret_intro (res1 rfl rfl) ⟨(x4.len : Int), rfl, h⟩
end Go.Proofs.Ytagkcbbbdlmcjaa
end
section
/- The typed readings of the functions, and that the program meets each: written by gen.py (a program of this session). -/
set_option linter.unusedVariables false
set_option linter.unusedSimpArgs false
namespace Go.Proofs.Ytagkcbbbdlmcjaa
open Go.Lift
set_option maxRecDepth 100000 in
set_option maxHeartbeats 4000000 in
theorem s75_calls (K : Int → World → Prop) (p0 : Option Addr) (w : World) (h : s75 K p0 w) :
    Calls Try.prog 75 #[.pointer p0] w (Ret r75 K) := by
  unfold s75 at h
  refine calls_of_CW (n := 9) Try.func75 rfl rfl rfl ?_
  refine CW.seq ?_
  refine CW.region ?_
  refine RL.opS trivial rfl (OpW.assign (v := .int .i64 0) rfl ?_)
  refine RL.nil ?_
  refine CW.seq ?_
  refine CW.seq ?_
  refine CW.region ?_
  refine RL.opS trivial rfl (OpW.move (v := .pointer p0) rfl ?_)
  refine RL.opS trivial rfl (OpW.ptrNil (b := p0.isNone) (p := p0) ptr_126 rfl rfl rfl ?_)
  refine RL.nil ?_
  obtain ⟨ha, hc⟩ := h
  refine CW.cond (b := (p0.isNone)) rfl (fun hb1 => ?_) (fun hb1 => ?_)
  · have h := ha hb1; clear ha hc
    refine CW.seq ?_
    refine CW.region ?_
    refine RL.opS trivial rfl (OpW.assign (v := .int .i64 1) rfl ?_)
    refine RL.nil ?_
    refine CW.ret ?_
    exact ret_intro (res1 rfl rfl) ⟨1, rfl, h⟩
  · have h := hc hb1; clear ha hc
    refine CW.skip ?_
    refine CW.seq ?_
    refine CW.region ?_
    refine RL.opS trivial rfl (OpW.move (v := .pointer p0) rfl ?_)
    obtain ⟨a2, ha3, h⟩ := h
    refine RL.opS trivial rfl (OpW.nilCheck (a := a2) (congrArg Value.pointer ha3) ?_)
    refine RL.opS trivial rfl (OpW.fieldAddr field_140_1 rfl ?_)
    obtain ⟨x4, h1, h⟩ := h
    refine RL.opS trivial rfl (OpW.load1 (v := .int .i64 x4) one_32 rfl h1 ?_)
    refine RL.opS trivial rfl (OpW.assign (v := .int .i64 x4) rfl ?_)
    refine RL.nil ?_
    refine CW.ret ?_
    exact ret_intro (res1 rfl rfl) ⟨x4, rfl, h⟩
end Go.Proofs.Ytagkcbbbdlmcjaa
end
section
/- The typed readings of the functions, and that the program meets each: written by gen.py (a program of this session). -/
set_option linter.unusedVariables false
set_option linter.unusedSimpArgs false
namespace Go.Proofs.Ytagkcbbbdlmcjaa
open Go.Lift
set_option maxRecDepth 100000 in
set_option maxHeartbeats 4000000 in
theorem s78_calls (K : Sl → World → Prop) (p0 : Int) (w : World) (h : s78 K p0 w) :
    Calls Try.prog 78 #[.int .u64 p0] w (Ret r78 K) := by
  unfold s78 at h
  refine calls_of_CW (n := 20) Try.func78 rfl rfl rfl ?_
  refine CW.seq ?_
  refine CW.region ?_
  refine RL.opS trivial rfl (OpW.assign (v := Sl.v nilSl) rfl ?_)
  refine RL.nil ?_
  refine CW.seq ?_
  refine CW.region ?_
  refine RL.opS trivial rfl (OpW.assign (v := Sl.v nilSl) rfl ?_)
  refine RL.nil ?_
  refine CW.seq ?_
  refine CW.block ?_
  obtain ⟨I15, mu16, hI, hs⟩ := h
  refine CW.loop (σ := Int × Sl) (fun s1 ρ => ρ 0 = .int .u64 s1.1 ∧ ρ 3 = Sl.v s1.2) I15 mu16 (p0, nilSl) ⟨rfl, rfl⟩ hI ?_
  rintro s1 ρ w2 ⟨e4, e5⟩ hI
  have h := hs s1 w2 hI
  clear hs hI
  refine CW.seq ?_
  refine CW.seq ?_
  refine CW.region ?_
  refine RL.opS trivial rfl (OpW.move (v := .int .u64 s1.1) e4 ?_)
  refine RL.opS trivial rfl (OpW.bin (k := .u64) (a := s1.1) (b := 128) (v := .bool (decide (128 ≤ s1.1))) rfl rfl rfl ?_)
  refine RL.nil ?_
  obtain ⟨ha, hc⟩ := h
  refine CW.cond (b := (decide (128 ≤ s1.1))) rfl (fun hb6 => ?_) (fun hb6 => ?_)
  · have h := ha hb6; clear ha hc
    refine CW.skip ?_
    refine CW.block ?_
    refine CW.seq ?_
    refine CW.region ?_
    refine RL.opS trivial rfl (OpW.move (v := Sl.v s1.2) e5 ?_)
    refine RL.opS trivial rfl (OpW.move (v := .int .u64 s1.1) e4 ?_)
    refine RL.opS trivial rfl (OpW.quo (a := s1.1) (b := 128) (v := .int .u64 (Int.tmod s1.1 128)) rfl rfl (by decide) rfl ?_)
    refine RL.opS trivial rfl (OpW.convInt (a := (Int.tmod s1.1 128)) int_25 int_5 rfl ?_)
    refine RL.opS trivial rfl (OpW.bin (k := .u8) (a := (IntKind.u8.wrap (Int.tmod s1.1 128))) (b := 128) (v := .int .u8 (IntKind.u8.wrap ((IntKind.u8.wrap (Int.tmod s1.1 128)) + 128))) rfl rfl rfl ?_)
    obtain ⟨b7, hb7_⟩ : ∃ b_, b_ = w2.heap.size := ⟨_, rfl⟩
    obtain ⟨w8, hw8_⟩ : ∃ w_, w_ = w2.alloc (.cells (List.toArray [.int .u8 (IntKind.u8.wrap ((IntKind.u8.wrap (Int.tmod s1.1 128)) + 128))]) 5) := ⟨_, rfl⟩
    have h := h b7 w8 hb7_ hw8_
    refine RL.opS trivial rfl (OpW.buildSliceE (vs := [(0, .int .u8 (IntKind.u8.wrap ((IntKind.u8.wrap (Int.tmod s1.1 128)) + 128)))]) (cs := [.int .u8 (IntKind.u8.wrap ((IntKind.u8.wrap (Int.tmod s1.1 128)) + 128))]) (by rfl) (by kernel_rfl) hb7_ hw8_ ?_)
    obtain ⟨x9, w10, hr_, h⟩ := h
    refine RL.opS trivial rfl (OpW.appendL (v := Sl.v x9) rfl hr_ ?_)
    refine RL.opS trivial rfl (OpW.assign (v := Sl.v x9) rfl ?_)
    refine RL.nil ?_
    refine CW.region ?_
    refine RL.opS trivial rfl (OpW.move (v := .int .u64 s1.1) e4 ?_)
    refine RL.opS trivial rfl (OpW.quo (a := s1.1) (b := 128) (v := .int .u64 (IntKind.u64.wrap (Int.tdiv s1.1 128))) rfl rfl (by decide) rfl ?_)
    refine RL.opS trivial rfl (OpW.assign (v := .int .u64 (IntKind.u64.wrap (Int.tdiv s1.1 128))) rfl ?_)
    refine RL.nil ?_
    exact ⟨((IntKind.u64.wrap (Int.tdiv s1.1 128)), x9), ⟨rfl, rfl⟩, h⟩
  · have h := hc hb6; clear ha hc
    refine CW.exit ?_
    refine CW.seq ?_
    refine CW.region ?_
    refine RL.opS trivial rfl (OpW.move (v := Sl.v s1.2) e5 ?_)
    refine RL.opS trivial rfl (OpW.move (v := .int .u64 s1.1) e4 ?_)
    refine RL.opS trivial rfl (OpW.convInt (a := s1.1) int_25 int_5 rfl ?_)
    obtain ⟨b11, hb11_⟩ : ∃ b_, b_ = w2.heap.size := ⟨_, rfl⟩
    obtain ⟨w12, hw12_⟩ : ∃ w_, w_ = w2.alloc (.cells (List.toArray [.int .u8 (IntKind.u8.wrap s1.1)]) 5) := ⟨_, rfl⟩
    have h := h b11 w12 hb11_ hw12_
    refine RL.opS trivial rfl (OpW.buildSliceE (vs := [(0, .int .u8 (IntKind.u8.wrap s1.1))]) (cs := [.int .u8 (IntKind.u8.wrap s1.1)]) (by rfl) (by kernel_rfl) hb11_ hw12_ ?_)
    obtain ⟨x13, w14, hr_, h⟩ := h
    refine RL.opS trivial rfl (OpW.appendL (v := Sl.v x13) rfl hr_ ?_)
    refine RL.opS trivial rfl (OpW.assign (v := Sl.v x13) rfl ?_)
    refine RL.nil ?_
    refine CW.ret ?_
    exact ret_intro (res1 rfl rfl) ⟨x13, rfl, h⟩
end Go.Proofs.Ytagkcbbbdlmcjaa
end
section
/- The typed readings of the functions, and that the program meets each: written by gen.py (a program of this session). -/
set_option linter.unusedVariables false
set_option linter.unusedSimpArgs false
namespace Go.Proofs.Ytagkcbbbdlmcjaa
open Go.Lift
set_option maxRecDepth 100000 in
set_option maxHeartbeats 4000000 in
theorem s85_calls (K : Int → World → Prop) (p0 : Option Addr) (p1 : Int) (w : World) (h : s85 K p0 p1 w) :
    Calls Try.prog 85 #[.pointer p0, .int .i64 p1] w (Ret r85 K) := by
  unfold s85 at h
  refine calls_of_CW (n := 9) Try.func85 rfl rfl rfl ?_
  refine CW.seq ?_
  refine CW.region ?_
  refine RL.opS trivial rfl (OpW.assign (v := .int .u64 0) rfl ?_)
  refine RL.nil ?_
  refine CW.seq ?_
  refine CW.region ?_
  refine RL.opS trivial rfl (OpW.move (v := .pointer p0) rfl ?_)
  refine RL.opS trivial rfl (OpW.move (v := .int .i64 p1) rfl ?_)
  obtain ⟨a1, ha2, h⟩ := h
  refine RL.opS trivial rfl (OpW.nilCheck (a := a1) (congrArg Value.pointer ha2) ?_)
  refine RL.opS trivial rfl (OpW.fieldAddr field_140_1 rfl ?_)
  obtain ⟨u_, h1, h2, h⟩ := h
  obtain ⟨w3, hw3_⟩ : ∃ w_, w_ = w.setCell (Addr.add a1 1) (.int .i64 p1) := ⟨_, rfl⟩
  have h := h w3 hw3_
  refine RL.opN trivial (OpW.store1E (v := .int .i64 p1) size_32 rfl rfl rfl h1 h2 hw3_ ?_)
  refine RL.nil ?_
  refine CW.seq ?_
  refine CW.region ?_
  refine RL.opS trivial rfl (OpW.assign (v := .int .u64 0) rfl ?_)
  refine RL.nil ?_
  refine CW.ret ?_
  exact ret_intro (res1 rfl rfl) ⟨0, rfl, h⟩
end Go.Proofs.Ytagkcbbbdlmcjaa
end
