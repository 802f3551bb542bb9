/- What the disk's functions do that change it. -/
import Derived.Test.YtagkcbbbdlmcjaaDiskCrash
import Derived.Test.YtagkcbbbdlmcjaaS33
import Derived.Test.YtagkcbbbdlmcjaaS34
import Derived.Test.YtagkcbbbdlmcjaaS36
import Derived.Test.YtagkcbbbdlmcjaaS60
import Derived.Test.YtagkcbbbdlmcjaaS61
import Derived.Test.YtagkcbbbdlmcjaaS62
import Derived.Test.YtagkcbbbdlmcjaaS63
set_option linter.unusedVariables false
set_option linter.unusedSimpArgs false
namespace Go.Proofs.Ytagkcbbbdlmcjaa
open Go.Lift Go.Lift.Disk Go.RowKit
theorem fall_one (f : Fall) : ∀ v ∈ fallOf f, v.oneCell' = true := by
  intro v hv
  simp only [fallOf, List.mem_cons, List.not_mem_nil, or_false] at hv
  rcases hv with rfl | rfl | rfl <;> rfl
def Dk.tick (D : Dk) : Dk := { D with changes := D.changes + 1 }
theorem strike_none {D : Dk} (h : D.falls.find? (fun f => f.1 == (D.changes : Int)) = none) : D.strike = (Dk.tick D, 0) := by unfold Dk.strike; rw [h]; rfl
theorem strike_some {D : Dk} {f : Fall} (h : D.falls.find? (fun f => f.1 == (D.changes : Int)) = some f) : D.strike = ((Dk.tick D).crash f, 6) := by unfold Dk.strike; rw [h]; rfl
section
variable {w : World} {base : Nat → Prop} {pd bb : Nat} {D : Dk}
theorem strike_ok (h : DAt w base pd bb D) (hch : D.changes < 1000000000) : Calls Try.prog 61 #[.pointer (dp pd)] w (Ret r61 fun x w' => x = D.strike.2 ∧ DAt w' base pd bb D.strike.1 ∧ Fr (Foot pd bb) w w') := by
  obtain ⟨c, r, sp, sf, h⟩ := h
  have hwf := h.wf
  apply s61_calls
  refine ⟨_, rfl, (D.changes : Int), by rw [add_plain]; exact h.disk.cell rfl, _, rfl, (D.changes : Int), by rw [add_plain]; exact h.disk.cell rfl, _, rfl, ?_⟩
  show st1 _ _ _ _
  rw [add_plain, w64_eq (by omega) (by omega)]
  refine st1_blk h.disk (Nat.lt_of_lt_of_le (Nat.lt_succ_self 3) (Nat.le_succ 4)) fun w9 hb9 hf9 => ?_
  have h9 : DX w9 base pd bb c r sp sf (Dk.tick D) := by
    refine ⟨⟨hwf.pos, hwf.few, hwf.bl, hwf.pend, hwf.plen, hwf.keep, hwf.flen, by unfold Dk.tick; simp only; omega⟩, h.hpd, h.hbb, h.hne, h.hcap, ?_, h.rows.fr hf9 h.hne.symm, h.pend.fr hf9 fun k _ hk e => hk (.inl e), h.falls.fr hf9 fun k _ hk e => hk (.inl e)⟩
    have : ((D.changes + 1 : Nat) : Int) = (D.changes : Int) + 1 := by omega
    unfold Dk.tick
    simp only [this]
    exact hb9
  have hfl := fall_len h.falls
  refine ⟨_, rfl, sf, by rw [add_plain]; exact h9.disk.cell rfl, ?_⟩
  refine ⟨fun s w' => ∃ k : Nat, k ≤ D.falls.length ∧ s = (k : Int) ∧ DX w' base pd bb c r sp sf (Dk.tick D) ∧ Fr (Foot pd bb) w w' ∧ (D.falls.take k).find? (fun f => f.1 == (D.changes : Int)) = none,
    fun s _ => D.falls.length - s.toNat, ⟨0, Nat.zero_le _, rfl, h9, footFr_pd hf9, by simp⟩, ?_⟩
  rintro s w14 ⟨k, hk, rfl, hX, hfr, hno⟩
  refine ⟨fun hlt => ?_, fun hge => ?_⟩
  · have hkl : k < D.falls.length := by have := of_decide_eq_true hlt; omega
    have hsplit : D.falls = D.falls.take k ++ D.falls[k] :: D.falls.drop (k + 1) := by rw [← List.drop_eq_getElem_cons hkl, List.take_append_drop]
    obtain ⟨a, ha, hat⟩ := hX.falls.row (by decide) (k := k) (by omega)
    have e := fallC_at hkl
    have hat : At w14 (a.add (k * 3)) (fallOf D.falls[k]) := by rw [← e]; exact hat
    refine ⟨a, _, ha, by omega, by omega, rfl, ?_⟩
    rw [Int.toNat_natCast]
    refine ⟨_, rfl, hat, rfl, fall_one _, fun b25 w26 hb25 hw26 => ?_⟩
    have hx26 : Ext w14 w26 := Ext.new hw26
    have hB : Blk w26 b25 27 (fallOf D.falls[k]) := Blk.new hb25 hw26
    refine ⟨D.falls[k].1, by rw [add_plain]; exact hB.cell rfl, ?_⟩
    refine ⟨fun heq => ?_, fun hne => ?_⟩
    · have heq := of_decide_eq_true heq
      have hfind : D.falls.find? (fun f => f.1 == (D.changes : Int)) = some D.falls[k] := by
        have e2 := congrArg (fun l : List Fall => l.find? (fun f => f.1 == (D.changes : Int))) hsplit
        refine e2.trans ?_
        show List.find? _ (_ ++ _) = _
        rw [List.find?_append, hno, List.find?_cons_of_pos (by simp [heq])]
        rfl
      refine ⟨fallOf D.falls[k], rfl, hB.at rfl, ?_⟩
      refine cR_of (crash_ok (D := Dk.tick D) ⟨c, r, sp, sf, hX.ext hx26⟩ D.falls[k] (hwf.keep _ (List.getElem_mem hkl))) ?_
      rintro x w' ⟨h1, h2⟩
      rw [strike_some hfind]
      exact ⟨rfl, h1, (hfr.trans (Fr.of hx26)).trans h2⟩
    · have hne := of_decide_eq_false hne
      have := hwf.flen
      rw [w64_eq (by omega) (by omega)]
      refine ⟨⟨k + 1, by omega, by omega, hX.ext hx26, hfr.trans (Fr.of hx26), ?_⟩, by simp only; omega⟩
      rw [List.take_succ_eq_append_getElem hkl, List.find?_append, hno]
      simp [hne]
  · have hge : k = D.falls.length := by have := of_decide_eq_false hge; omega
    subst hge
    rw [List.take_length] at hno
    rw [strike_none hno]
    exact ⟨rfl, ⟨c, r, sp, sf, hX⟩, hfr⟩

theorem flush_ok (h : DAt w base pd bb D) (hch : D.changes < 1000000000) : Calls Try.prog 34 #[.pointer (dp pd)] w (Ret r34 fun x w' => x = D.flush.2 ∧ DAt w' base pd bb D.flush.1 ∧ Fr (Foot pd bb) w w') := by
  apply s34_calls
  refine cR_of (down_ok h) ?_
  rintro x w' ⟨rfl, rfl⟩
  unfold Dk.flush
  refine ⟨fun hd => ?_, fun hd => ?_⟩
  · rw [if_pos hd]; exact ⟨rfl, h, Fr.refl _⟩
  rw [if_neg (by rw [hd]; simp)]
  refine cR_of (strike_ok h hch) ?_
  rintro x w5 ⟨rfl, h5, hf5⟩
  refine ⟨fun hne => ?_, fun he => ?_⟩
  · rw [if_pos (nd_t hne)]; exact ⟨rfl, h5, hf5⟩
  have he := nd_f he
  rw [if_neg (by rw [he]; simp)]
  generalize D.strike.1 = E at h5 ⊢
  obtain ⟨c, r, sp, sf, h5⟩ := h5
  have hwf := h5.wf
  have hpl := pend_len h5.pend fun p hp => (hwf.pend p hp).2
  refine ⟨_, rfl, sp, by rw [add_plain]; exact h5.disk.cell rfl, ?_⟩
  refine ⟨fun s w' => ∃ (k : Nat), k ≤ E.pend.length ∧ s = (k : Int) ∧ DX w' base pd bb c r sp sf { E with bl := flushL E.bl (E.pend.take k) } ∧ Fr (Foot pd bb) w w' ∧ (flushL E.bl (E.pend.take k)).length = E.bl.length,
    fun s _ => E.pend.length - s.toNat, ⟨0, Nat.zero_le _, rfl, h5, hf5, rfl⟩, ?_⟩
  rintro s w11 ⟨k, hk, rfl, hX, hfr, hll⟩
  have hfs : ∀ (hkp : k < E.pend.length), flushL E.bl (E.pend.take (k + 1)) = setSure (flushL E.bl (E.pend.take k)) E.pend[k].1 E.pend[k].2 := by
    intro hkp
    unfold flushL
    rw [List.take_succ_eq_append_getElem hkp, List.foldl_append]
    rfl
  generalize hl : flushL E.bl (E.pend.take k) = l at hX hll hfs
  refine ⟨fun hlt => ?_, fun hge => ?_⟩
  · have hkp : k < E.pend.length := by have := of_decide_eq_true hlt; omega
    obtain ⟨hpi, hp512⟩ := hwf.pend _ (List.getElem_mem hkp)
    have hpi' : E.pend[k].1 < l.length := by rw [hll]; exact hpi
    obtain ⟨a, ha, hat⟩ := hX.pend.row (by decide) (k := k) (by omega)
    rw [pendC_at (fun p hp => (hwf.pend p hp).2) hkp] at hat
    refine ⟨a, _, ha, by omega, by omega, rfl, ?_⟩
    rw [Int.toNat_natCast]
    refine ⟨_, by simp [u8s_len, hp512], hat, ?_⟩
    refine ⟨by simp [u8s_len, hp512], one_pend, fun b21 w22 hb21 hw22 => ?_⟩
    have hx22 : Ext w11 w22 := Ext.new hw22
    have hX22 := hX.ext hx22
    have hB : Blk w22 b21 116 (.int .i64 (E.pend[k].1 : Int) :: u8s E.pend[k].2) := Blk.new hb21 hw22
    intro w23 hw23
    have hx23 : Ext w22 w23 := by subst hw23; exact Ext.drew _
    refine ⟨_, rfl, ⟨some ⟨bb, 0, none⟩, l.length, c⟩, by rw [add_plain]; exact hX22.disk.cell rfl, ?_⟩
    refine ⟨(E.pend[k].1 : Int), by rw [add_plain]; exact hB.cell rfl, ?_⟩
    refine ⟨u8s E.pend[k].2, by rw [u8s_len, hp512], by rw [add_plain]; exact hB.at (by rw [List.drop_succ_cons, List.drop_zero, List.take_length]), ?_⟩
    refine ⟨⟨bb, 0, none⟩, _, rfl, by omega, by simpa using hpi', rfl, ?_⟩
    show stA _ _ _ _ _
    simp only [add_plain, Nat.zero_add, Int.toNat_natCast, Nat.mul_comm _ 1024]
    have hsz : (u8s (flatB l) ++ r).length ≥ 1024 * E.pend[k].1 + 1024 := by
      have := flat_len hX.wf.bl
      simp only at this
      rw [List.length_append, u8s_len, this]
      omega
    have hX23 := hX22.ext hx23
    refine stA_blk hX23.rows (by rw [u8s_len, hp512]) (by show _ ≤ (u8s (flatB l) ++ r).length; omega) (u8s_one _) fun w' hb' hf' => ?_
    have e := splice_sure hX.wf.bl hpi' hp512 r
    rw [e] at hb'
    have := hwf.plen
    rw [w64_eq (by omega) (by omega)]
    refine ⟨⟨k + 1, by omega, by omega, ?_, ((hfr.trans (Fr.of hx22)).trans (Fr.of hx23)).trans (footFr_bb hf'), by rw [hfs hkp, setSure_len, hll]⟩, by first | omega | (simp only; omega)⟩
    rw [hfs hkp]
    exact hX23.setRows (D := { E with bl := l }) hb' hf' (setSure_len _ _ _) (setSure_wf hX.wf.bl hpi' hp512)
  · have hge : k = E.pend.length := by have := of_decide_eq_false hge; omega
    subst hge
    rw [List.take_length] at hl
    refine ⟨_, rfl, ?_⟩
    show st1 _ _ _ _
    rw [add_plain]
    refine st1_blk hX.disk (Nat.succ_lt_succ (Nat.zero_lt_succ _)) fun w35 hb35 hf35 => ?_
    refine ⟨rfl, ⟨c, r, nilSl, sf, ?_⟩, hfr.trans (footFr_pd hf35)⟩
    rw [hl]
    have hz := hX.wf
    exact ⟨⟨hz.pos, hz.few, hz.bl, by simp, by simp, hz.keep, hz.flen, hz.ch⟩, h5.hpd, h5.hbb, h5.hne, hX.hcap, hb35, hX.rows.fr hf35 h5.hne.symm, SlAt.nilAt _ _ _ _ _, hX.falls.fr hf35 fun k _ hk e => hk (.inl e)⟩

/-! ### a write -/
theorem clip_ok (s : Sl) (hs : s.len ≤ s.cap) : Calls Try.prog 60 #[s.v] w (Ret r60 fun x w' => x = ⟨s.a, s.len, s.len⟩ ∧ w = w') := by
  apply s60_calls
  refine ⟨⟨by omega, by omega, by omega, by omega⟩, ?_, rfl⟩
  simp [Sl.cut, Addr.add]
theorem Own.slAt {w' : World} {B e sz : Nat} {s : Sl} {xs : List Value} (ho : Own w' B e sz s xs) (hb : ∀ k, B ≤ k → base k) (h1 : pd < B) (h2 : bb < B) : SlAt w' base pd bb sz s xs := by
  refine ⟨ho.length, ho.cap, ?_, ho.at, ?_⟩
  · intro hn
    obtain ⟨a, l, c⟩ := s
    simp only at hn
    subst hn
    rcases ho.2 with ⟨h1, h2⟩ | ⟨g, cap, cur, h1, _⟩
    · simp only [Value.slice.injEq] at h1
      obtain ⟨_, rfl, rfl⟩ := h1
      rfl
    · simp at h1
  · intro a ha
    obtain ⟨sa, l, c⟩ := s
    simp only at ha
    subst ha
    rcases ho.2 with ⟨h1, h2⟩ | ⟨g, cap, cur, h1, h3, h5, _⟩
    · simp at h1
    · simp only [Value.slice.injEq, Option.some.injEq] at h1
      obtain ⟨rfl, _, _⟩ := h1
      exact ⟨hb _ h3, (Array.getElem?_eq_some_iff.1 h5).1, by rintro (e | e) <;> simp only at e <;> omega⟩
theorem write_ok (h : DAt w base pd bb D) (hch : D.changes < 1000000000) (hpn : D.pend.length < 1000000) (hB : ∀ k, w.heap.size ≤ k → base k) (i : Int) (p : Sl) (bs : List UInt8) (hp : Bytes w p bs) :
    Calls Try.prog 33 #[.pointer (dp pd), .int .i64 i, p.v] w (Ret r33 fun x w' => x = (D.write i bs).2 ∧ DAt w' base pd bb (D.write i bs).1 ∧ Fr (Foot pd bb) w w') := by
  apply s33_calls
  refine cR_of (has_ok h i) ?_
  rintro x w' ⟨rfl, rfl⟩
  unfold Dk.write
  refine ⟨fun hne => ?_, fun he => ?_⟩
  · rw [if_pos (nd_t hne)]; exact ⟨rfl, h, Fr.refl _⟩
  have he := nd_f he
  rw [if_neg (by rw [he]; simp)]
  have hpl := hp.1
  refine ⟨fun hne => ?_, fun hl => ?_⟩
  · have hne := nd_t hne
    rw [if_pos (by omega)]; exact ⟨rfl, h, Fr.refl _⟩
  have hl := nd_f hl
  have h512 : bs.length = 512 := by omega
  rw [if_neg (by omega)]
  obtain ⟨hd, hi0, hi1⟩ := why_zero he
  obtain ⟨n, rfl⟩ := Int.eq_ofNat_of_zero_le hi0
  have hn : n < D.bl.length := by omega
  rw [Int.toNat_natCast]
  obtain ⟨c, r, sp, sf, h⟩ := h
  have hwf := h.wf
  refine ⟨by rw [List.length_append, List.length_replicate]; rfl, ?_, ?_⟩
  · intro v hv
    rcases List.mem_append.1 hv with hv | hv
    · obtain rfl : v = _ := by simpa using hv
      rfl
    · rw [List.eq_of_mem_replicate hv]; rfl
  intro b5 w6 hb5 hw6
  have hx6 : Ext w w6 := Ext.new hw6
  have hB6 : Blk w6 b5 116 ([.int .i64 (n : Int)] ++ List.replicate 512 (Value.int .u8 0)) := Blk.new hb5 hw6
  have hpdl := h.disk.lt
  have hbbl := h.rows.lt
  have hb5n : ¬ Foot pd bb b5 := by rintro (e | e) <;> omega
  have e1 : Sl.cut ⟨some (Addr.add ⟨b5, 0, none⟩ 1), 512, 512⟩ 1 0 512 512 = ⟨some ⟨b5, 1, none⟩, 512, 512⟩ := by rw [add_plain]; exact cut_to _ 512 512 (by decide)
  rw [e1]
  have hp6 := hp.ext hx6
  refine cpy_blk (g := b5) (e := 116) (cs := u8s bs) mk_39 hB6 (by rw [u8s_len]; show bs.length = min p.len 512; omega) hp6.2 (by rw [u8s_len, List.length_append, List.length_replicate, List.length_singleton]; omega) (u8s_one _) ?_ fun w8 hb8 hf8 => ?_
  · intro hn
    have := hp.2
    rw [hn] at this
    have h0 : u8s bs = [] := this
    have := congrArg List.length h0
    rw [u8s_len] at this
    simp at this
    rw [this] at h512; cases h512
  have ecell : splice ([.int .i64 (n : Int)] ++ List.replicate 512 (Value.int .u8 0)) 1 (u8s bs) = .int .i64 (n : Int) :: u8s bs := by
    have := splice_mid [.int .i64 (n : Int)] (List.replicate 512 (Value.int .u8 0)) (u8s bs) [] 1 rfl (by rw [List.length_replicate, u8s_len, h512])
    rw [List.append_nil, List.append_nil] at this
    exact this
  rw [ecell] at hb8
  have hx8 : Ext w w8 := hf8.ext hx6 fun k _ e => by rw [e, hb5]; exact Nat.le_refl _
  have h8 := h.ext hx8
  intro w9 hw9
  have hx9 : Ext w8 w9 := by subst hw9; exact Ext.drew _
  refine ⟨_, rfl, ⟨some ⟨bb, 0, none⟩, D.bl.length, c⟩, by rw [add_plain]; exact h8.disk.cell rfl, ?_⟩
  refine ⟨u8s bs, by rw [u8s_len, h512], by rw [add_plain]; exact hb8.at (by rw [List.drop_succ_cons, List.drop_zero, List.take_length]), ?_⟩
  refine ⟨⟨bb, 0, none⟩, _, rfl, by omega, by simpa using hn, rfl, ?_⟩
  show stA _ _ _ _ _
  simp only [add_plain, Nat.zero_add, Int.toNat_natCast, Nat.mul_comm _ 1024, Nat.add_zero]
  have hsz : (u8s (flatB D.bl) ++ r).length ≥ 1024 * n + 1024 := by
    rw [List.length_append, u8s_len, flat_len hwf.bl]
    omega
  have h9 := h8.ext hx9
  refine stA_blk h9.rows (by rw [u8s_len, h512]) (by omega) (u8s_one _) fun w17 hb17 hf17 => ?_
  rw [splice_now hwf.bl hn h512] at hb17
  have h17 := h9.setRows hb17 hf17 (setNow_len _ _ _) (setNow_wf hwf.bl hn h512)
  have hB17 := (hb8.ext hx9).fr hf17 fun e => hb5n (.inr e)
  intro w18 hw18
  have hx18 : Ext w17 w18 := by subst hw18; exact Ext.drew _
  refine ⟨_, rfl, sp, by rw [add_plain]; exact h17.disk.cell rfl, ?_⟩
  have hcl : (Value.int .i64 (n : Int) :: u8s bs).length = 513 := by rw [List.length_cons, u8s_len, h512]
  refine ⟨.int .i64 (n : Int) :: u8s bs, hcl, hB17.at (by rw [List.drop_zero, List.take_length]), ?_⟩
  refine ⟨fun _ x v => x = ⟨sp.a, sp.len, sp.len⟩, fun _ _ _ _ _ h => h, fun _ v hv _ => ?_, ?_⟩
  · refine cR_of (clip_ok sp h.pend.cap) ?_
    rintro x v' ⟨rfl, rfl⟩
    exact ⟨Ext.refl _, rfl⟩
  refine ⟨fun _ x v => ∃ b, x = ⟨some ⟨b, 0, none⟩, 1, 1⟩ ∧ At v ⟨b, 0, none⟩ (.int .i64 (n : Int) :: u8s bs), fun _ _ _ _ hx ⟨b, h1, h2⟩ => ⟨b, h1, Ext.at hx h2⟩,
    fun _ v hv _ => ⟨hcl, one_pend, fun b v' hb hv' => ⟨Ext.new hv', b, rfl, At.new hb hv'⟩⟩, ?_⟩
  rintro x24 x25 w38 hx38 h24 ⟨b, h25, hat⟩
  have h24 : x24 = ⟨sp.a, sp.len, sp.len⟩ := h24
  subst h24; subst h25
  have h18 := (h17.ext hx18).ext hx38
  have hpl' := pend_len h.pend fun p hp => (hwf.pend p hp).2
  have hsz38 : w.heap.size ≤ w38.heap.size := Nat.le_trans (Nat.le_trans (hx8.trans hx9).size hf17.size) (hx18.trans hx38).size
  refine app_full (base := w.heap.size) mkz_91 (by rw [List.length_append, List.length_replicate, List.length_singleton]) rfl (fun hna => by have := h.pend.nil hna; rw [this]) h.pend.len h18.pend.cells (by rw [hcl]; exact (Nat.one_mul 513).symm) hat (by simp) Nat.zero_lt_one
    (by simp only [maxLen]; omega) (by simp only; omega) hsz38 fun s' w41 hl' ho' hx41 => ?_
  have h41 := h18.ext hx41
  refine ⟨_, rfl, ?_⟩
  show st1 _ _ _ _
  rw [add_plain]
  refine st1_blk h41.disk (Nat.succ_lt_succ (Nat.zero_lt_succ _)) fun w44 hb44 hf44 => ?_
  have hfin : DX w44 base pd bb c r s' sf (D.put n bs) := by
    have hz := h41.wf
    have hsl := Own.slAt ho' (base := base) (pd := pd) (bb := bb) hB hpdl hbbl
    refine ⟨⟨hz.pos, hz.few, hz.bl, ?_, ?_, hz.keep, hz.flen, hz.ch⟩, h.hpd, h.hbb, h.hne, h41.hcap, hb44, h41.rows.fr hf44 h.hne.symm, ?_, h41.falls.fr hf44 fun k _ hk e => hk (.inl e)⟩
    · intro p hp
      rcases List.mem_append.1 hp with hp | hp
      · exact hz.pend p hp
      · obtain rfl : p = (n, bs) := by simpa using hp
        exact ⟨by show n < (setNow D.bl n bs).length; rw [setNow_len]; exact hn, h512⟩
    · show (D.pend ++ [(n, bs)]).length ≤ _
      rw [List.length_append]
      simp only [List.length_cons, List.length_nil]
      omega
    · have ep : pendC (D.put n bs).pend = pendC D.pend ++ (.int .i64 (n : Int) :: u8s bs) := by
        show pendC (D.pend ++ [(n, bs)]) = _
        rw [pendC_append]
        simp [pendC]
      rw [ep]
      exact hsl.fr hf44 fun k _ hk e => hk (.inl e)
  refine cR_of (strike_ok ⟨c, r, s', sf, hfin⟩ hch) ?_
  rintro x w46 ⟨rfl, h46, hf46⟩
  refine ⟨rfl, h46, Fr.trans ?_ hf46⟩
  exact ((((Fr.of (hx8.trans hx9)).trans (footFr_bb hf17)).trans (Fr.of (hx18.trans hx38))).trans (Fr.of hx41)).trans (footFr_pd hf44)
end
end Go.Proofs.Ytagkcbbbdlmcjaa
