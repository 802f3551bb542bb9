/- DiskWhole: if all bits of Keep are set, all that was written is there behind a crash; if none, and nothing is torn, only what was flushed: the law answers true and leaves all that was there. -/
import Derived.Test.YtagkcbbbdlmcjaaDiskScript
import Derived.Test.YtagkcbbbdlmcjaaS6
set_option linter.unusedVariables false
set_option linter.unusedSimpArgs false
namespace Go.Proofs.Ytagkcbbbdlmcjaa
open Go.Lift Go.Lift.Disk Go.RowKit
theorem idx8' (x : Int) : ∃ j : Nat, j < 8 ∧ IntKind.i64.wrap (Int.tmod (IntKind.u64.wrap x) 8) = (j : Int) := by
  have h0 : 0 ≤ IntKind.u64.wrap x := by rw [wu64_mod]; omega
  refine ⟨(IntKind.u64.wrap x % 8).toNat, by omega, ?_⟩
  rw [Int.tmod_eq_emod_of_nonneg h0, w64_eq (by omega) (by omega)]
  omega
def allF : Fall := (0, 18446744073709551615, 0)
def noF : Fall := (0, 0, 0)
theorem all_bit {k : Nat} (hk : k < 64) : allF.2.1.toNat.testBit k = true := by
  have : allF.2.1.toNat = 2 ^ 64 - 1 := by decide
  rw [this, Nat.testBit_two_pow_sub_one]
  simpa using hk
theorem crash_all (last : Int) : ∀ (ps : List (Nat × List UInt8)) (k : Nat) (l : List Bl), k + ps.length ≤ 64 → crashL allF last k ps l = flushL l ps
  | [], _, _, _ => rfl
  | p :: ps, k, l, h => by
    simp only [List.length_cons] at h
    rw [crashL, crash_all last ps (k + 1) _ (by omega)]
    unfold crashStep
    rw [if_pos ⟨by omega, all_bit (by omega)⟩]
    rfl
theorem crash_none (last : Int) : ∀ (ps : List (Nat × List UInt8)) (k : Nat) (l : List Bl) (i : Nat), i < l.length → bAt (crashL noF last k ps l) i = bAt l i
  | [], _, _, _, _ => rfl
  | p :: ps, k, l, i, hi => by
    have hs : bAt (crashStep noF last l k p) i = bAt l i := by
      unfold crashStep
      have hb : noF.2.1.toNat.testBit k = false := by
        have : noF.2.1.toNat = 0 := by decide
        rw [this]; simp
      rw [if_neg (by rw [hb]; simp)]
      split
      · have ht : torn noF = 0 := by decide
        rw [ht, bAt_setSure _ hi]
        by_cases he : p.1 = i
        · subst he; simp
        · rw [if_neg he]
      · rfl
    rw [crashL, crash_none last ps (k + 1) _ i (by rw [crashStep_len]; exact hi), hs]
theorem opp {pd bb n : Nat} (h1 : pd < n) (h2 : bb < n) : ∀ k, Up n k → ¬ Foot pd bb k := by
  intro k hk e
  have hk : n ≤ k := hk
  rcases e with e | e <;> omega
/-- another disk, whose blocks' bytes are given -/
structure Other (w : World) (pd bb : Nat) (x : Option Addr) (g : Nat → List UInt8) : Prop where
  ex : ∃ pds bbs n S, x = dp pds ∧ DAt w (Up n) pds bbs S ∧ pd < n ∧ bb < n ∧ S.down = false ∧ S.bl.length = 8 ∧ ∀ i, i < 8 → (bAt S.bl i).1 = g i
theorem Other.fr {w w' : World} {pd bb : Nat} {x : Option Addr} {g : Nat → List UInt8} (h : Other w pd bb x g) (hf : Fr (Foot pd bb) w w') : Other w' pd bb x g := by
  obtain ⟨pds, bbs, n, S, h1, h2, h3, h4, h5⟩ := h.ex
  exact ⟨pds, bbs, n, S, h1, h2.fr hf (opp h3 h4), h3, h4, h5⟩
theorem Other.ext {w w' : World} {pd bb : Nat} {x : Option Addr} {g : Nat → List UInt8} (h : Other w pd bb x g) (hx : Ext w w') : Other w' pd bb x g := h.fr (Fr.of hx)
theorem Other.congr {w : World} {pd bb : Nat} {x : Option Addr} {g g' : Nat → List UInt8} (h : Other w pd bb x g) (hg : ∀ i, i < 8 → g i = g' i) : Other w pd bb x g' := by
  obtain ⟨pds, bbs, n, S, h1, h2, h3, h4, h5, h6, h7⟩ := h.ex
  exact ⟨pds, bbs, n, S, h1, h2, h3, h4, h5, h6, fun i hi => (h7 i hi).trans (hg i hi)⟩
theorem other_clone {w : World} {base : Nat → Prop} {pd bb : Nat} {D : Dk} (h : DAt w base pd bb D) (hd : D.down = false) (hl : D.bl.length = 8) :
    Calls Try.prog 36 #[.pointer (dp pd)] w (Ret r36 fun x w' => Other w' pd bb x (fun i => (bAt D.bl i).1) ∧ Ext w w') := by
  obtain ⟨_, _, h3, h4⟩ := h.lt
  refine Ret.mono (clone_ok h) ?_
  rintro x w' ⟨pd', bb', rfl, h1, h2⟩
  exact ⟨⟨pd', bb', w.heap.size, _, rfl, h1, h3, h4, hd, hl, fun _ _ => rfl⟩, h2⟩
theorem read_up {w : World} {base : Nat → Prop} {pd bb : Nat} {D : Dk} (h : DAt w base pd bb D) (hd : D.down = false) {i : Nat} (hi : i < D.bl.length) :
    Calls Try.prog 28 #[.pointer (dp pd), .int .i64 (i : Int)] w (Ret r28 fun x w' => Ext w w' ∧ x.2 = 0 ∧ Bytes w' x.1 (bAt D.bl i).1) := by
  have hwhy : D.why (i : Int) = 0 := by
    unfold Dk.why
    rw [if_neg (by rw [hd]; simp), if_neg (by omega)]
  refine Ret.mono (read_ok h (i : Int)) ?_
  rintro x w' ⟨hx, hr⟩
  rcases hr with ⟨hr, _⟩ | ⟨_, hr1, hr2⟩
  · exact absurd hwhy hr
  · rw [Int.toNat_natCast] at hr2
    exact ⟨hx, hr1, hr2.bytes⟩

theorem diskWhole_ok (w : World) (p : Sl) (l1 : List OpA) (h1 : OpsAt w p l1) (hlc0 : p.len ≤ p.cap) (hcm0 : p.cap ≤ maxLen) (all : Bool) :
    Calls Try.prog 6 #[p.v, .bool all] w (Ret r6 fun x w' => x = true ∧ Ext w w') := by
  apply s6_calls
  refine cR_of (lives3_ok w) ?_
  rintro x1 w2 ⟨rfl, hx2⟩
  refine jn_of fun k1 hk1 => ⟨fun h => absurd h (by decide), fun _ => ?_⟩
  refine cR_of (fits_ok w2 1 p l1 (h1.ext hx2) (Nat.le_trans hlc0 hcm0)) ?_
  rintro x5 w8 ⟨hfit, hx8⟩
  have hxw8 := hx2.trans hx8
  rw [hk1]
  refine ⟨fun _ => cR_of (lives3_ok w8) fun x w' ⟨hx, hw⟩ => ⟨hx, hxw8.trans hw⟩, fun hf5 => ?_⟩
  obtain ⟨_, _, hl1, _⟩ := hfit (by simpa using hf5)
  refine cR_of (new_ok w8 8 (by decide) (by decide)) ?_
  rintro x15 w16 ⟨pd, bb, rfl, h16, hx16⟩
  obtain ⟨hpd, hbb, hpdl, hbbl⟩ := h16.lt
  have foot8 : ∀ {a b : World}, Fr (Foot pd bb) a b → Ext w8 a → Ext w8 b := fun hf hx => footExt hf hx hpd hbb
  have h1' := h1.ext hxw8
  refine cR_of (other_clone h16 rfl (by simp [fresh])) ?_
  rintro x17 w18 ⟨ho18, hx18⟩
  refine ⟨fun st w' => ∃ (k : Nat) (D : Dk), k ≤ l1.length ∧ st.2 = (k : Int) ∧ DAt w' (Up w8.heap.size) pd bb D ∧ Run 8 (k % 5) (2 * k) D ∧ Other w' pd bb st.1 (fun i => (bAt D.bl i).2) ∧ Ext w8 w', fun st _ => l1.length - st.2.toNat,
    ⟨0, fresh 8, Nat.zero_le _, rfl, h16.ext hx18, run_fresh 8, ho18.congr ?_, hx16.trans hx18⟩, ?_⟩
  · intro i hi
    rw [bAt_lt (by simp [fresh]; exact hi)]
    show (List.replicate 8 (zero512, zero512))[i].1 = (List.replicate 8 (zero512, zero512))[i].2
    rw [List.getElem_replicate]
  rintro ⟨xs, st⟩ w20 ⟨k, D, hk, rfl, hD, hR, hO, hx20⟩
  simp only at hO ⊢
  have hp1 := h1.len
  refine ⟨fun hlt => ?_, fun hge => ?_⟩
  · have hkl : k < l1.length := by have := of_decide_eq_true hlt; omega
    refine jn_of fun k3 hk3 => ?_
    have next : ∀ (x : Option Addr) (w' : World) (E : Dk), DAt w' (Up w8.heap.size) pd bb E → Run 8 ((k + 1) % 5) (2 * (k + 1)) E → Other w' pd bb x (fun i => (bAt E.bl i).2) → Ext w8 w' → k3 x w' := by
      intro x w' E hE hRE hOE hxE
      rw [hk3]
      rw [w64_eq (by omega) (by omega)]
      exact ⟨⟨k + 1, E, by omega, by first | omega | (simp only; omega), hE, hRE, hOE, hxE⟩, by first | omega | (simp only; omega)⟩
    obtain ⟨a, ha, hat⟩ := (h1'.ext hx20).get hkl
    refine ⟨a, _, ha, by first | omega | (simp only; omega), by first | omega | (simp only; omega), rfl, ?_⟩
    rw [Int.toNat_natCast]
    refine ⟨_, rfl, hat, rfl, opCells_one _, fun b33 w34 hb33 hw34 => ?_⟩
    have hx34 : Ext w20 w34 := Ext.new hw34
    have hBo : Blk w34 b33 65 l1[k].cells := Blk.new hb33 hw34
    intro w35 hw35
    have hx35 : Ext w34 w35 := by subst hw35; exact Ext.drew _
    refine ⟨l1[k].at_, by rw [add_plain]; exact hBo.cell rfl, (l1[k].c.toNat : Int), by rw [add_plain]; exact hBo.cell rfl, l1[k].s, by rw [add_plain]; exact hBo.cell rfl, ?_⟩
    refine cR_of (fill_ok w35 l1[k].c l1[k].s) ?_
    rintro x40 w41 ⟨ho40, hx41⟩
    refine ⟨hx35.trans hx41, ?_⟩
    obtain ⟨j, hj, ej⟩ := idx8' l1[k].at_
    rw [ej]
    have hx41' : Ext w20 w41 := (hx34.trans hx35).trans hx41
    have hRp := hR.pend
    have hRc := hR.ch
    refine cR_of (write_ok (hD.ext hx41') (by omega) (by omega) (upB (hx20.trans hx41').size) (j : Int) x40 _ ho40.bytes) ?_
    obtain ⟨ew, hR'⟩ := run_write hR hj (fillOf_len l1[k].c l1[k].s)
    rw [ew]
    rintro x43 w44 ⟨rfl, h44, hf44⟩
    refine ⟨fun h => absurd h (by simp), fun _ => ?_⟩
    have hx44 := foot8 hf44 (hx20.trans hx41')
    have hO44 := (hO.ext hx41').fr hf44
    have hsame : ∀ i, i < 8 → (bAt (Dk.tick (D.put j (fillOf l1[k].c l1[k].s))).bl i).2 = (bAt D.bl i).2 := by
      intro i hi
      show (bAt (setNow D.bl j _) i).2 = _
      rw [bAt_setNow _ (by rw [hR.len]; exact hi)]
      by_cases he : j = i <;> simp [he]
    have htm : Int.tmod (k : Int) 5 = ((k % 5 : Nat) : Int) := by rw [Int.tmod_eq_emod_of_nonneg (by omega)]; omega
    rw [htm]
    refine ⟨fun h4 => ?_, fun h4 => ?_⟩
    · have h4 := of_decide_eq_true h4
      have hc := hR'.ch
      refine cR_of (flush_ok h44 (Nat.lt_of_le_of_lt hc (by omega))) ?_
      obtain ⟨ef, hRf, hat⟩ := run_flush hR'
      rw [ef]
      rintro x47 w48 ⟨rfl, h48, hf48⟩
      refine ⟨fun h => absurd h (by simp), fun _ => ?_⟩
      refine cR_of (other_clone h48 hRf.down hRf.len) ?_
      rintro x50 w51 ⟨hO51, hx51⟩
      refine next x50 w51 _ (h48.ext hx51) ⟨hRf.down, hRf.falls, hRf.len, Nat.le_trans hRf.pend (Nat.zero_le _), Nat.le_trans hRf.ch (by omega), hRf.now⟩ (hO51.congr ?_) ((foot8 hf48 hx44).trans hx51)
      intro i hi
      rw [hat i hi]
    · have h4 := of_decide_eq_false h4
      exact next xs w44 _ h44 ⟨hR'.down, hR'.falls, hR'.len, Nat.le_trans hR'.pend (by omega), Nat.le_trans hR'.ch (by omega), hR'.now⟩ (hO44.congr fun i hi => (hsame i hi).symm) hx44
  · have hge : k = l1.length := by have := of_decide_eq_false hge; omega
    refine cR_of (other_clone hD hR.down hR.len) ?_
    rintro x62 w63 ⟨hO63, hx63⟩
    refine ⟨rfl, fall_one noF, fun b64 w65 hb64 hw65 => ?_⟩
    have hx65 : Ext w63 w65 := Ext.new hw65
    have hB64 : Blk w65 b64 27 (fallOf noF) := Blk.new hb64 hw65
    have hD65 := (hD.ext hx63).ext hx65
    have hRp := hR.pend
    refine jn_of fun k4 hk4 => ?_
    have key : ∀ (x : Option Addr) (w70 : World) (f : Fall), (0 ≤ f.2.1 ∧ f.2.1 < 18446744073709551616) → Blk w70 b64 27 (fallOf f) → DAt w70 (Up w8.heap.size) pd bb D → Ext w8 w70 →
        Other w70 pd bb x (fun i => (bAt (crashL f ((D.pend.length : Int) - 1) 0 D.pend D.bl) i).2) → k4 x w70 := by
      intro x w70 f hf hB hD70 hx70 hO70
      rw [hk4]
      refine ⟨fallOf f, rfl, hB.at rfl, ?_⟩
      refine cR_of (crash_ok hD70 f hf) ?_
      rintro x75 w76 ⟨h76, hf76⟩
      have ec := crash_up hR.down f
      have hdn : (D.crash f).down = true := by rw [ec]
      refine cR_of (read_ok h76 0) ?_
      rintro ⟨y, e⟩ w78 ⟨hx78, hr⟩
      have hwhy : (D.crash f).why 0 = 6 := by unfold Dk.why; rw [if_pos hdn]
      have he : e = 6 := by
        rcases hr with ⟨_, hr⟩ | ⟨hr, _⟩
        · rw [hwhy] at hr; exact congrArg Prod.snd hr
        · rw [hwhy] at hr; cases hr
      subst he
      refine ⟨fun h => absurd h (by simp), fun _ => ?_⟩
      refine cR_of (up_ok (h76.ext hx78)) ?_
      rintro x80 w81 ⟨_, h81, hf81⟩
      have hff := (hf76.trans (Fr.of hx78)).trans hf81
      have hx81 := foot8 hff hx70
      have hO81 := hO70.fr hff
      have hul : (Dk.up (D.crash f)).bl.length = 8 := by
        rw [ec]
        show (List.map _ _).length = 8
        rw [List.length_map, crashL_len']
        exact hR.len
      have hnow : ∀ i, i < 8 → (bAt (Dk.up (D.crash f)).bl i).1 = (bAt (crashL f ((D.pend.length : Int) - 1) 0 D.pend D.bl) i).2 := by
        intro i hi
        rw [ec]
        show (bAt (List.map _ _) i).1 = _
        rw [bAt_map (by rw [crashL_len', hR.len]; exact hi)]
      have hud : (Dk.up (D.crash f)).down = false := rfl
      generalize Dk.up (D.crash f) = U at h81 hul hnow hud
      refine ⟨fun st w' => ∃ i : Nat, i ≤ 8 ∧ st = (i : Int) ∧ Ext w81 w', fun st _ => 8 - st.toNat, ⟨0, by omega, rfl, Ext.refl _⟩, ?_⟩
      rintro st w83 ⟨i, hi, rfl, hx83⟩
      refine ⟨fun hlt => ?_, fun _ => ⟨trivial, (hxw8.trans hx81).trans hx83⟩⟩
      have hlt : i < 8 := by have := of_decide_eq_true hlt; omega
      refine cR_of (read_up (h81.ext hx83) hud (by rw [hul]; exact hlt)) ?_
      rintro x89 w90 ⟨hx90, he89, hb89⟩
      obtain ⟨pds, bbs, n, S, rfl, hS, _, _, hSd, hSl, hSg⟩ := (hO81.ext (hx83.trans hx90)).ex
      refine cR_of (read_up hS hSd (by rw [hSl]; exact hlt)) ?_
      rintro x91 w92 ⟨hx92, he91, hb91⟩
      refine jn_of fun k5 hk5 => ?_
      rw [he91]
      refine ⟨fun h => absurd h (by simp), fun _ => ?_⟩
      have hb89' := hb89.ext hx92
      refine ⟨_, hb89'.1, hb89'.2, _, hb91.1, hb91.2, ?_⟩
      rw [hk5, hnow i hlt, hSg i hlt]
      refine ⟨fun h => absurd h (by simp), fun _ => ?_⟩
      rw [w64_eq (by omega) (by omega)]
      exact ⟨⟨i + 1, by omega, by omega, (hx83.trans hx90).trans hx92⟩, by first | omega | (simp only; omega)⟩
    have hx65' := (hx20.trans hx63).trans hx65
    refine ⟨fun ht => ?_, fun hf => ?_⟩
    · rw [add_plain]
      refine st1_blk hB64 (by decide) fun w68 hB68 hf68 => ?_
      have hx68 : Ext w63 w68 := hf68.ext hx65 fun k _ e => by rw [e, hb64]; exact Nat.le_refl _
      refine key x62 w68 allF (by decide) hB68 ((hD.ext hx63).ext hx68) ((hx20.trans hx63).trans hx68) ((hO63.ext hx68).congr fun i hi => ?_)
      rw [crash_all _ _ _ _ (by omega), flushL_at _ _ _ (by rw [hR.len]; exact hi)]
      exact hR.now i hi
    · refine key xs w65 noF (by decide) hB64 hD65 hx65' (((hO.ext hx63).ext hx65).congr fun i hi => ?_)
      rw [crash_none _ _ _ _ _ (by rw [hR.len]; exact hi)]
end Go.Proofs.Ytagkcbbbdlmcjaa
