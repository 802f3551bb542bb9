/- DiskSure: what was flushed, and not written since, is there behind a crash, whatever stays of the rest: the law answers true and leaves all that was there. -/
import Derived.Test.YtagkcbbbdlmcjaaDiskScript
import Derived.Test.YtagkcbbbdlmcjaaS5
set_option linter.unusedVariables false
set_option linter.unusedSimpArgs false
namespace Go.Proofs.Ytagkcbbbdlmcjaa
open Go.Lift Go.Lift.Disk Go.RowKit
theorem Own.ge {w : World} {base : Nat} {e : TypeId} {size : Nat} {s : Sl} {xs : List Value} (h : Own w base e size s xs) : ∀ b, s.a = some b → base ≤ b.block := by
  intro b hb
  obtain ⟨sa, l, c⟩ := s
  simp only at hb
  subst hb
  rcases h.2 with ⟨h1, h2⟩ | ⟨g, cap, cur, h1, h3, _⟩
  · simp at h1
  · simp only [Value.slice.injEq, Option.some.injEq] at h1
    obtain ⟨rfl, _, _⟩ := h1
    exact h3
theorem idx8 (x : Int) : ∃ j : Nat, j < 8 ∧ IntKind.i64.wrap (Int.tmod (IntKind.u64.wrap x) 8) = (j : Int) := by
  have h0 : 0 ≤ IntKind.u64.wrap x := by rw [wu64_mod]; omega
  refine ⟨(IntKind.u64.wrap x % 8).toNat, by omega, ?_⟩
  rw [Int.tmod_eq_emod_of_nonneg h0, w64_eq (by omega) (by omega)]
  omega
abbrev strs (l : List (List UInt8)) : List Value := l.map str
theorem strs_get {l : List (List UInt8)} {i : Nat} (hi : i < l.length) : (strs l)[i]? = some (str (l.getD i [])) := by simp [List.getD, hi]
theorem strs_set (l : List (List UInt8)) (i : Nat) (b : List UInt8) : (strs l).set i (str b) = strs (l.set i b) := by simp [strs, List.map_set]
abbrev ints (l : List Int) : List Value := l.map (Value.int .i64)
theorem ints_get {l : List Int} {i : Nat} (hi : i < l.length) : (ints l)[i]? = some (.int .i64 (l.getD i 0)) := by simp [List.getD, hi]
theorem ints_set (l : List Int) (i : Nat) (b : Int) : (ints l).set i (.int .i64 b) = ints (l.set i b) := by simp [ints, List.map_set]
theorem getD_set {α : Type} (l : List α) (i j : Nat) (b d : α) (hj : j < l.length) : (l.set i b).getD j d = if i = j then b else l.getD j d := by
  simp only [List.getD_eq_getElem?_getD, List.getElem?_set]
  by_cases h : i = j
  · subst h; simp [hj]
  · simp [h]
theorem footNot {pd bb n k : Nat} (h1 : pd < n) (h2 : bb < n) (hk : n ≤ k) : ¬ Foot pd bb k := by rintro (e | e) <;> omega

theorem diskSure_ok (w : World) (p : Sl) (l1 : List OpA) (h1 : OpsAt w p l1) (hlc0 : p.len ≤ p.cap) (hcm0 : p.cap ≤ maxLen) (q : Sl) (l2 : List OpA) (h2 : OpsAt w q l2) (hlc1 : q.len ≤ q.cap) (hcm1 : q.cap ≤ maxLen)
    (f : Fall) (hf : 0 ≤ f.2.1 ∧ f.2.1 < 18446744073709551616) : Calls Try.prog 5 #[p.v, q.v, aggv (fallOf f)] w (Ret r5 fun x w' => x = true ∧ Ext w w') := by
  apply s5_calls
  intro b1 w2 hb1 hw2
  have hx2 : Ext w w2 := Ext.new hw2
  have hB1 : Blk w2 b1 27 (fallOf f) := Blk.new hb1 hw2
  refine cR_of (lives3_ok w2) ?_
  rintro x3 w4 ⟨rfl, hx4⟩
  refine jn_of fun k1 hk1 => ⟨fun h => absurd h (by decide), fun _ => ?_⟩
  refine cR_of (fits_ok w4 1 p l1 (h1.ext (hx2.trans hx4)) (Nat.le_trans hlc0 hcm0)) ?_
  rintro x7 w8 ⟨hfit1, hx8⟩
  rw [hk1]
  refine jn_of fun k2 hk2 => ?_
  have key2 : ∀ (b2 : Bool) (w20 : World), Ext w2 w20 → (b2 = false → Fits 1 l1 ∧ Fits 1 l2) → k2 b2 w20 := by
    intro b2 w20 hx20 hb2
    rw [hk2]
    refine ⟨fun _ => cR_of (lives3_ok w20) fun x w' ⟨hx, hw⟩ => ⟨hx, (hx2.trans hx20).trans hw⟩, fun hbf => ?_⟩
    obtain ⟨⟨_, _, hl1, _⟩, ⟨_, _, hl2, _⟩⟩ := hb2 hbf
    refine cR_of (new_ok w20 8 (by decide) (by decide)) ?_
    rintro x28 w29 ⟨pd, bb, rfl, h29, hx29⟩
    obtain ⟨hpd, hbb, hpdl, hbbl⟩ := h29.lt
    intro b30 w31 hb30 hw31
    have hx31 : Ext w29 w31 := Ext.new hw31
    have hB30 : Blk w31 b30 63 (strs (List.replicate 8 [])) := Blk.new hb30 hw31
    have hb30u : w20.heap.size ≤ b30 := by rw [hb30]; exact hx29.size
    have h31 := (h29.mono (base' := fun k => Up w20.heap.size k ∧ k ≠ b30) fun k hk hu => ⟨hu, by omega⟩).ext hx31
    have hpdb : pd < b30 := by omega
    have hbbb : bb < b30 := by omega
    have hnf30 : ¬ Foot pd bb b30 := by rintro (e | e) <;> omega
    have h1' := h1.ext (hx2.trans hx20)
    have h2' := h2.ext (hx2.trans hx20)
    have foot20 : ∀ {a b : World}, Fr (Foot pd bb) a b → Ext w20 a → Ext w20 b := fun hf hx => footExt hf hx hpd hbb
    have fr20 : ∀ {a b : World} {g : Nat}, Fr (· = g) a b → Ext w20 a → w20.heap.size ≤ g → Ext w20 b := fun hf hx hg => hf.ext hx fun k _ e => by rw [e]; exact hg
    -- the eight wanted texts
    refine ⟨fun st w' => ∃ i : Nat, i ≤ 8 ∧ st = (i : Int) ∧ DAt w' (fun k => Up w20.heap.size k ∧ k ≠ b30) pd bb (fresh 8) ∧ Blk w' b30 63 (strs (List.replicate i zero512 ++ List.replicate (8 - i) [])) ∧ Ext w20 w', fun st _ => 8 - st.toNat,
      ⟨0, by omega, rfl, h31, hB30, hx29.trans hx31⟩, ?_⟩
    rintro st w33 ⟨i, hi, rfl, hD33, hB33, hx33⟩
    refine ⟨fun hlt => ?_, fun hge => ?_⟩
    · have hlt : i < 8 := by have := of_decide_eq_true hlt; omega
      refine ⟨by decide, by decide, by decide, by decide, fun b43 w43 hb43 hw43 => ?_⟩
      have hx43 : Ext w33 w43 := Ext.new hw43
      have hz : Bytes w43 ⟨some ⟨b43, 0, none⟩, Int.toNat 512, Int.toNat 512⟩ zero512 := by
        refine ⟨List.length_replicate .., ?_⟩
        rw [zeros_u8'] at hw43
        exact At.new hb43 hw43
      refine ⟨_, hz.1, hz.2, by omega, by omega, fun a' ha' => ?_⟩
      rw [ha', add_plain, Nat.zero_add, Int.toNat_natCast, Nat.mul_one]
      refine st1_blk (hB33.ext hx43) (by simp [strs]; omega) fun w' hB' hf' => ?_
      rw [w64_eq (by omega) (by omega)]
      refine ⟨⟨i + 1, by omega, by omega, (hD33.ext hx43).fr hf' fun k hk e => hk.2 e, ?_, fr20 hf' (hx33.trans hx43) hb30u⟩, by simp only; omega⟩
      have e : (List.replicate i zero512 ++ List.replicate (8 - i) []).set i zero512 = List.replicate (i + 1) zero512 ++ List.replicate (8 - (i + 1)) [] := by
        rw [show 8 - i = (8 - (i + 1)) + 1 by omega, List.replicate_succ (n := 8 - (i + 1)), List.set_append_right _ _ (by simp), List.length_replicate, Nat.sub_self, List.set_cons_zero, List.replicate_succ', List.append_assoc]
        rfl
      rw [← e, ← strs_set]
      exact hB'
    have hge : i = 8 := by have := of_decide_eq_false hge; omega
    subst hge
    rw [Nat.sub_self, List.replicate_zero, List.append_nil] at hB33
    -- what is written and flushed
    refine ⟨fun st w' => ∃ (k : Nat) (D : Dk) (want : List (List UInt8)), k ≤ l1.length ∧ st = (k : Int) ∧ DAt w' (fun k => Up w20.heap.size k ∧ k ≠ b30) pd bb D ∧ Run 8 k k D ∧ Blk w' b30 63 (strs want) ∧ want.length = 8 ∧
        (∀ i, i < 8 → (bAt D.bl i).1 = want.getD i []) ∧ Ext w20 w', fun st _ => l1.length - st.toNat,
      ⟨0, fresh 8, _, Nat.zero_le _, rfl, hD33, run_fresh 8, hB33, by simp, ?_, hx33⟩, ?_⟩
    · intro i hi
      rw [bAt_lt (by simp [fresh]; exact hi), List.getD_eq_getElem?_getD, List.getElem?_replicate, if_pos hi]
      exact congrArg Prod.fst (List.getElem_replicate _)
    rintro st w50 ⟨k, D, want, hk, rfl, hD, hR, hBw, hwl, hwn, hx50⟩
    have hupB : ∀ {w' : World}, Ext w20 w' → b30 < w'.heap.size → ∀ k, w'.heap.size ≤ k → (Up w20.heap.size k ∧ k ≠ b30) := fun hx hlt k hk => ⟨Nat.le_trans hx.size hk, by omega⟩
    have hp1 := h1.len
    refine ⟨fun hlt => ?_, fun hge => ?_⟩
    · have hkl : k < l1.length := by have := of_decide_eq_true hlt; omega
      obtain ⟨a, ha, hat⟩ := (h1'.ext hx50).get hkl
      refine ⟨a, _, ha, by omega, by omega, rfl, ?_⟩
      rw [Int.toNat_natCast]
      refine ⟨_, rfl, hat, rfl, opCells_one _, fun b63 w64 hb63 hw64 => ?_⟩
      have hx64 : Ext w50 w64 := Ext.new hw64
      have hBo : Blk w64 b63 65 l1[k].cells := Blk.new hb63 hw64
      refine ⟨l1[k].at_, by rw [add_plain]; exact hBo.cell rfl, (l1[k].c.toNat : Int), by rw [add_plain]; exact hBo.cell rfl, l1[k].s, by rw [add_plain]; exact hBo.cell rfl, ?_⟩
      refine cR_of (fill_ok w64 l1[k].c l1[k].s) ?_
      rintro x68 w69 ⟨ho68, hx69⟩
      obtain ⟨j, hj, ej⟩ := idx8 l1[k].at_
      rw [ej]
      have hx69' := (hx50.trans hx64).trans hx69
      have hDw := (hD.ext hx64).ext hx69
      have hBw69 := (hBw.ext hx64).ext hx69
      have hRp := hR.pend
      have hRc := hR.ch
      refine cR_of (write_ok hDw (by omega) (by omega) (hupB hx69' hBw69.lt) (j : Int) x68 _ ho68.bytes) ?_
      obtain ⟨ew, hR'⟩ := run_write hR hj (fillOf_len l1[k].c l1[k].s)
      rw [ew]
      rintro x70 w71 ⟨rfl, h71, hf71⟩
      refine ⟨fun h => absurd h (by simp), fun _ => ?_⟩
      have hpd64 : pd < w64.heap.size := Nat.lt_of_lt_of_le hpdb (Nat.le_of_lt (Nat.lt_of_lt_of_le hBw.lt hx64.size))
      have hbb64 : bb < w64.heap.size := Nat.lt_of_lt_of_le hbbb (Nat.le_of_lt (Nat.lt_of_lt_of_le hBw.lt hx64.size))
      have hb71 := hf71.bytes (fun b hb => footNot hpd64 hbb64 (Own.ge ho68 b hb)) ho68.bytes
      refine ⟨_, hb71.1, hb71.2, by omega, by omega, fun a' ha' => ?_⟩
      rw [ha', add_plain, Nat.zero_add, Int.toNat_natCast, Nat.mul_one]
      refine st1_blk (hBw69.fr hf71 hnf30) (by simp [strs]; omega) fun w' hB' hf' => ?_
      rw [w64_eq (by omega) (by omega)]
      rw [strs_set] at hB'
      refine ⟨⟨k + 1, _, _, by omega, by omega, h71.fr hf' fun k hk e => hk.2 e, hR', hB', by simp; exact hwl, ?_, fr20 hf' (foot20 hf71 hx69') hb30u⟩, by simp only; omega⟩
      intro i hi
      show (bAt (setNow D.bl j _) i).1 = _
      rw [bAt_setNow _ (by rw [hR.len]; exact hi), getD_set _ _ _ _ _ (by omega)]
      by_cases he : j = i
      · simp [he]
      · simp only [he, if_false]; exact hwn i hi
    have hge : k = l1.length := by have := of_decide_eq_false hge; omega
    subst hge
    have hRc := hR.ch
    refine cR_of (flush_ok hD (by omega)) ?_
    obtain ⟨ef, hRf, hat⟩ := run_flush hR
    rw [ef]
    rintro x77 w78 ⟨rfl, h78, hf78⟩
    refine ⟨fun h => absurd h (by simp), fun _ => ?_⟩
    have hx78 := foot20 hf78 hx50
    have hB78 := hBw.fr hf78 hnf30
    generalize Dk.flushed D = E at h78 hRf hat
    have hsure : ∀ i, i < 8 → (bAt E.bl i).2 = want.getD i [] := fun i hi => by rw [hat i hi]; exact hwn i hi
    have hpE : E.pend = [] := List.eq_nil_of_length_eq_zero (Nat.le_zero.1 hRf.pend)
    intro b80 w81 hb80 hw81
    have hx81 : Ext w78 w81 := Ext.new hw81
    have hB80 : Blk w81 b80 69 (ints (List.replicate 8 0)) := Blk.new hb80 hw81
    have hb80u : w20.heap.size ≤ b80 := by rw [hb80]; exact hx78.size
    have hb3080 : b30 < b80 := by rw [hb80]; exact hB78.lt
    have hnf80 : ¬ Foot pd bb b80 := by rintro (e | e) <;> omega
    have h81 := (h78.mono (base' := fun k => Up w20.heap.size k ∧ k ≠ b80) fun k hk hu => ⟨hu.1, by omega⟩).ext hx81
    have hupB2 : ∀ {w' : World}, Ext w20 w' → b80 < w'.heap.size → ∀ k, w'.heap.size ≤ k → (Up w20.heap.size k ∧ k ≠ b80) := fun hx hlt k hk => ⟨Nat.le_trans hx.size hk, by omega⟩
    -- what is only written
    refine ⟨fun st w' => ∃ (k : Nat) (D : Dk) (tt : List Int), k ≤ l2.length ∧ st = (k : Int) ∧ DAt w' (fun k => Up w20.heap.size k ∧ k ≠ b80) pd bb D ∧ Run 8 k (l1.length + 1 + k) D ∧ Blk w' b30 63 (strs want) ∧ Blk w' b80 69 (ints tt) ∧ tt.length = 8 ∧
        (∀ i, i < 8 → tt.getD i 0 = 0 → (∀ p ∈ D.pend, p.1 ≠ i) ∧ (bAt D.bl i).2 = want.getD i []) ∧ Ext w20 w', fun st _ => l2.length - st.toNat,
      ⟨0, E, _, Nat.zero_le _, rfl, h81, hRf, hB78.ext hx81, hB80, by simp, ?_, hx78.trans hx81⟩, ?_⟩
    · intro i hi _
      exact ⟨by rw [hpE]; simp, hsure i hi⟩
    rintro st w83 ⟨k, D', tt, hk, rfl, hD', hR', hBw', hBt, htl, htt, hx83⟩
    have hp2 := h2.len
    refine ⟨fun hlt => ?_, fun hge => ?_⟩
    · have hkl : k < l2.length := by have := of_decide_eq_true hlt; omega
      obtain ⟨a, ha, hat⟩ := (h2'.ext hx83).get hkl
      refine ⟨a, _, ha, by omega, by omega, rfl, ?_⟩
      rw [Int.toNat_natCast]
      refine ⟨_, rfl, hat, rfl, opCells_one _, fun b96 w97 hb96 hw97 => ?_⟩
      have hx97 : Ext w83 w97 := Ext.new hw97
      have hBo : Blk w97 b96 65 l2[k].cells := Blk.new hb96 hw97
      refine ⟨l2[k].at_, by rw [add_plain]; exact hBo.cell rfl, (l2[k].c.toNat : Int), by rw [add_plain]; exact hBo.cell rfl, l2[k].s, by rw [add_plain]; exact hBo.cell rfl, ?_⟩
      refine cR_of (fill_ok w97 l2[k].c l2[k].s) ?_
      rintro x101 w102 ⟨ho, hx102⟩
      obtain ⟨j, hj, ej⟩ := idx8 l2[k].at_
      rw [ej]
      have hx102' := (hx83.trans hx97).trans hx102
      have hBt102 := (hBt.ext hx97).ext hx102
      have hRp := hR'.pend
      have hRc' := hR'.ch
      refine cR_of (write_ok ((hD'.ext hx97).ext hx102) (by omega) (by omega) (hupB2 hx102' hBt102.lt) (j : Int) x101 _ ho.bytes) ?_
      obtain ⟨ew, hR2⟩ := run_write hR' hj (fillOf_len l2[k].c l2[k].s)
      rw [ew]
      rintro x103 w104 ⟨rfl, h104, hf104⟩
      refine ⟨fun h => absurd h (by simp), fun _ => ?_⟩
      refine ⟨by omega, by omega, fun a' ha' => ?_⟩
      rw [ha', add_plain, Nat.zero_add, Int.toNat_natCast, Nat.mul_one]
      refine st1_blk (hBt102.fr hf104 hnf80) (by simp [ints]; omega) fun w' hB' hf' => ?_
      rw [w64_eq (by omega) (by omega)]
      rw [ints_set] at hB'
      refine ⟨⟨k + 1, _, _, by omega, by omega, h104.fr hf' fun k hk e => hk.2 e, ⟨hR2.down, hR2.falls, hR2.len, hR2.pend, by have := hR2.ch; omega, hR2.now⟩, ((((hBw'.ext hx97).ext hx102).fr hf104 hnf30).fr hf' (by omega)), hB', by simp; exact htl, ?_, fr20 hf' (foot20 hf104 hx102') hb80u⟩, by simp only; omega⟩
      intro i hi h0
      rw [getD_set _ _ _ _ _ (by omega)] at h0
      by_cases he : j = i
      · rw [if_pos he] at h0; cases h0
      · rw [if_neg he] at h0
        obtain ⟨h5, h6⟩ := htt i hi h0
        refine ⟨?_, ?_⟩
        · intro pp hpp
          rcases List.mem_append.1 (show pp ∈ D'.pend ++ [(j, fillOf l2[k].c l2[k].s)] from hpp) with hpp | hpp
          · exact h5 pp hpp
          · rw [List.mem_singleton.1 hpp]; exact he
        · show (bAt (setNow D'.bl j _) i).2 = _
          rw [bAt_setNow _ (by rw [hR'.len]; exact hi), if_neg he]
          exact h6
    have hge : k = l2.length := by have := of_decide_eq_false hge; omega
    subst hge
    -- the power fails, and comes again
    have hBf := (hB1.ext hx20).ext hx83
    refine ⟨fallOf f, rfl, hBf.at rfl, ?_⟩
    refine cR_of (crash_ok hD' f hf) ?_
    rintro x110 w111 ⟨h111, hf111⟩
    refine cR_of (up_ok h111) ?_
    rintro x112 w113 ⟨_, h113, hf113⟩
    have hff := hf111.trans hf113
    have hB30' := hBw'.fr hff hnf30
    have hB80' := hBt.fr hff hnf80
    have hx113 := foot20 hff hx83
    have ec := crash_up hR'.down f
    have hlen : (Dk.up (D'.crash f)).bl.length = 8 := by
      rw [ec]
      show (List.map _ _).length = 8
      rw [List.length_map, crashL_len']
      exact hR'.len
    have hdown : (Dk.up (D'.crash f)).down = false := rfl
    have hpend : (Dk.up (D'.crash f)).pend = [] := by rw [ec]; rfl
    have hgood : ∀ i, i < 8 → tt.getD i 0 = 0 → (bAt (Dk.up (D'.crash f)).bl i).1 = want.getD i [] := by
      intro i hi h0
      obtain ⟨h5, h6⟩ := htt i hi h0
      rw [ec]
      show (bAt (List.map _ _) i).1 = _
      rw [bAt_map (by rw [crashL_len', hR'.len]; exact hi)]
      show (bAt (crashL _ _ _ _ _) i).2 = _
      rw [crashL_at _ _ _ _ _ _ (by rw [hR'.len]; exact hi) h5]
      exact h6
    generalize Dk.up (D'.crash f) = U at h113 hlen hdown hpend hgood
    refine ⟨fun st w' => ∃ i : Nat, i ≤ 8 ∧ st = (i : Int) ∧ Ext w113 w', fun st _ => 8 - st.toNat, ⟨0, by omega, rfl, Ext.refl _⟩, ?_⟩
    rintro st w115 ⟨i, hi, rfl, hx115⟩
    refine ⟨fun hlt => ?_, fun hge => ?_⟩
    · have hlt : i < 8 := by have := of_decide_eq_true hlt; omega
      have hwhy : U.why (i : Int) = 0 := by
        unfold Dk.why
        rw [if_neg (by rw [hdown]; simp), if_neg (by rw [hlen]; omega)]
      refine cR_of (read_ok (h113.ext hx115) (i : Int)) ?_
      rintro ⟨y, e⟩ w123 ⟨hx123, hr⟩
      rcases hr with ⟨hr, _⟩ | ⟨_, hr1, hr2⟩
      · exact absurd hwhy hr
      simp only at hr1 hr2
      subst hr1
      rw [Int.toNat_natCast] at hr2
      intro w124 hw124
      have hx124 : Ext w123 w124 := by subst hw124; exact Ext.drew _
      refine jn_of fun k3 hk3 => ⟨fun h => absurd h (by simp), fun _ => ?_⟩
      have hxx := hx115.trans hx123
      have go : k3 false w124 := by
        rw [hk3]
        refine ⟨fun h => absurd h (by decide), fun _ => ?_⟩
        rw [w64_eq (by omega) (by omega)]
        exact ⟨⟨i + 1, by omega, by omega, hxx.trans hx124⟩, by simp only; omega⟩
      refine ⟨by omega, by omega, fun a' ha' => ?_⟩
      rw [ha', add_plain, Nat.zero_add, Int.toNat_natCast, Nat.mul_one]
      refine ⟨_, (hB80'.ext hxx).cell (ints_get (by omega)), ?_⟩
      refine jn_of fun k4 hk4 => ?_
      refine ⟨fun h0 => ?_, fun _ => ?_⟩
      · have h0 := of_decide_eq_true h0
        have hyb := hr2.bytes
        refine ⟨_, hyb.1, hyb.2, by omega, by omega, fun a2 ha2 => ?_⟩
        rw [ha2, add_plain, Nat.zero_add, Int.toNat_natCast, Nat.mul_one]
        refine ⟨_, (hB30'.ext hxx).cell (strs_get (by omega)), ?_⟩
        rw [hk4, hgood i hlt h0]
        simp only [decide_true, Bool.not_true]
        exact go
      · rw [hk4]; exact go
    · refine cR_of (pending_ok (h113.ext hx115)) ?_
      rintro x159 w160 ⟨rfl, rfl⟩
      rw [hpend]
      exact ⟨by simp, ((hx2.trans hx20).trans hx113).trans hx115⟩
  refine ⟨fun h => key2 true w8 (hx4.trans hx8) fun h => absurd h (by decide), fun h => ?_⟩
  have hx7 : x7 = true := by simpa using h
  refine cR_of (fits_ok w8 1 q l2 (h2.ext ((hx2.trans hx4).trans hx8)) (Nat.le_trans hlc1 hcm1)) ?_
  rintro x17 w18 ⟨hfit2, hx18⟩
  refine key2 _ w18 ((hx4.trans hx8).trans hx18) fun h => ⟨hfit1 hx7, hfit2 (by simpa using h)⟩
end Go.Proofs.Ytagkcbbbdlmcjaa
