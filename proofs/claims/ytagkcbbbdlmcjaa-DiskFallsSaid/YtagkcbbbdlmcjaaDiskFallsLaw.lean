/- DiskFalls: the change at which a fall is planned, and no other one, answers ErrDown: the law answers true and leaves all that was there. -/
import Derived.Test.YtagkcbbbdlmcjaaDiskLives
import Derived.Test.YtagkcbbbdlmcjaaS7
set_option linter.unusedVariables false
set_option linter.unusedSimpArgs false
namespace Go.Proofs.Ytagkcbbbdlmcjaa
open Go.Lift Go.Lift.Disk Go.RowKit
theorem crashL_len (f : Fall) (last : Int) : ∀ (ps : List (Nat × List UInt8)) (k : Nat) (l : List Bl), (crashL f last k ps l).length = l.length
  | [], _, _ => rfl
  | p :: ps, k, l => by rw [crashL, crashL_len f last ps, crashStep_len]
theorem flushL_len : ∀ (ps : List (Nat × List UInt8)) (l : List Bl), (flushL l ps).length = l.length
  | [], _ => rfl
  | p :: ps, l => by
    have := flushL_len ps (setSure l p.1 p.2)
    unfold flushL at this ⊢
    rw [List.foldl_cons, this, setSure_len]
structure FallInv (f : Fall) (k m : Nat) (D : Dk) : Prop where
  ch : D.changes = k
  falls : D.falls = [f]
  len : D.bl.length = 4
  pend : D.pend.length ≤ m
theorem strike_inv {f : Fall} {k m : Nat} {D : Dk} (h : FallInv f k m D) (hd : D.down = false) : D.strike.2 = (if f.1 = (k : Int) then 6 else 0) ∧ D.strike.1.down = decide (f.1 = (k : Int)) ∧ FallInv f (k + 1) m D.strike.1 := by
  by_cases he : f.1 = (k : Int)
  · have hs : D.falls.find? (fun g => g.1 == (D.changes : Int)) = some f := by rw [h.falls, h.ch]; simp [he]
    rw [strike_some hs, if_pos he]
    have hc : (Dk.tick D).crash f = { Dk.tick D with bl := (crashL f (((Dk.tick D).pend.length : Int) - 1) 0 (Dk.tick D).pend (Dk.tick D).bl).map fun p => (p.2, p.2), pend := [], down := true } := by
      unfold Dk.crash
      rw [if_neg (by show ¬ D.down = true; rw [hd]; simp)]
    rw [hc]
    refine ⟨rfl, by simp [he], ⟨by show D.changes + 1 = _; rw [h.ch], h.falls, ?_, Nat.zero_le _⟩⟩
    show (List.map _ _).length = 4
    rw [List.length_map, crashL_len]
    exact h.len
  · have hs : D.falls.find? (fun g => g.1 == (D.changes : Int)) = none := by rw [h.falls, h.ch]; simp [he]
    rw [strike_none hs, if_neg he]
    exact ⟨rfl, by rw [decide_eq_false he]; exact hd, ⟨by show D.changes + 1 = _; rw [h.ch], h.falls, h.len, h.pend⟩⟩
theorem flush_inv {f : Fall} {k m : Nat} {D : Dk} (h : FallInv f k m D) (hd : D.down = false) : D.flush.2 = (if f.1 = (k : Int) then 6 else 0) ∧ D.flush.1.down = decide (f.1 = (k : Int)) ∧ FallInv f (k + 1) m D.flush.1 := by
  obtain ⟨h1, h2, h3⟩ := strike_inv h hd
  unfold Dk.flush
  rw [if_neg (by rw [hd]; simp)]
  by_cases he : f.1 = (k : Int)
  · rw [if_pos he] at h1 ⊢
    rw [if_pos (by rw [h1]; decide)]
    exact ⟨h1, h2, h3⟩
  · rw [if_neg he] at h1 ⊢
    rw [if_neg (by rw [h1]; decide)]
    exact ⟨rfl, h2, ⟨h3.ch, h3.falls, by show (flushL _ _).length = 4; rw [flushL_len]; exact h3.len, Nat.zero_le _⟩⟩
theorem why_in {D : Dk} {i : Nat} (hd : D.down = false) (hi : i < D.bl.length) : D.why (i : Int) = 0 := by
  unfold Dk.why
  rw [if_neg (by rw [hd]; simp), if_neg (by omega)]
theorem write_inv {f : Fall} {k m : Nat} {D : Dk} (h : FallInv f k m D) (hd : D.down = false) {i : Nat} (hi : i < 4) {b : List UInt8} (hb : b.length = 512) :
    (D.write (i : Int) b).2 = (if f.1 = (k : Int) then 6 else 0) ∧ (D.write (i : Int) b).1.down = decide (f.1 = (k : Int)) ∧ FallInv f (k + 1) (m + 1) (D.write (i : Int) b).1 := by
  have hw := why_in hd (i := i) (by rw [h.len]; exact hi)
  unfold Dk.write
  rw [if_neg (by rw [hw]; simp), if_neg (by rw [hb]; simp), Int.toNat_natCast]
  refine strike_inv (D := D.put i b) ⟨h.ch, h.falls, by show (setNow _ _ _).length = 4; rw [setNow_len]; exact h.len, ?_⟩ hd
  show (D.pend ++ [(i, b)]).length ≤ _
  rw [List.length_append]
  have := h.pend
  simp only [List.length_cons, List.length_nil]
  omega
theorem byte_of (k : Nat) (hk : k < 256) : IntKind.u8.wrap (k : Int) = ((UInt8.ofNat k).toNat : Int) := by
  rw [wu8_eq (by omega) (by omega)]
  simp
  omega

theorem diskFalls_ok (w : World) (n0 : Int) (_hw0 : (Lit.int .i64 n0).wf = true) (n1 : Int) (_hw1 : (Lit.int .i64 n1).wf = true) (n2 : Int) (hw2 : (Lit.int .u64 n2).wf = true) :
    Calls Try.prog 7 #[.int .i64 n0, .int .i64 n1, .int .u64 n2] w (Ret r7 fun x w' => x = true ∧ Ext w w') := by
  have hk2 : 0 ≤ n2 ∧ n2 < 18446744073709551616 := by
    have : 0 ≤ n2 ∧ n2 ≤ 18446744073709551615 := by simpa [Lit.wf, IntKind.min, IntKind.max, IntKind.signed, IntKind.bits] using hw2
    omega
  apply s7_calls
  refine cR_of (lives3_ok w) ?_
  rintro x1 w2 ⟨rfl, hx2⟩
  refine jn_of fun k1 hk1 => ?_
  refine ⟨fun h => absurd h (by decide), fun _ => ?_⟩
  rw [hk1]
  refine jn_of fun k2 hk2' => ?_
  have key : ∀ b : Bool, (b = true ↔ (n1 < 0 ∨ 40 < n1)) → k2 b w2 := by
    intro b hb
    rw [hk2']
    refine ⟨fun _ => cR_of (lives3_ok w2) fun x w' ⟨hx, hw⟩ => ⟨hx, hx2.trans hw⟩, fun hf => ?_⟩
    have hno : ¬ (n1 < 0 ∨ 40 < n1) := fun h => by rw [hb.2 h] at hf; cases hf
    obtain ⟨n, rfl⟩ := Int.eq_ofNat_of_zero_le (show 0 ≤ n1 by omega)
    have hn : n ≤ 40 := by omega
    refine cR_of (new_ok w2 4 (by decide) (by decide)) ?_
    rintro x22 w23 ⟨pd, bb, rfl, h23, hx23⟩
    obtain ⟨hpd, hbb, hpdl, hbbl⟩ := h23.lt
    refine ⟨rfl, ?_, fun b24 w25 hb24 hw25 => ?_⟩
    · exact fall_one (n0, n2, 0)
    have hx25 : Ext w23 w25 := Ext.new hw25
    have hB : Blk w25 b24 27 (fallOf (n0, n2, 0)) := Blk.new hb24 hw25
    refine cR_of (plan_ok (h23.ext hx25) ⟨some ⟨b24, 0, none⟩, 1, 1⟩ [(n0, n2, 0)] rfl (hB.at rfl) (by simp) (by show 1 ≤ 1000000; decide) (fun f hf => by rw [List.mem_singleton.1 hf]; exact hk2)) ?_
    rintro x26 w27 ⟨h27, hf27⟩
    have hx27 := footExt hf27 ((hx2.trans hx23).trans hx25) (Nat.le_trans hx2.size hpd) (Nat.le_trans hx2.size hbb)
    refine ⟨fun st w' => ∃ (k : Nat) (D : Dk), k ≤ n ∧ st = (k : Int) ∧ DAt w' w2.heap.size pd bb D ∧ FallInv (n0, n2, 0) k k D ∧ D.down = false ∧ Ext w w', fun st _ => n - st.toNat,
      ⟨0, _, Nat.zero_le _, rfl, h27, ⟨rfl, rfl, by simp [Dk.plan, fresh], by simp [Dk.plan, fresh]⟩, rfl, hx27⟩, ?_⟩
    rintro st w29 ⟨k, D, hk, rfl, hD, hI, hdn, hx⟩
    refine ⟨fun hlt => ?_, fun hge => ?_⟩
    · have hlt : k < n := by have := of_decide_eq_true hlt; omega
      refine jn_of fun k3 hk3 => ?_
      have next : ∀ (e : Int) (w46 : World) (E : Dk), e = (if n0 = (k : Int) then 6 else 0) → DAt w46 w2.heap.size pd bb E → E.down = decide (n0 = (k : Int)) → FallInv (n0, n2, 0) (k + 1) (k + 1) E → Ext w w46 → k3 e w46 := by
        intro e w46 E he hE hEd hEI hx46
        rw [hk3]
        refine jn_of fun k4 hk4 => ?_
        have hdec : (decide ((k : Int) = n0)) = decide (n0 = (k : Int)) := by rw [decide_eq_decide]; exact eq_comm
        have hcmp : ((decide (e = 6)) == (decide ((k : Int) = n0))) = true ∧ ((decide (e = 0)) == (!decide ((k : Int) = n0))) = true := by
          rw [hdec, he]
          by_cases h0 : n0 = (k : Int) <;> simp [h0]
        have g4 : k4 false w46 := by
          rw [hk4]
          refine jn_of fun k5 hk5 => ?_
          refine ⟨fun h => absurd h (by decide), fun _ => ?_⟩
          refine cR_of (down_ok hE) ?_
          rintro x67 w68 ⟨rfl, rfl⟩
          have g5 : k5 false w46 := by
            rw [hk5]
            refine ⟨fun h => absurd h (by decide), fun _ => ?_⟩
            refine cR_of (up_ok hE) ?_
            rintro x78 w79 ⟨_, h79, hf79⟩
            rw [w64_eq (by omega) (by omega)]
            exact ⟨⟨k + 1, E.up, by omega, by omega, h79, ⟨hEI.ch, hEI.falls, hEI.len, hEI.pend⟩, rfl, footExt hf79 hx46 (Nat.le_trans hx2.size hpd) (Nat.le_trans hx2.size hbb)⟩, by simp only; omega⟩
          have : (!(E.down == (decide ((k : Int) = n0)))) = false := by rw [hdec, hEd]; simp
          rw [this]; exact g5
        rw [hcmp.1, hcmp.2]
        exact ⟨fun h => absurd h (by decide), fun _ => g4⟩
      refine ⟨fun h3 => ?_, fun h3 => ?_⟩
      · refine cR_of (flush_ok hD (by rw [hI.ch]; omega)) ?_
        rintro x39 w40 ⟨rfl, h40, hf40⟩
        obtain ⟨a1, a2, a3⟩ := flush_inv hI hdn
        exact next _ w40 _ a1 h40 a2 ⟨a3.ch, a3.falls, a3.len, Nat.le_succ_of_le a3.pend⟩ (footExt hf40 hx (Nat.le_trans hx2.size hpd) (Nat.le_trans hx2.size hbb))
      · rw [byte_of k (by omega)]
        refine cR_of (fill_ok w29 (UInt8.ofNat k) []) ?_
        rintro x41 w42 ⟨ho41, hx42⟩
        have hmod : Int.tmod (k : Int) 4 = ((k % 4 : Nat) : Int) := by rw [Int.tmod_eq_emod_of_nonneg (by omega)]; omega
        rw [hmod]
        have hip := hI.pend
        refine cR_of (write_ok (hD.ext hx42) (by rw [hI.ch]; omega) (by omega) ((k % 4 : Nat) : Int) x41 _ ho41.bytes) ?_
        rintro x43 w44 ⟨rfl, h44, hf44⟩
        obtain ⟨a1, a2, a3⟩ := write_inv hI hdn (i := k % 4) (by omega) (fillOf_len (UInt8.ofNat k) [])
        exact next _ w44 _ a1 h44 a2 a3 (footExt hf44 (hx.trans hx42) (Nat.le_trans hx2.size hpd) (Nat.le_trans hx2.size hbb))
    · have hge : k = n := by have := of_decide_eq_false hge; omega
      subst hge
      refine cR_of (changes_ok hD) ?_
      rintro x86 w87 ⟨rfl, rfl⟩
      rw [hI.ch]
      exact ⟨by simp, hx⟩
  refine ⟨fun h => key true ?_, fun h => key _ ?_⟩
  · have := of_decide_eq_true h; simp [this]
  · have := of_decide_eq_false h
    simp; omega
end Go.Proofs.Ytagkcbbbdlmcjaa
