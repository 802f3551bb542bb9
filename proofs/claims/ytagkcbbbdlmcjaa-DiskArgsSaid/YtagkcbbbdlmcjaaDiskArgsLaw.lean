/- DiskArgs: disks and blocks that can't be are refused, and a nil disk is down: the law answers true and leaves all that was there. -/
import Derived.Test.YtagkcbbbdlmcjaaDiskLives
import Derived.Test.YtagkcbbbdlmcjaaS9
set_option linter.unusedVariables false
set_option linter.unusedSimpArgs false
namespace Go.Proofs.Ytagkcbbbdlmcjaa
open Go.Lift Go.Lift.Disk Go.RowKit
theorem new_any (w : World) (n : Int) : Calls Try.prog 15 #[.int .i64 n] w (Ret r15 fun x w' => Ext w w' ∧ (((n < 1 ∨ 4096 < n) ∧ x = (none, 1)) ∨ (1 ≤ n ∧ n ≤ 4096 ∧ ∃ pd bb, x = (dp pd, 0) ∧ DAt w' w.heap.size pd bb (fresh n.toNat)))) := by
  by_cases h : n < 1 ∨ 4096 < n
  · refine Ret.mono (new_bad w n h) ?_
    rintro x w' ⟨rfl, rfl⟩
    exact ⟨Ext.refl _, .inl ⟨h, rfl⟩⟩
  · obtain ⟨m, rfl⟩ := Int.eq_ofNat_of_zero_le (show 0 ≤ n by omega)
    refine Ret.mono (new_ok w m (by omega) (by omega)) ?_
    rintro x w' ⟨pd, bb, rfl, h1, h2⟩
    exact ⟨h2, .inr ⟨by omega, by omega, pd, bb, rfl, by rw [Int.toNat_natCast]; exact h1⟩⟩
theorem bytes_nil (w : World) : Bytes w nilSl [] := ⟨rfl, rfl⟩

theorem diskArgs_ok (w : World) (n0 : Int) (_hw0 : (Lit.int .i64 n0).wf = true) (n1 : Int) (_hw1 : (Lit.int .i64 n1).wf = true) :
    Calls Try.prog 9 #[.int .i64 n0, .int .i64 n1] w (Ret r9 fun x w' => x = true ∧ Ext w w') := by
  apply s9_calls
  refine cR_of (lives3_ok w) ?_
  rintro x1 w2 ⟨rfl, hx2⟩
  refine ⟨fun h => absurd h (by decide), fun _ => ?_⟩
  refine cR_of (new_any w2 n0) ?_
  rintro x4 w5 ⟨hx5, hc⟩
  refine cR_of (read_nil w5 n1) ?_
  rintro x6 w7 ⟨rfl, rfl⟩
  refine jn_of fun k1 hk1 => ⟨fun h => absurd h (by simp), fun _ => ?_⟩
  rw [hk1]
  refine jn_of fun k2 hk2 => ⟨fun h => absurd h (by simp), fun _ => ?_⟩
  refine cR_of (fill_ok w5 1 []) ?_
  rintro x20 w21 ⟨ho20, hx21⟩
  refine cR_of (write_nil w21 n1 x20) ?_
  rintro x22 w23 ⟨rfl, rfl⟩
  rw [hk2]
  refine jn_of fun k3 hk3 => ⟨fun h => absurd h (by simp), fun _ => ?_⟩
  refine cR_of (flush_nil w21) ?_
  rintro x34 w35 ⟨rfl, rfl⟩
  rw [hk3]
  refine jn_of fun k4 hk4 => ⟨fun h => absurd h (by simp), fun _ => ?_⟩
  refine cR_of (up_nil w21) ?_
  rintro x46 w47 ⟨rfl, rfl⟩
  rw [hk4]
  refine jn_of fun k5 hk5 => ⟨fun h => absurd h (by simp), fun _ => ?_⟩
  refine cR_of (down_nil w21) ?_
  rintro x58 w59 ⟨rfl, rfl⟩
  rw [hk5]
  refine jn_of fun k6 hk6 => ⟨fun h => absurd h (by simp), fun _ => ?_⟩
  refine cR_of (pending_nil w21) ?_
  rintro x70 w71 ⟨rfl, rfl⟩
  rw [hk6]
  refine jn_of fun k7 hk7 => ⟨fun h => absurd h (by simp), fun _ => ?_⟩
  refine cR_of (changes_nil w21) ?_
  rintro x82 w83 ⟨rfl, rfl⟩
  rw [hk7]
  refine jn_of fun k8 hk8 => ⟨fun h => absurd h (by simp), fun _ => ?_⟩
  refine cR_of (blocks_nil w21) ?_
  rintro x94 w95 ⟨rfl, rfl⟩
  rw [hk8]
  refine jn_of fun k9 hk9 => ⟨fun h => absurd h (by simp), fun _ => ?_⟩
  refine cR_of (clone_nil w21) ?_
  rintro x106 w107 ⟨rfl, rfl⟩
  rw [hk9]
  refine ⟨fun h => absurd h (by simp), fun _ => ?_⟩
  refine cR_of (plan_nil w21 nilSl) ?_
  rintro x117 w118 rfl
  refine cR_of (crash_nil w21 (0, 0, 0)) ?_
  rintro x119 w120 hx120
  have hxx := (hx2.trans hx5).trans (hx21.trans hx120)
  have hxd : Ext w5 w120 := hx21.trans hx120
  rcases hc with ⟨hbad, rfl⟩ | ⟨hn1, hn2, pd, bb, rfl, hD⟩
  · refine jn_of fun k hk => ?_
    have key : k true w120 := by
      rw [hk]
      refine ⟨fun _ => ?_, fun h => absurd h (by decide)⟩
      refine jn_of fun k' hk' => ⟨fun _ => ?_, fun h => absurd h (by simp)⟩
      rw [hk']
      exact ⟨by simp, hxx⟩
    refine ⟨fun _ => key, fun h => ?_⟩
    have := of_decide_eq_false h
    rw [decide_eq_true (show 4096 < n0 by omega)]; exact key
  · obtain ⟨hpd, hbb, _, _⟩ := hD.lt
    have hpd' := Nat.le_trans hx2.size hpd
    have hbb' := Nat.le_trans hx2.size hbb
    have hD' := hD.ext hxd
    obtain ⟨m, rfl⟩ := Int.eq_ofNat_of_zero_le (show 0 ≤ n0 by omega)
    rw [Int.toNat_natCast] at hD'
    have hlen : (fresh m).bl.length = m := by simp [fresh]
    refine jn_of fun k hk => ?_
    have key : k false w120 := by
      rw [hk]
      refine ⟨fun h => absurd h (by decide), fun _ => ?_⟩
      refine cR_of (read_ok hD' n1) ?_
      rintro ⟨y, e⟩ w139 ⟨hx139, hr⟩
      have hD2 := hD'.ext hx139
      have hx2' := hxx.trans hx139
      refine jn_of fun k2 hk2 => ?_
      have key2 : ∀ b : Bool, (b = true ↔ (n1 < 0 ∨ (m : Int) ≤ n1)) → k2 b w139 := by
        intro b hb
        rw [hk2]
        refine ⟨fun hbt => ?_, fun hbf => ?_⟩
        · have hbt := hb.1 hbt
          have hwhy : (fresh m).why n1 = 2 := by
            unfold Dk.why
            rw [if_neg (by simp [fresh]), hlen, if_pos hbt]
          have hye : (y, e) = (nilSl, 2) := by
            rcases hr with ⟨_, hr⟩ | ⟨hr, _⟩
            · rw [hwhy] at hr; exact hr
            · rw [hwhy] at hr; cases hr
          cases hye
          refine jn_of fun k3 hk3 => ⟨fun _ => ?_, fun h => absurd h (by simp)⟩
          rw [hk3]
          refine jn_of fun k4 hk4 => ⟨fun _ => ?_, fun h => absurd h (by simp)⟩
          rw [hk4]
          refine jn_of fun k5 hk5 => ⟨fun _ => ?_, fun h => absurd h (by simp)⟩
          refine cR_of (fill_ok w139 1 []) ?_
          rintro x168 w169 ⟨ho168, hx169⟩
          refine cR_of (write_ok (hD2.ext hx169) (by simp [fresh]) (by simp [fresh]) n1 x168 _ ho168.bytes) ?_
          have hwr : ∀ bs, (fresh m).write n1 bs = (fresh m, 2) := by
            intro bs; unfold Dk.write; rw [hwhy, if_pos (by decide)]
          rw [hwr]
          rintro x170 w171 ⟨rfl, h171, hf171⟩
          rw [hk5]
          refine jn_of fun k6 hk6 => ⟨fun _ => ?_, fun h => absurd h (by simp)⟩
          refine cR_of (changes_ok h171) ?_
          rintro x178 w179 ⟨rfl, rfl⟩
          rw [hk6]
          exact ⟨by simp [fresh], footExt hf171 (hx2'.trans hx169) hpd' hbb'⟩
        · have hnb : ¬ (n1 < 0 ∨ (m : Int) ≤ n1) := fun h => by rw [hb.2 h] at hbf; cases hbf
          have hwhy : (fresh m).why n1 = 0 := by
            unfold Dk.why
            rw [if_neg (by simp [fresh]), hlen, if_neg hnb]
          rcases hr with ⟨hr, _⟩ | ⟨_, hr1, hr2⟩
          · exact absurd hwhy hr
          simp only at hr1 hr2
          subst hr1
          obtain ⟨i, rfl⟩ := Int.eq_ofNat_of_zero_le (show 0 ≤ n1 by omega)
          have hblk : (bAt (fresh m).bl i).1 = zero512 := by
            rw [bAt_lt (by rw [hlen]; omega)]
            simp [fresh]
          rw [Int.toNat_natCast, hblk] at hr2
          have hyb := hr2.bytes
          have hyl : y.len = 512 := by rw [← hyb.1]; exact List.length_replicate ..
          have hyc := hr2.cap
          intro w191 hw191
          have hx191 : Ext w139 w191 := by subst hw191; exact Ext.drew _
          refine jn_of fun k3 hk3 => ⟨fun _ => ?_, fun h => absurd h (by simp)⟩
          rw [hk3]
          refine jn_of fun k4 hk4 => ⟨fun _ => ?_, fun h => absurd h (by simp)⟩
          refine ⟨_, hyb.1, hyb.2, ?_⟩
          refine ⟨by decide, by decide, by decide, by decide, fun b206 w206 hb206 hw206 => ?_⟩
          have hx206 : Ext w191 w206 := Ext.new hw206
          have hz : Bytes w206 ⟨some ⟨b206, 0, none⟩, Int.toNat 512, Int.toNat 512⟩ zero512 := by
            refine ⟨List.length_replicate .., ?_⟩
            rw [zeros_u8'] at hw206
            exact At.new hb206 hw206
          refine ⟨_, hz.1, hz.2, ?_⟩
          rw [hk4]
          refine jn_of fun k5 hk5 => ⟨fun _ => ?_, fun h => absurd h (by simp)⟩
          refine ⟨⟨by decide, by show (1 : Int) ≤ (y.len : Int); omega⟩, ?_⟩
          have hxc := hx191.trans hx206
          have hcut := (hyb.ext hxc).cut (l := 1) (e := y.len) (m := y.cap) (by omega) hyc (by rw [hyb.1]; exact Nat.le_refl _)
          have hshort : ∀ bs : List UInt8, bs.length ≠ 512 → (fresh m).write (i : Int) bs = (fresh m, 1) := by
            intro bs hbs; unfold Dk.write; rw [hwhy, if_neg (by decide), if_pos hbs]
          have hcl : ((zero512.take y.len).drop 1).length = 511 := by
            rw [List.length_drop, List.length_take, hyl]
            have : zero512.length = 512 := List.length_replicate ..
            rw [this]
            decide
          refine cR_of (write_ok (hD2.ext hxc) (by simp [fresh]) (by simp [fresh]) (i : Int) _ _ hcut) ?_
          rw [hshort _ (by rw [hcl]; decide)]
          rintro x220 w221 ⟨rfl, h221, hf221⟩
          rw [hk5]
          refine jn_of fun k6 hk6 => ⟨fun _ => ?_, fun h => absurd h (by simp)⟩
          refine cR_of (write_ok h221 (by simp [fresh]) (by simp [fresh]) (i : Int) _ _ (bytes_nil w221)) ?_
          rw [hshort _ (by decide)]
          rintro x230 w231 ⟨rfl, h231, hf231⟩
          rw [hk6]
          refine jn_of fun k7 hk7 => ⟨fun _ => ?_, fun h => absurd h (by simp)⟩
          refine cR_of (changes_ok h231) ?_
          rintro x239 w240 ⟨rfl, rfl⟩
          rw [hk7]
          exact ⟨by simp [fresh], footExt (hf221.trans hf231) (hx2'.trans hxc) hpd' hbb'⟩
      refine ⟨fun h => key2 true ?_, fun h => key2 _ ?_⟩
      · have := of_decide_eq_true h; simp [this]
      · have := of_decide_eq_false h; simp; omega
    refine ⟨fun h => absurd (of_decide_eq_true h) (by omega), fun _ => ?_⟩
    rw [decide_eq_false (show ¬ 4096 < (m : Int) by omega)]; exact key
end Go.Proofs.Ytagkcbbbdlmcjaa
