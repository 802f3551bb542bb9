/- The disk's own trial at the head of each law; and what a nil disk answers. -/
import Derived.Test.YtagkcbbbdlmcjaaDiskMake
import Derived.Test.YtagkcbbbdlmcjaaS30
set_option linter.unusedVariables false
set_option linter.unusedSimpArgs false
namespace Go.Proofs.Ytagkcbbbdlmcjaa
open Go.Lift Go.Lift.Disk Go.RowKit
def lvX : List UInt8 := fillOf 120 []
def lvY : List UInt8 := fillOf 121 []
def lv1 : Dk := ((fresh 2).write 1 lvX).1
def lv2 : Dk := lv1.flush.1
def lv3 : Dk := (lv2.write 1 lvY).1
def lv4 : Dk := lv3.crash (0, 0, 2)
theorem lv1_e : ((fresh 2).write 1 lvX).2 = 0 := by decide +kernel
theorem lv2_e : lv1.flush.2 = 0 := by decide +kernel
theorem lv3_e : (lv2.write 1 lvY).2 = 0 := by decide +kernel
theorem lv4_d : lv4.down = true := by decide +kernel
theorem lv5_w : lv4.up.why 1 = 0 := by decide +kernel
theorem lv5_b : (bAt lv4.up.bl 1).1 = fillOf 120 [121, 121] := by decide +kernel
theorem lv0_s : (fresh 2).changes < 1000000000 ∧ (fresh 2).pend.length < 1000000 := by decide +kernel
theorem lv1_s : lv1.changes < 1000000000 := by decide +kernel
theorem lv2_s : lv2.changes < 1000000000 ∧ lv2.pend.length < 1000000 := by decide +kernel
theorem footExt {w w0 w' : World} {pd bb : Nat} (hf : Fr (Foot pd bb) w w') (hx : Ext w0 w) (h1 : w0.heap.size ≤ pd) (h2 : w0.heap.size ≤ bb) : Ext w0 w' :=
  hf.ext hx fun k _ hk => by rcases hk with e | e <;> rw [e] <;> assumption
theorem lives3_ok (w : World) : Calls Try.prog 30 #[] w (Ret r30 fun x w' => x = true ∧ Ext w w') := by
  apply s30_calls
  refine cR_of (new_ok w 2 (by decide) (by decide)) ?_
  rintro x1 w2 ⟨pd, bb, rfl, h2, hx2⟩
  obtain ⟨hpd, hbb, _, _⟩ := h2.lt
  refine jn_of fun k1 hk1 => ?_
  refine ⟨fun h => absurd h (by simp), fun _ => ?_⟩
  rw [hk1]
  refine jn_of fun k2 hk2 => ?_
  refine ⟨fun h => absurd h (by simp), fun _ => ?_⟩
  refine cR_of (fill_ok w2 120 []) ?_
  rintro x11 w12 ⟨ho11, hx12⟩
  have hwr1 := write_ok (h2.ext hx12) lv0_s.1 lv0_s.2 (upB (hx2.trans hx12).size) 1 x11 lvX ho11.bytes
  refine cR_of hwr1 ?_
  rintro x13 w14 ⟨hx13, h14, hf14⟩
  rw [lv1_e] at hx13
  subst hx13
  rw [hk2]
  refine jn_of fun k3 hk3 => ?_
  refine ⟨fun h => absurd h (by simp), fun _ => ?_⟩
  refine cR_of (flush_ok (D := lv1) h14 lv1_s) ?_
  rintro x21 w22 ⟨hx21, h22, hf22⟩
  rw [lv2_e] at hx21
  subst hx21
  rw [hk3]
  refine jn_of fun k4 hk4 => ?_
  refine ⟨fun h => absurd h (by simp), fun _ => ?_⟩
  refine cR_of (fill_ok w22 121 []) ?_
  rintro x29 w30 ⟨ho29, hx30⟩
  refine cR_of (write_ok (D := lv2) (h22.ext hx30) lv2_s.1 lv2_s.2 (upB (((footExt hf22 (footExt hf14 (hx2.trans hx12) hpd hbb) hpd hbb).trans hx30).size)) 1 x29 lvY ho29.bytes) ?_
  rintro x31 w32 ⟨hx31, h32, hf32⟩
  rw [lv3_e] at hx31
  subst hx31
  rw [hk4]
  refine ⟨fun h => absurd h (by simp), fun _ => ?_⟩
  refine cR_of (crash_ok (D := lv3) h32 (0, 0, 2) (by decide)) ?_
  rintro x38 w39 ⟨h39, hf39⟩
  refine cR_of (down_ok (D := lv4) h39) ?_
  rintro x40 w41 ⟨hx40, rfl⟩
  rw [lv4_d] at hx40
  subst hx40
  refine jn_of fun k5 hk5 => ?_
  refine ⟨fun h => absurd h (by simp), fun _ => ?_⟩
  refine cR_of (up_ok (D := lv4) h39) ?_
  rintro x44 w45 ⟨hx44, h45, hf45⟩
  rw [lv4_d] at hx44
  subst hx44
  rw [hk5]
  refine ⟨fun h => absurd h (by simp), fun _ => ?_⟩
  have hx12' := hx2.trans hx12
  have hx14 := footExt hf14 hx12' hpd hbb
  have hx22 := footExt hf22 hx14 hpd hbb
  have hx32 := footExt hf32 (hx22.trans hx30) hpd hbb
  have hx39 := footExt hf39 hx32 hpd hbb
  have hx45 := footExt hf45 hx39 hpd hbb
  refine cR_of (read_ok h45 1) ?_
  rintro ⟨y, e⟩ w52 ⟨hx52, hc⟩
  rcases hc with ⟨h0, _⟩ | ⟨_, h1, h3⟩
  · exact absurd lv5_w h0
  simp only at h1 h3
  subst h1
  intro w53 hw53
  have hx53 : Ext w52 w53 := by subst hw53; exact Ext.drew _
  refine jn_of fun k6 hk6 => ?_
  refine ⟨fun _ => ?_, fun h => absurd h (by simp)⟩
  have hyb := h3.bytes
  refine ⟨_, hyb.1, hyb.2, ?_⟩
  refine cR_of (fill_ok w53 120 [121, 121]) ?_
  rintro x58 w59 ⟨ho58, hx59⟩
  refine ⟨hx53.trans hx59, _, ho58.bytes.1, ho58.bytes.2, ?_⟩
  rw [hk6]
  exact ⟨decide_eq_true lv5_b, ((hx45.trans hx52).trans hx53).trans hx59⟩

/-! ### a nil disk -/
section
variable (w : World)
theorem down_nil : Calls Try.prog 38 #[.pointer none] w (Ret r38 fun x w' => x = true ∧ w = w') := by
  apply s38_calls
  refine jn_of fun k hk => ?_
  refine ⟨fun _ => ?_, fun h => absurd h (by simp)⟩
  rw [hk]; exact ⟨rfl, rfl⟩
theorem has_nil (i : Int) : Calls Try.prog 59 #[.pointer none, .int .i64 i] w (Ret r59 fun x w' => x = 6 ∧ w = w') := by
  apply s59_calls
  refine cR_of (down_nil w) ?_
  rintro x w' ⟨rfl, rfl⟩
  exact ⟨fun _ => ⟨rfl, rfl⟩, fun h => absurd h (by simp)⟩
theorem read_nil (i : Int) : Calls Try.prog 28 #[.pointer none, .int .i64 i] w (Ret r28 fun x w' => x = (nilSl, 6) ∧ w = w') := by
  apply s28_calls
  refine cR_of (has_nil w i) ?_
  rintro x w' ⟨rfl, rfl⟩
  exact ⟨fun _ => ⟨rfl, rfl⟩, fun h => absurd h (by simp)⟩
theorem write_nil (i : Int) (p : Sl) : Calls Try.prog 33 #[.pointer none, .int .i64 i, p.v] w (Ret r33 fun x w' => x = 6 ∧ w = w') := by
  apply s33_calls
  refine cR_of (has_nil w i) ?_
  rintro x w' ⟨rfl, rfl⟩
  exact ⟨fun _ => ⟨rfl, rfl⟩, fun h => absurd h (by simp)⟩
theorem flush_nil : Calls Try.prog 34 #[.pointer none] w (Ret r34 fun x w' => x = 6 ∧ w = w') := by
  apply s34_calls
  refine cR_of (down_nil w) ?_
  rintro x w' ⟨rfl, rfl⟩
  exact ⟨fun _ => ⟨rfl, rfl⟩, fun h => absurd h (by simp)⟩
theorem up_nil : Calls Try.prog 27 #[.pointer none] w (Ret r27 fun x w' => x = false ∧ w = w') := by
  apply s27_calls
  refine jn_of fun k hk => ?_
  refine ⟨fun _ => ?_, fun h => absurd h (by simp)⟩
  rw [hk]
  exact ⟨fun _ => ⟨rfl, rfl⟩, fun h => absurd h (by simp)⟩
theorem pending_nil : Calls Try.prog 23 #[.pointer none] w (Ret r23 fun x w' => x = 0 ∧ w = w') := by
  apply s23_calls
  exact ⟨fun _ => ⟨rfl, rfl⟩, fun h => absurd h (by simp)⟩
theorem changes_nil : Calls Try.prog 19 #[.pointer none] w (Ret r19 fun x w' => x = 0 ∧ w = w') := by
  apply s19_calls
  exact ⟨fun _ => ⟨rfl, rfl⟩, fun h => absurd h (by simp)⟩
theorem blocks_nil : Calls Try.prog 39 #[.pointer none] w (Ret r39 fun x w' => x = 0 ∧ w = w') := by
  apply s39_calls
  exact ⟨fun _ => ⟨rfl, rfl⟩, fun h => absurd h (by simp)⟩
theorem clone_nil : Calls Try.prog 36 #[.pointer none] w (Ret r36 fun x w' => x = none ∧ w = w') := by
  apply s36_calls
  exact ⟨fun _ => ⟨rfl, rfl⟩, fun h => absurd h (by simp)⟩
theorem plan_nil (p : Sl) : Calls Try.prog 37 #[.pointer none, p.v] w (Ret r37 fun _ w' => w = w') := by
  apply s37_calls
  exact ⟨fun h => absurd h (by simp), fun _ => rfl⟩
theorem crash_nil (f : Fall) : Calls Try.prog 35 #[.pointer none, aggv (fallOf f)] w (Ret r35 fun _ w' => Ext w w') := by
  apply s35_calls
  intro b1 w2 hb1 hw2
  refine cR_of (down_nil w2) ?_
  rintro x w' ⟨rfl, rfl⟩
  exact ⟨fun _ => Ext.new hw2, fun h => absurd h (by simp)⟩
end
end Go.Proofs.Ytagkcbbbdlmcjaa
