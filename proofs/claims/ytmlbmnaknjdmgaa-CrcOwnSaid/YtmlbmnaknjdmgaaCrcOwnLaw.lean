/- CrcOwn: what is handed in is not changed, and what is answered shares nothing with it: the law answers true and leaves all that was there. -/
import Derived.Test.YtmlbmnaknjdmgaaS7
import Derived.Test.YtmlbmnaknjdmgaaCrcSpec
set_option linter.unusedVariables false
set_option linter.unusedSimpArgs false
namespace Go.Proofs.Ytmlbmnaknjdmgaa
open Go.Lift Go.Lift.Crc Go.RowKit

theorem xor_byte (a b : Int) : ∃ c : UInt8, xorI .u8 a b = (c.toNat : Int) := by
  refine ⟨UInt8.ofNat (xorI .u8 a b).toNat, ?_⟩
  have : 0 ≤ xorI .u8 a b ∧ xorI .u8 a b < 256 := by
    unfold xorI
    rw [wu8_mod]
    omega
  simp
  omega

theorem crcOwn_ok (w : World) (p : Sl) (bs : List UInt8) (hp : Bytes w p bs) (_hlc : p.len ≤ p.cap) (_hcm : p.cap ≤ maxLen) :
    Calls Try.prog 7 #[p.v] w (Ret r7 fun x w' => x = true ∧ Ext w w') := by
  apply s7_calls
  refine cR_of (lives_ok w) ?_
  rintro x1 w2 ⟨rfl, hx2⟩
  have hpl := hp.1
  refine jn_of fun k1 hk1 => ?_
  have key : ∀ (b : Bool), (b = true ↔ 500 < (p.len : Int)) → k1 b w2 := by
    intro b hb
    rw [hk1]
    refine ⟨fun _ => cR_of (lives_ok w2) fun x w' ⟨hx, hw⟩ => ⟨hx, hx2.trans hw⟩, fun hf => ?_⟩
    have hlen : bs.length ≤ 500 := by
      have : ¬ (500 < (p.len : Int)) := fun hn => by rw [hb.2 hn] at hf; cases hf
      omega
    have e8 : IntKind.i64.wrap ((p.len : Int) + 8) = ((p.len + 8 : Nat) : Int) := by rw [w64_eq (by omega) (by omega)]; omega
    rw [e8]
    refine ⟨by omega, by omega, by omega, by omega, ?_⟩
    intro b13 w13 hb13 hw13
    have hx13 : Ext w w13 := hx2.trans (Ext.new hw13)
    rw [Int.toNat_natCast, Nat.mul_one] at hw13
    have ho13 : Own w13 w.heap.size 5 1 ⟨some ⟨b13, 0, none⟩, 0, p.len + 8⟩ [] := Own.made (e := 5) (size := 1) (c := p.len + 8) hb13 hw13 hx2.size (by simp) (by simp only [maxLen]; omega)
    have hp13 := hp.ext hx13
    refine app_ok (base := w.heap.size) mk25 rfl (by decide) ho13 (news := u8s bs) (by rw [u8s_length]; omega) hp13.2 (u8s_one _) (by simp only [maxLen]; omega) (by simp only [Int.toNat_zero]; omega) hx13.size ?_
    intro s15 w16 hl15 ho15 _ hB15
    have hx16 : Ext w w16 := hB15 _ _ hx13 (Nat.le_refl _) hx13.size
    intro b17 w18 hb17 hw18
    have hx18' : Ext w16 w18 := Ext.new hw18
    have hx18 := hx16.trans hx18'
    have hl15' : s15.len = p.len := by simpa using hl15
    refine app_ok (base := w.heap.size) mk25 rfl (by decide) (ho15.ext hx18') (news := u8s [1, 2, 3, 4]) rfl (At.new hb17 hw18) (u8s_one _) (by simp only [maxLen]; omega) (by simp only; omega) hx18.size ?_
    intro s19 w20 hl19 ho19 _ hB19
    have hx20 : Ext w w20 := hB19 _ _ hx18 (Nat.le_refl _) hx18.size
    have hcap := ho19.cap
    have hl19' : s19.len = p.len + 4 := by rw [hl19]; show s15.len + 4 = _; omega
    refine ⟨⟨by omega, by omega, by omega⟩, ?_⟩
    have hroom : Bytes w20 s19 (bs ++ [1, 2, 3, 4]) := by
      refine Own.bytes (base := w.heap.size) (e := 5) ?_
      rw [u8s_append]
      simpa using ho19
    have hmine : Bytes w20 (s19.cut 1 0 (p.len : Int) s19.cap) bs := by
      have h1 := hroom.cut (l := 0) (e := p.len) (m := s19.cap) (Nat.zero_le _) (by omega) (by rw [List.length_append]; omega)
      have h2 : ((bs ++ [1, 2, 3, 4]).take p.len).drop 0 = bs := by simp [← hpl]
      rw [h2] at h1
      exact h1
    refine cR_of (seal_ok w20 _ _ hmine (by omega)) ?_
    rintro x21 w22 ⟨ho21, hx22'⟩
    have hx22 := hx20.trans hx22'
    have hlx : x21.len = bs.length + 4 := by
      have := ho21.length
      rw [u8s_length, sealed_len] at this
      omega
    refine cR_of (open_ok w22 _ _ ho21.bytes ho21.cap (by rw [sealed_len]; omega)) ?_
    rintro ⟨y, e⟩ w24 ⟨hx24', hcases⟩
    have htake : (sealed bs).take ((sealed bs).length - 4) = bs := by rw [sealed_len]; simp [sealed]
    rcases hcases with ⟨h1, _⟩ | ⟨h1, h2, _⟩ | ⟨h1, h2, h3, h4⟩
    · rw [sealed_len] at h1; omega
    · rw [htake] at h2; exact absurd rfl h2
    simp only at h3 h4
    subst h3
    rw [htake] at h4
    have ho24 := ho21.ext hx24'
    refine ⟨fun st w' => ∃ (i : Nat) (xs : List UInt8), i ≤ x21.len ∧ st = (i : Int) ∧ xs.length = x21.len ∧ Own w' w20.heap.size 5 1 x21 (u8s xs) ∧ Own w' w22.heap.size 5 1 y (u8s bs) ∧ Ext w20 w',
      fun st _ => x21.len - st.toNat, ⟨0, sealed bs, by omega, rfl, by rw [sealed_len]; omega, ho24, h4, hx22'.trans hx24'⟩, ?_⟩
    rintro st w26 ⟨i, xs, hi, rfl, hxs, ho, hy, hx⟩
    refine ⟨fun hlt => ?_, fun hge => ?_⟩
    · have hlt : i < x21.len := by have := of_decide_eq_true hlt; omega
      refine ix_own ho (by decide) rfl hlt fun g hg hbg hgs => ?_
      rw [Nat.mul_one]
      obtain ⟨g', hg', _, _, hc, _⟩ := ho.place (j := i) (by omega)
      rw [hg] at hg'; cases hg'
      have hjx : i < xs.length := by omega
      refine ⟨(xs[i].toNat : Int), ?_, ?_⟩
      · rw [hc]; exact u8s_get (List.getElem?_eq_getElem hjx)
      refine ix_own ho (by decide) rfl hlt fun g2 hg2 _ _ => ?_
      rw [hg] at hg2; cases hg2
      rw [Nat.mul_one]
      obtain ⟨c, hc⟩ := xor_byte (xs[i].toNat : Int) 255
      rw [hc]
      refine st1_own ho hg (by omega) fun w' hw' ho' hB' => ?_
      rw [w64_eq (by omega) (by omega)]
      refine ⟨⟨i + 1, xs.set i c, by omega, by omega, by simpa using hxs, ?_, ?_, hB' _ _ hx (Nat.le_refl _)⟩, by simp only; omega⟩
      · have : u8s (xs.set i c) = (u8s xs).set i (.int .u8 (c.toNat : Int)) := by simp [u8s, List.map_set]
        rw [this]; exact ho'
      · -- its block is older than that of what was opened
        have hg22 : g < w22.heap.size := by
          obtain ⟨g3, hg3, _, h5, _⟩ := ho21.place (j := i) (by omega)
          rw [hg] at hg3; cases hg3
          exact h5
        rw [hw']
        exact hy.below hg22 _
    · have hmine' := hmine.ext hx
      have hroom' := hroom.ext hx
      have hp26 := hp.ext (hx20.trans hx)
      have hyb := hy.bytes
      refine jn_of fun k3 hk3 => ?_
      refine ⟨fun _ => ?_, fun h => absurd h (by simp)⟩
      refine ⟨_, hmine'.1, hmine'.2, _, hp26.1, hp26.2, ?_⟩
      rw [hk3]
      refine jn_of fun k4 hk4 => ?_
      refine ⟨fun _ => ?_, fun h => absurd h (by simp)⟩
      refine ⟨_, hyb.1, hyb.2, _, hp26.1, hp26.2, ?_⟩
      rw [hk4]
      refine jn_of fun k5 hk5 => ?_
      refine ⟨fun _ => ?_, fun h => absurd h (by simp)⟩
      have hrest := hroom'.cut (l := p.len) (e := s19.len) (m := s19.cap) (by omega) hcap (by rw [List.length_append]; show s19.len ≤ bs.length + 4; omega)
      have e2 : ((bs ++ [1, 2, 3, 4]).take s19.len).drop p.len = [1, 2, 3, 4] := by
        rw [List.take_of_length_le (by rw [List.length_append]; show bs.length + 4 ≤ _; omega), ← hpl]
        simp
      rw [e2] at hrest
      refine ⟨⟨by omega, by omega⟩, _, hrest.1, hrest.2, ?_⟩
      rw [hk5]
      exact ⟨by simp, hx20.trans hx⟩
  refine ⟨fun hc => absurd hc (by decide), fun _ => ?_⟩
  exact key _ (by simp)
end Go.Proofs.Ytmlbmnaknjdmgaa
