/- CrcOpens: any bytes, as they are or sealed: the law answers true and leaves all that was there. -/
import Derived.Test.YtmlbmnaknjdmgaaS5
import Derived.Test.YtmlbmnaknjdmgaaCrcSpec
set_option linter.unusedVariables false
set_option linter.unusedSimpArgs false
namespace Go.Proofs.Ytmlbmnaknjdmgaa
open Go.Lift Go.Lift.Crc Go.RowKit

theorem crcOpens_ok (w : World) (p : Sl) (bs : List UInt8) (hp : Bytes w p bs) (_hlc : p.len ≤ p.cap) (_hcm : p.cap ≤ maxLen) (sd : Bool) :
    Calls Try.prog 5 #[p.v, .bool sd] w (Ret r5 fun x w' => x = true ∧ Ext w w') := by
  apply s5_calls
  refine cR_of (lives_ok w) ?_
  rintro x1 w2 ⟨rfl, hx2⟩
  have hpl := hp.1
  refine jn_of fun k1 hk1 => ?_
  have key : ∀ (b : Bool), (b = true ↔ 1000 < (p.len : Int)) → k1 b w2 := by
    intro b hb
    rw [hk1]
    refine ⟨fun _ => ?_, fun hf => ?_⟩
    · exact cR_of (lives_ok w2) fun x w' ⟨hx, hw⟩ => ⟨hx, hx2.trans hw⟩
    · have hlen : bs.length ≤ 1000 := by
        have : ¬ (1000 < (p.len : Int)) := fun hn => by rw [hb.2 hn] at hf; cases hf
        omega
      have hp2 := hp.ext hx2
      intro b13 w14 hb13 hw14
      have hx14 : Ext w w14 := hx2.trans (Ext.new hw14)
      have hp14 := hp2.ext (Ext.new hw14)
      refine app_ok (base := w.heap.size) mk25 rfl (by decide) (Own.made (e := 5) (size := 1) (c := 0) hb13 hw14 hx2.size rfl (by simp [maxLen])) (news := u8s bs)
        (by rw [u8s_length]; omega) hp14.2 (u8s_one _) (by simp only [maxLen]; omega) (by simp only; omega) hx14.size ?_
      intro s16 w16 hl16 ho16 _ hB16
      have hx16 : Ext w w16 := hB16 _ _ hx14 (Nat.le_refl _) hx14.size
      refine jn_of fun k2 hk2 => ?_
      -- what stands behind the choice
      have key2 : ∀ (x : Sl) (w30 : World) (bs' : List UInt8), Ext w w30 → Bytes w30 x bs' → x.len ≤ x.cap → bs'.length ≤ 1004 → k2 x w30 := by
        intro x w30 xs hx30 hbx hcap hlx
        rw [hk2]
        have hxl := hbx.1
        refine cR_of (open_ok w30 x xs hbx hcap (by omega)) ?_
        rintro ⟨y, e⟩ w33 ⟨hx33', hcases⟩
        have hx33 := hx30.trans hx33'
        have hn : IntKind.i64.wrap ((x.len : Int) - 4) = (x.len : Int) - 4 := w64_eq (by omega) (by omega)
        rw [hn]
        simp only
        refine ⟨fun hlt => ?_, fun hge => ?_⟩
        · have hlt := of_decide_eq_true hlt
          rcases hcases with ⟨h1, h2⟩ | ⟨h1, _⟩ | ⟨h1, _⟩
          · cases h2
            refine jn_of fun k3 hk3 => ?_
            refine ⟨fun _ => ?_, fun h => absurd h (by decide)⟩
            rw [hk3]
            exact ⟨by decide, hx33⟩
          · omega
          · omega
        · have hge := of_decide_eq_false hge
          have e1 : (x.len : Int) - 4 = ((xs.length - 4 : Nat) : Int) := by omega
          rw [e1]
          intro w42 hw42
          have hx42 : Ext w33 w42 := by subst hw42; exact Ext.drew _
          have hcut : Bytes w33 (x.cut 1 0 ((xs.length - 4 : Nat) : Int) x.cap) (xs.take (xs.length - 4)) := by
            have := (hbx.ext hx33').cut (l := 0) (e := xs.length - 4) (m := x.cap) (Nat.zero_le _) (by omega) (by omega)
            simpa using this
          refine ⟨⟨by omega, by omega, by omega⟩, xs.take (xs.length - 4), hcut.1, hcut.2, xs, (hbx.ext hx33').1, (hbx.ext hx33').2, ?_⟩
          refine cR_of (refseal_ok w42 _ (by simp; omega)) ?_
          rintro x46 w47 ⟨rfl, hx47'⟩
          have hx47 := hx42.trans hx47'
          refine ⟨hx47, ?_⟩
          refine ⟨fun hne => ?_, fun heq => ?_⟩
          · have hne := nd_t hne
            rcases hcases with ⟨h1, h2⟩ | ⟨h1, h2, h3⟩ | ⟨h1, h2, h3⟩
            · omega
            · cases h3
              refine jn_of fun k3 hk3 => ?_
              refine ⟨fun _ => ?_, fun h => absurd h (by decide)⟩
              rw [hk3]
              exact ⟨by decide, hx33.trans hx47⟩
            · exact absurd h2 hne
          · have heq := nd_f heq
            rcases hcases with ⟨h1, h2⟩ | ⟨h1, h2, h3⟩ | ⟨h1, h2, h3, h4⟩
            · omega
            · exact absurd heq h2
            · intro w57 hw57
              have hx57 : Ext w47 w57 := by subst hw57; exact Ext.drew _
              refine jn_of fun k3 hk3 => ?_
              simp only at h3 h4
              subst h3
              refine ⟨fun _ => ?_, fun h => absurd h (by simp)⟩
              have hy := h4.bytes.ext hx47
              have hc2 := hcut.ext hx47
              refine ⟨_, hy.1, hy.2, ⟨by omega, by omega, by omega⟩, _, hc2.1, hc2.2, ?_⟩
              rw [hk3]
              exact ⟨by simp, (hx33.trans hx47).trans hx57⟩
      refine ⟨fun hsd => ?_, fun hsd => ?_⟩
      · have hp16 := hp.ext hx16
        refine cR_of (seal_ok w16 p bs hp16 (by omega)) ?_
        rintro x19 w20 ⟨ho19, hx20'⟩
        have hx20 := hx16.trans hx20'
        intro w21 hw21
        have hx21 : Ext w20 w21 := by subst hw21; exact Ext.drew _
        have hb19 := ho19.bytes
        have hp20 := hp.ext hx20
        refine ⟨_, hb19.1, hb19.2, _, hp20.1, hp20.2, ?_⟩
        refine cR_of (refseal_ok w21 bs (by omega)) ?_
        rintro x25 w26 ⟨rfl, hx26'⟩
        have hx26 := hx21.trans hx26'
        refine ⟨hx26, ?_⟩
        refine ⟨fun h => absurd rfl (nd_t h), fun _ => ?_⟩
        exact key2 x19 w26 _ (hx20.trans hx26) (hb19.ext hx26) ho19.cap (by rw [sealed_len]; omega)
      · exact key2 s16 w16 bs hx16 (by simpa using ho16.bytes) ho16.cap (by omega)
  refine ⟨fun hc => absurd hc (by decide), fun _ => ?_⟩
  exact key _ (by simp)
end Go.Proofs.Ytmlbmnaknjdmgaa
