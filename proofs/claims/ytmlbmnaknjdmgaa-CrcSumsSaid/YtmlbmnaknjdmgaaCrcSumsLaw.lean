/- CrcSums: whatever the parts are, the law answers true and leaves all that was there. -/
import Derived.Test.YtmlbmnaknjdmgaaS3
import Derived.Test.YtmlbmnaknjdmgaaCrcSpec
set_option linter.unusedVariables false
set_option linter.unusedSimpArgs false
namespace Go.Proofs.Ytmlbmnaknjdmgaa
open Go.Lift Go.Lift.Crc Go.RowKit

theorem flat_len : ∀ (l : List (List UInt8)), (∀ b ∈ l, b.length ≤ 300) → l.flatten.length ≤ 300 * l.length
  | [], _ => by simp
  | b :: l, h => by
    have := flat_len l (fun x hx => h x (by simp [hx]))
    have := h b (by simp)
    simp only [List.flatten_cons, List.length_append, List.length_cons]
    omega

theorem crcSums_ok (w : World) (p : Sl) (l : List (List UInt8)) (h : Parts w p l) (h1 : p.len ≤ maxLen) :
    Calls Try.prog 3 #[p.v] w (Ret r3 fun x w' => x = true ∧ Ext w w') := by
  apply s3_calls
  refine cR_of (lives_ok w) ?_
  rintro x1 w2 ⟨rfl, hx2⟩
  refine jn_of fun k1 hk1 => ?_
  -- what stands behind the guard
  have key : ∀ (b : Bool) (w8 : World), Ext w w8 → (b = true ↔ ¬ Few l) → k1 b w8 := by
    intro b w8 hx8 hb
    rw [hk1]
    refine ⟨fun _ => ?_, fun hf => ?_⟩
    · exact cR_of (lives_ok w8) fun x w' ⟨hx, hw⟩ => ⟨hx, hx8.trans hw⟩
    · have hfew : Few l := Classical.not_not.1 fun hn => by rw [hb.2 hn] at hf; cases hf
      have hpl := h.len
      have hP8 := h.ext hx8
      obtain ⟨hf1, hf2⟩ := hfew
      refine ⟨fun st w' => w8 = w' ∧ ∃ k : Nat, k ≤ l.length ∧ st.2 = (k : Int) ∧ st.1 = (l.take k).flatten, fun st _ => l.length - st.2.toNat, ⟨rfl, 0, Nat.zero_le _, rfl, by simp⟩, ?_⟩
      rintro ⟨acc, i⟩ w' ⟨rfl, k, hk, rfl, rfl⟩
      refine ⟨fun hlt => ?_, fun hge => ?_⟩
      · have hlt : k < l.length := by have := of_decide_eq_true hlt; simp only at this; omega
        obtain ⟨a, s, ha, hc, hb⟩ := hP8.get hlt
        refine ⟨a, _, ha, by simp only; omega, by simp only; omega, rfl, s, by simp only [Int.toNat_natCast, Nat.mul_one]; exact hc, l[k], hb.1, hb.2, ?_, ?_⟩
        · have e1 := flat_len (l.take k) (fun b hb => hf2 b (List.mem_of_mem_take hb))
          have e2 := hf2 _ (List.getElem_mem hlt)
          simp only [List.length_take] at e1 ⊢
          omega
        · simp only
          rw [w64_eq (by omega) (by omega)]
          refine ⟨⟨trivial, k + 1, by omega, by omega, ?_⟩, by omega⟩
          rw [List.take_succ_eq_append_getElem hlt, List.flatten_append]
          simp
      · have hge : k = l.length := by have := of_decide_eq_false hge; simp only at this; omega
        subst hge
        simp only [List.take_length]
        refine cR_of (sum_ok w8 p l hP8 h1 fun b hb => by have := hf2 b hb; simp only [maxLen]; omega) ?_
        rintro x w2 ⟨rfl, rfl⟩
        refine cR_of (refsum_ok w2 l.flatten (by have := flat_len l hf2; omega)) ?_
        rintro x w3 ⟨rfl, rfl⟩
        exact ⟨by simp, hx8⟩
  refine ⟨fun hc => absurd hc (by decide), fun _ => ?_⟩
  refine cR_of (few_ok w2 p l (h.ext hx2) h1) ?_
  rintro x5 w6 ⟨hfew, rfl⟩
  refine key (!x5) w2 hx2 ?_
  cases x5 <;> simp_all
end Go.Proofs.Ytmlbmnaknjdmgaa
