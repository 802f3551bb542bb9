/- Parts of a proof, one behind the other: readings of functions, what they do, and what follows. -/
import Derived.Test.YtagkcbbbdlmcjaaMAT2
section
/- What the journal's functions on records do: numbers, frames, the reader, what is parsed. -/
set_option linter.unusedVariables false
set_option linter.unusedSimpArgs false
namespace Go.Proofs.Ytagkcbbbdlmcjaa
open Go.Lift Go.Lift.Disk Go.Lift.Crc Go.Lift.Wal Go.RowKit
theorem numByte (n : Nat) : IntKind.u8.wrap (IntKind.u8.wrap (Int.tmod (n : Int) 128) + 128) = ((UInt8.ofNat (n % 128 + 128)).toNat : Int) := by
  rw [Int.tmod_eq_emod_of_nonneg (by omega), wu8_eq (x := (n : Int) % 128) (by omega) (by omega)]
  have : (n : Int) % 128 + 128 = ((n % 128 + 128 : Nat) : Int) := by omega
  rw [this, u8n]
theorem num_ok (w : World) (n : Nat) (hn : n < 18446744073709551616) : Calls Try.prog 78 #[.int .u64 (n : Int)] w (Ret r78 fun x w' => Own w' w.heap.size 5 1 x (u8s (numB n)) ∧ Ext w w') := by
  apply s78_calls
  refine ⟨fun st w' => ∃ (m : Nat) (pre : List UInt8), m ≤ n ∧ st.1 = (m : Int) ∧ pre ++ numB m = numB n ∧ Own w' w.heap.size 5 1 st.2 (u8s pre) ∧ Ext w w', fun st _ => st.1.toNat, ⟨n, [], Nat.le_refl _, rfl, rfl, Own.nil _ _ _ _, Ext.refl _⟩, ?_⟩
  rintro ⟨st, s⟩ w2 ⟨m, pre, hm, rfl, hpre, ho, hx⟩
  simp only at ho ⊢
  have hol := ho.length
  rw [u8s_length] at hol
  have hnl := (numB_len n hn).2
  have hml := (numB_len m (by omega)).1
  have hpl : pre.length + (numB m).length ≤ 10 := by rw [← List.length_append, hpre]; exact hnl
  refine ⟨fun hge => ?_, fun hlt => ?_⟩
  · have hge : 128 ≤ m := by have := of_decide_eq_true hge; omega
    intro b7 w8 hb7 hw8
    have hx8 : Ext w2 w8 := Ext.new hw8
    rw [numByte] at hw8
    refine app_ok (base := w.heap.size) mk_39 rfl (by decide) (ho.ext hx8) (news := u8s [UInt8.ofNat (m % 128 + 128)]) rfl (At.new hb7 hw8) (u8s_one _) (by simp only [maxLen]; omega) (by first | omega | (simp only; omega)) (hx.trans hx8).size ?_
    intro s' w' hl' ho' _ hB'
    have e : IntKind.u64.wrap (Int.tdiv (m : Int) 128) = ((m / 128 : Nat) : Int) := by
      rw [Int.tdiv_eq_ediv_of_nonneg (by omega), wu64_eq (by omega) (by omega)]; omega
    rw [e]
    refine ⟨⟨m / 128, pre ++ [UInt8.ofNat (m % 128 + 128)], by omega, rfl, ?_, by rw [u8s_append]; exact ho', hB' _ _ (hx.trans hx8) (Nat.le_refl _) (hx.trans hx8).size⟩, by omega⟩
    rw [← hpre]
    conv => rhs; rw [numB]
    rw [if_neg (by omega), List.append_assoc]
    rfl
  · have hlt : m < 128 := by have := of_decide_eq_false hlt; omega
    intro b7 w8 hb7 hw8
    have hx8 : Ext w2 w8 := Ext.new hw8
    rw [u8n] at hw8
    refine app_ok (base := w.heap.size) mk_39 rfl (by decide) (ho.ext hx8) (news := u8s [UInt8.ofNat m]) rfl (At.new hb7 hw8) (u8s_one _) (by simp only [maxLen]; omega) (by first | omega | (simp only; omega)) (hx.trans hx8).size ?_
    intro s' w' hl' ho' _ hB'
    refine ⟨?_, hB' _ _ (hx.trans hx8) (Nat.le_refl _) (hx.trans hx8).size⟩
    rw [← hpre]
    conv => arg 6; rw [numB, if_pos hlt, u8s_append]
    exact ho'
theorem frame_ok (w : World) (p : Sl) (bs : List UInt8) (hp : Bytes w p bs) (hl : bs.length ≤ 1000000000) :
    Calls Try.prog 54 #[p.v] w (Ret r54 fun x w' => Own w' w.heap.size 5 1 x (u8s (frameB bs)) ∧ Ext w w') := by
  apply s54_calls
  intro b1 w2 hb1 hw2
  have hx2 : Ext w w2 := Ext.new hw2
  refine cR_of (sum_ok w2 _ [bs] (parts_one hb1 hw2 hp) (by simp [maxLen]) (by simp [maxLen]; omega)) ?_
  rintro x w3 ⟨rfl, rfl⟩
  simp only [List.flatten_cons, List.flatten_nil, List.append_nil]
  have hplen := hp.1
  have e0 : IntKind.u64.wrap ((p.len : Nat) : Int) = ((bs.length : Nat) : Int) := by rw [wu64_eq (by omega) (by omega)]; omega
  rw [e0]
  have hN := (numB_len bs.length (by omega)).2
  refine cR_of (num_ok w3 bs.length (by omega)) ?_
  rintro x5 w6 ⟨ho5, hx6⟩
  have hx6' := hx2.trans hx6
  refine ⟨fun st w' => ∃ i : Nat, i ≤ 4 ∧ st.2.2 = (i : Int) ∧ st.1 = ((crc bs >>> (8 * i)).toNat : Int) ∧ Own w' w.heap.size 5 1 st.2.1 (u8s (numB bs.length ++ (le4 (crc bs)).take i)) ∧ Ext w w', fun st _ => 4 - st.2.2.toNat, ⟨0, by omega, rfl, by simp, by rw [List.take_zero, List.append_nil]; exact Own.lower ho5 hx2.size, hx6'⟩, ?_⟩
  rintro ⟨s, sl, n⟩ w9 ⟨i, hi, rfl, rfl, ho, hx⟩
  simp only at ho ⊢
  have hol := ho.length
  simp only [u8s_length, List.length_append, List.length_take, le4_len] at hol
  refine ⟨fun hlt => ?_, fun hge => ?_⟩
  · have hlt : i < 4 := by have := of_decide_eq_true hlt; omega
    intro b16 w17 hb16 hw17
    have hx17 : Ext w9 w17 := Ext.new hw17
    rw [low8] at hw17
    refine app_ok (base := w.heap.size) mk_39 rfl (by decide) (ho.ext hx17) (news := u8s [⟨(crc bs >>> (8 * i)).setWidth 8⟩]) rfl (At.new hb16 hw17) (u8s_one _) (by simp only [maxLen]; omega) (by first | omega | (simp only; omega)) (Nat.le_trans hx.size hx17.size) ?_
    intro s' w' hl' ho' _ hB'
    refine ⟨⟨i + 1, by omega, ?_, ?_, ?_, hB' _ _ (hx.trans hx17) (Nat.le_refl _) (Nat.le_trans hx.size hx17.size)⟩, ?_⟩
    · rw [w64_eq (by omega) (by omega)]; omega
    · exact shrI_8 _ i hlt
    · rw [le4_get _ i hlt, ← List.append_assoc, u8s_append]; exact ho'
    · rw [w64_eq (by omega) (by omega)]; omega
  · have hge : i = 4 := by have := of_decide_eq_false hge; omega
    subst hge
    have e4 : (le4 (crc bs)).take 4 = le4 (crc bs) := List.take_of_length_le (by simp [le4_len])
    rw [e4] at ho
    refine app_ok (base := w.heap.size) mk_39 rfl (by decide) ho (news := u8s bs) (by rw [u8s_length]; omega) (hp.ext hx).2 (u8s_one _) (by simp only [maxLen]; omega) (by first | omega | (simp only; omega)) hx.size ?_
    intro s' w' hl' ho' _ hB'
    refine ⟨?_, hB' _ _ hx (Nat.le_refl _) hx.size⟩
    rw [frameB, ← List.append_assoc, u8s_append]
    exact ho'

/-! ### the reader -/
/-- a reader: what is left, and its error -/
structure RdAt (w : World) (g : Nat) (b : List UInt8) (e : Int) : Prop where
  ex : ∃ s : Sl, Blk w g 140 [s.v, .int .i64 e] ∧ Bytes w s b ∧ s.len ≤ s.cap ∧ ∀ a, s.a = some a → a.block ≠ g
theorem read72_ok (w : World) (p : Sl) (b : List UInt8) (hp : Bytes w p b) (hn : p.a = none → p.len = 0 ∧ p.cap = 0) (hl : b.length ≤ 1000000000) :
    Calls Try.prog 72 #[p.v] w (Ret r72 fun x w' => ∃ g, x = some ⟨g, 0, none⟩ ∧ w.heap.size ≤ g ∧ RdAt w' g b 0 ∧ Ext w w') := by
  apply s72_calls
  have hpl := hp.1
  refine ⟨by omega, by omega, by omega, by omega, fun b3 w3 hb3 hw3 => ?_⟩
  have hx3 : Ext w w3 := Ext.new hw3
  rw [Int.toNat_natCast, zeros_u8'] at hw3
  have hB3 : Blk w3 b3 5 (u8s (List.replicate (p.len * 1) 0)) := Blk.new hb3 hw3
  have hp3 := hp.ext hx3
  rw [Int.toNat_natCast]
  refine cpy_blk (g := b3) (o := 0) (dLen := p.len) (dCap := p.len) (s := p) (cs := u8s b) mk_39 hB3 (by rw [u8s_len]; omega) hp3.2 (by rw [u8s_len, u8s_len, List.length_replicate]; omega) (u8s_one _) hn fun w5 hB5 hf5 => ?_
  have hsp : splice (u8s (List.replicate (p.len * 1) 0)) 0 (u8s b) = u8s b := by
    unfold splice
    rw [List.take_zero, List.nil_append, List.drop_of_length_le (by rw [u8s_len, u8s_len, List.length_replicate]; omega), List.append_nil]
  rw [hsp] at hB5
  have hx5 : Ext w w5 := hf5.ext hx3 fun k _ e => by rw [e, hb3]; exact Nat.le_refl _
  intro b6 w7 hb6 hw7
  have hx7 : Ext w5 w7 := Ext.new hw7
  refine ⟨b6, rfl, by rw [hb6]; exact hx5.size, ⟨_, Blk.new hb6 hw7, ⟨by show b.length = p.len; omega, ?_⟩, Nat.le_refl _, ?_⟩, hx5.trans hx7⟩
  · exact (hB5.ext hx7).at (by rw [List.drop_zero, List.take_length])
  · intro a ha
    cases ha
    have := hB5.lt
    show b3 ≠ b6
    omega
section
variable {w : World} {g : Nat} {b : List UInt8} {e : Int}
theorem left_ok (h : RdAt w g b e) : Calls Try.prog 74 #[.pointer (some ⟨g, 0, none⟩)] w (Ret r74 fun x w' => x = (b.length : Int) ∧ w = w') := by
  obtain ⟨s, hB, hb, _⟩ := h.ex
  apply s74_calls
  refine ⟨fun h => absurd h (by simp), fun _ => ?_⟩
  exact ⟨_, rfl, s, by rw [add_plain]; exact hB.cell rfl, by rw [hb.1], rfl⟩
theorem err_ok (h : RdAt w g b e) : Calls Try.prog 75 #[.pointer (some ⟨g, 0, none⟩)] w (Ret r75 fun x w' => x = e ∧ w = w') := by
  obtain ⟨s, hB, hb, _⟩ := h.ex
  apply s75_calls
  refine ⟨fun h => absurd h (by simp), fun _ => ?_⟩
  exact ⟨_, rfl, e, by rw [add_plain]; exact hB.cell rfl, rfl, rfl⟩
theorem RdAt.lt (h : RdAt w g b e) : g < w.heap.size := by
  obtain ⟨s, hB, _⟩ := h.ex
  exact hB.lt
theorem fail_ok (h : RdAt w g b e) (e' : Int) : Calls Try.prog 85 #[.pointer (some ⟨g, 0, none⟩), .int .i64 e'] w (Ret r85 fun x w' => x = 0 ∧ RdAt w' g b e' ∧ Fr (· = g) w w') := by
  obtain ⟨s, hB, hb, hc, hne⟩ := h.ex
  apply s85_calls
  refine ⟨_, rfl, ?_⟩
  show st1 _ _ _ _
  rw [add_plain]
  refine st1_blk hB (by simp) fun w' hB' hf' => ?_
  exact ⟨rfl, ⟨s, hB', hf'.bytes (fun a ha => hne a ha) hb, hc, hne⟩, hf'⟩
theorem numRd_ok (h : RdAt w g b 0) (hl : b.length ≤ 1000000000) : Calls Try.prog 73 #[.pointer (some ⟨g, 0, none⟩)] w (Ret r73 fun x w' => Fr (· = g) w w' ∧
    ((takeNum b = none ∧ ∃ e, e ≠ 0 ∧ RdAt w' g b e) ∨ ∃ n rest, takeNum b = some (n, rest) ∧ x = (n : Int) ∧ n < 18446744073709551616 ∧ RdAt w' g rest 0)) := by
  apply s73_calls
  refine cR_of (err_ok h) ?_
  rintro x1 w2 ⟨rfl, rfl⟩
  refine ⟨fun h => absurd h (by simp), fun _ => ?_⟩
  obtain ⟨s, hB, hb, hc, hne⟩ := h.ex
  have hbl := hb.1
  refine ⟨fun st w' => w = w' ∧ ∃ (i acc : Nat), i ≤ 9 ∧ i ≤ b.length ∧ st.2.2 = (i : Int) ∧ st.2.1 = ((7 * i : Nat) : Int) ∧ st.1 = (acc : Int) ∧ acc < 128 ^ i ∧ takeAux i acc (b.drop i) = takeNum b, fun st _ => 10 - st.2.2.toNat, ⟨rfl, 0, 0, by omega, by omega, rfl, rfl, rfl, by decide, rfl⟩, ?_⟩
  rintro ⟨a, sh, i'⟩ w5 ⟨rfl, i, acc, hi, hib, rfl, rfl, rfl, hacc, htake⟩
  simp only at htake ⊢
  have bad : ∀ e : Int, e ≠ 0 → takeNum b = none → cR Try.prog 85 r85 #[.pointer (some ⟨g, 0, none⟩), .int .i64 e] w fun x w' => Fr (· = g) w w' ∧
      ((takeNum b = none ∧ ∃ e, e ≠ 0 ∧ RdAt w' g b e) ∨ ∃ n rest, takeNum b = some (n, rest) ∧ x = (n : Int) ∧ n < 18446744073709551616 ∧ RdAt w' g rest 0) := by
    intro e he hn
    refine cR_of (fail_ok h e) ?_
    rintro x w' ⟨rfl, h', hf'⟩
    exact ⟨hf', .inl ⟨hn, e, he, h'⟩⟩
  refine ⟨fun _ => ?_, fun hge => absurd (of_decide_eq_false hge) (by omega)⟩
  refine ⟨_, rfl, s, by rw [add_plain]; exact hB.cell rfl, ?_⟩
  refine ⟨fun heq => ?_, fun hneq => ?_⟩
  · have heq : i = b.length := by have := of_decide_eq_true heq; omega
    refine bad 10 (by decide) ?_
    rw [← htake, heq, List.drop_length]
    rfl
  have hlt : i < b.length := by have := of_decide_eq_false hneq; omega
  rw [List.drop_eq_getElem_cons hlt] at htake
  obtain ⟨a, ha, hcell⟩ := hb.get hlt
  have hcl := u8_lt b[i]
  refine ⟨_, rfl, s, by rw [add_plain]; exact hB.cell rfl, a, _, ha, by omega, by omega, rfl, ?_⟩
  rw [Int.toNat_natCast, Nat.mul_one]
  refine ⟨_, hcell, ?_⟩
  generalize hcd : b[i] = c at htake hcl ⊢
  refine jn_of fun k1 hk1 => ?_
  unfold takeAux at htake
  rw [if_neg (by omega)] at htake
  have hpow : 128 ^ i ≤ 128 ^ 9 := Nat.pow_le_pow_right (by decide) hi
  -- the number so far
  have hor : c.toNat < 128 ∨ i < 9 → orI .u64 (acc : Int) (shlI .u64 (IntKind.u64.wrap (Int.tmod (c.toNat : Int) 128)) ((7 * i : Nat) : Int)) = ((acc + c.toNat % 128 * 128 ^ i : Nat) : Int) ∨ (i = 9 ∧ 1 < c.toNat) := by
    intro _
    by_cases h9 : i = 9 ∧ 1 < c.toNat
    · exact .inr h9
    left
    rw [Int.tmod_eq_emod_of_nonneg (by omega), wu64_eq (by omega) (by omega)]
    have e1 : (c.toNat : Int) % 128 = ((c.toNat % 128 : Nat) : Int) := by omega
    have e2 : (2 : Nat) ^ (7 * i) = 128 ^ i := by rw [Nat.pow_mul]
    have hsm : c.toNat % 128 * 128 ^ i < 18446744073709551616 := by
      by_cases h8 : i ≤ 8
      · have : 128 ^ i ≤ 128 ^ 8 := Nat.pow_le_pow_right (by decide) h8
        have h3 : c.toNat % 128 < 128 := Nat.mod_lt _ (by decide)
        calc c.toNat % 128 * 128 ^ i ≤ 127 * 128 ^ 8 := Nat.mul_le_mul (by omega) this
          _ < 18446744073709551616 := by decide
      · have h9' : i = 9 := by omega
        have h1 : c.toNat ≤ 1 := by rcases Nat.lt_or_ge 1 c.toNat with h | h
                                    · exact absurd ⟨h9', h⟩ h9
                                    · exact h
        subst h9'
        calc c.toNat % 128 * 128 ^ 9 ≤ 1 * 128 ^ 9 := Nat.mul_le_mul_right _ (by omega)
          _ < 18446744073709551616 := by decide
    have hac2 : acc < 18446744073709551616 := Nat.lt_of_lt_of_le hacc (Nat.le_trans hpow (by decide))
    rw [e1, shlI_nat (by omega), e2, Nat.mod_eq_of_lt hsm, orI_nat hac2 hsm]
    congr 1
    rw [← e2, Nat.mul_comm, Nat.or_comm, ← Nat.two_pow_add_eq_or_of_lt (by rw [e2]; exact hacc), Nat.add_comm]
  have key1 : ∀ q : Bool, (q = true ↔ (i = 9 ∧ 1 < c.toNat)) → k1 q w := by
    intro q hq
    rw [hk1]
    refine ⟨fun ht => bad 7 (by decide) ?_, fun hf => ?_⟩
    · rw [if_pos (hq.1 ht)] at htake
      exact htake.symm
    have hn9 : ¬ (i = 9 ∧ 1 < c.toNat) := fun hh => by rw [hq.2 hh] at hf; cases hf
    rw [if_neg hn9] at htake
    refine ⟨by omega, ?_⟩
    refine ⟨fun hge => ?_, fun hlt' => ?_⟩
    · have hge : 128 ≤ c.toNat := by have := of_decide_eq_true hge; omega
      rw [if_pos hge] at htake
      have hi8 : i ≤ 8 := by
        rcases Nat.lt_or_ge i 9 with h | h
        · omega
        · exact absurd ⟨by omega, by omega⟩ hn9
      rw [(hor (.inr (by omega))).resolve_right hn9, w64_eq (by omega) (by omega), w64_eq (by omega) (by omega)]
      refine ⟨⟨rfl, i + 1, acc + c.toNat % 128 * 128 ^ i, by omega, by omega, by omega, by omega, rfl, ?_, htake⟩, by omega⟩
      have h3 : c.toNat % 128 ≤ 127 := by omega
      have h4 := Nat.mul_le_mul_right (128 ^ i) h3
      rw [Nat.pow_succ]
      omega
    · have hlt' : c.toNat < 128 := by have := of_decide_eq_false hlt'; omega
      rw [if_neg (by omega)] at htake
      refine jn_of fun k2 hk2 => ?_
      have key2 : ∀ q : Bool, (q = true ↔ (c.toNat = 0 ∧ 0 < i)) → k2 q w := by
        intro q hq
        rw [hk2]
        refine ⟨fun ht => bad 7 (by decide) ?_, fun hf => ?_⟩
        · rw [if_pos (hq.1 ht)] at htake
          exact htake.symm
        rw [if_neg (fun hh => by rw [hq.2 hh] at hf; cases hf)] at htake
        refine ⟨_, rfl, s, by rw [add_plain]; exact hB.cell rfl, ?_⟩
        rw [w64_eq (by omega) (by omega)]
        refine ⟨⟨by omega, by omega⟩, _, rfl, ?_⟩
        show st1 _ _ _ _
        rw [add_plain]
        refine st1_blk hB (by simp) fun w' hB' hf' => ?_
        have e1 : ((i : Int) + 1) = ((i + 1 : Nat) : Int) := by omega
        rw [e1] at hB'
        have hcut : Bytes w (s.cut 1 ((i + 1 : Nat) : Int) (s.len : Int) (s.cap : Int)) ((b.take s.len).drop (i + 1)) := hb.cut (l := i + 1) (e := s.len) (m := s.cap) (by omega) hc (by omega)
        rw [List.take_of_length_le (by omega)] at hcut
        refine ⟨hf', .inr ⟨_, _, htake.symm, ?_, ?_, ⟨_, hB', hf'.bytes ?_ hcut, ?_, ?_⟩⟩⟩
        · rw [(hor (.inl hlt')).resolve_right hn9, Nat.mod_eq_of_lt hlt']
        · have h5 := (hor (.inl hlt')).resolve_right hn9
          have h6 : (0 : Int) ≤ 0 := by omega
          have hb : c.toNat * 128 ^ i + acc < 18446744073709551616 := by
            by_cases h8 : i ≤ 8
            · have h7 : 128 ^ i ≤ 128 ^ 8 := Nat.pow_le_pow_right (by decide) h8
              have h9 : c.toNat * 128 ^ i ≤ 127 * 128 ^ 8 := Nat.mul_le_mul (by omega) h7
              have : (127 * 128 ^ 8 + 128 ^ 8 : Nat) < 18446744073709551616 := by decide
              omega
            · have h9' : i = 9 := by omega
              have h1 : c.toNat ≤ 1 := by
                rcases Nat.lt_or_ge 1 c.toNat with h | h
                · exact absurd ⟨h9', h⟩ hn9
                · exact h
              subst h9'
              have h9 : c.toNat * 128 ^ 9 ≤ 1 * 128 ^ 9 := Nat.mul_le_mul_right _ h1
              have : (1 * 128 ^ 9 + 128 ^ 9 : Nat) ≤ 18446744073709551616 := by decide
              omega
          omega
        · intro a' ha'
          unfold Sl.cut at ha'
          simp only at ha'
          split at ha'
          · exact hne a' ha'
          · rw [ha] at ha'
            simp only [Option.map_some, Option.some.injEq] at ha'
            rw [← ha', add_block]
            exact hne a ha
        · show _ - _ ≤ _ - _
          omega
        · intro a' ha'
          unfold Sl.cut at ha'
          simp only at ha'
          split at ha'
          · exact hne a' ha'
          · rw [ha] at ha'
            simp only [Option.map_some, Option.some.injEq] at ha'
            rw [← ha', add_block]
            exact hne a ha
      refine ⟨fun h0 => key2 _ ?_, fun h0 => key2 false ⟨fun h => absurd h (by decide), fun hh => absurd (of_decide_eq_false h0) (by omega)⟩⟩
      have h0 := of_decide_eq_true h0
      rw [decide_eq_true_iff]
      omega
  refine ⟨fun h9 => key1 _ ?_, fun h9 => key1 false ⟨fun h => absurd h (by decide), fun hh => absurd (of_decide_eq_false h9) (by omega)⟩⟩
  have h9 := of_decide_eq_true h9
  rw [decide_eq_true_iff]
  omega
end
end Go.Proofs.Ytagkcbbbdlmcjaa
end
section
/- What is parsed: records out of bytes. -/
set_option linter.unusedVariables false
set_option linter.unusedSimpArgs false
namespace Go.Proofs.Ytagkcbbbdlmcjaa
open Go.Lift Go.Lift.Disk Go.Lift.Crc Go.Lift.Wal Go.RowKit
theorem takeAux_suffix : ∀ (b : List UInt8) (i acc : Nat) {n : Nat} {rest : List UInt8}, takeAux i acc b = some (n, rest) → ∃ pre, b = pre ++ rest
  | [], _, _, _, _, h => by cases h
  | c :: b, i, acc, n, rest, h => by
    unfold takeAux at h
    split at h
    · cases h
    · split at h
      · cases h
      · split at h
        · obtain ⟨pre, e⟩ := takeAux_suffix b _ _ h
          exact ⟨c :: pre, by rw [e]; rfl⟩
        · split at h
          · cases h
          · simp only [Option.some.injEq, Prod.mk.injEq] at h
            exact ⟨[c], by rw [h.2]; rfl⟩
theorem mk_22 : mkCells Try.prog 22 = some (39, 1, 24, List.replicate 1 (Value.slice none 0 0)) := by kernel_rfl
/-- parts in a row of one's own, each in a row of its own -/
def OwnParts (w : World) (base : Nat) (s : Sl) (l : List (List UInt8)) : Prop :=
  ∃ ss : List Sl, ss.length = l.length ∧ Own w base 39 1 s (ss.map Sl.v) ∧ ∀ (k : Nat) (s : Sl) (b : List UInt8), ss[k]? = some s → l[k]? = some b → Own w base 5 1 s (u8s b)
theorem OwnParts.nil (w : World) (base : Nat) : OwnParts w base nilSl [] := ⟨[], rfl, Own.nil _ _ _ _, fun k s b h => by simp at h⟩
theorem OwnParts.ext {w w' : World} {base : Nat} {s : Sl} {l : List (List UInt8)} (h : OwnParts w base s l) (hx : Ext w w') : OwnParts w' base s l := by
  obtain ⟨ss, h1, h2, h3⟩ := h
  exact ⟨ss, h1, h2.ext hx, fun k s b hs hb => (h3 k s b hs hb).ext hx⟩
theorem OwnParts.len {w : World} {base : Nat} {s : Sl} {l : List (List UInt8)} (h : OwnParts w base s l) : s.len = l.length := by
  obtain ⟨ss, h1, h2, h3⟩ := h
  have := h2.length
  simp only [List.length_map] at this
  omega
theorem OwnParts.parts {w : World} {base : Nat} {s : Sl} {l : List (List UInt8)} (h : OwnParts w base s l) : Parts w s l := by
  have hl := h.len
  obtain ⟨ss, h1, h2, h3⟩ := h
  exact ⟨ss, by omega, h1, h2.at, fun k s b hs hb => (h3 k s b hs hb).bytes⟩
theorem sl_one (ss : List Sl) : ∀ u ∈ ss.map Sl.v, u.oneCell' = true := by
  intro u hu
  obtain ⟨s, _, rfl⟩ := List.mem_map.1 hu
  rfl
theorem own_other {w : World} {b1 b2 : Nat} {s q : Sl} {xs ys : List Value} (h : Own w b1 39 1 s xs) (k : Own w b2 5 1 q ys) : q.v.ownBlock = none ∨ q.v.ownBlock ≠ s.v.ownBlock := by
  rcases k.2 with ⟨h1, _⟩ | ⟨g, cap, cur, h1, _, h3, _⟩
  · left; rw [h1]; rfl
  · right
    rcases h.2 with ⟨k1, _⟩ | ⟨g', cap', cur', k1, _, k3, _⟩
    · rw [h1, k1]; simp [Value.ownBlock]
    · rw [h1, k1]
      simp only [Value.ownBlock, ne_eq, Option.some.injEq]
      intro e
      subst e
      rw [h3] at k3
      simp at k3
/-- one more part -/
theorem OwnParts.add {w w1 : World} {base b50 : Nat} {s x : Sl} {l : List (List UInt8)} {bs : List UInt8} {K : Sl → World → Prop} (h : OwnParts w base s l) (hx : Own w base 5 1 x (u8s bs))
    (hb : b50 = w.heap.size) (hw : w1 = w.alloc (.cells [x.v].toArray 39)) (hl : l.length ≤ 4000000) (hbase : base ≤ w.heap.size)
    (hk : ∀ s' w', OwnParts w' base s' (l ++ [bs]) → (∀ a, Ext a w → base = a.heap.size → Ext a w') → (∀ {e B : Nat} {q : Sl} {ys : List Value}, Own w B e 1 q ys → q.v.ownBlock = none ∨ q.v.ownBlock ≠ s.v.ownBlock → Own w' B e 1 q ys) → K s' w') : app Try.prog 22 s ⟨some ⟨b50, 0, none⟩, 1, 1⟩ w1 K := by
  have hsl := h.len
  obtain ⟨ss, h1, h2, h3⟩ := h
  have hx1 : Ext w w1 := Ext.new hw
  have hsz := hx1.size
  refine app_ok (base := base) mk_22 rfl (by decide) (h2.ext hx1) (news := [x].map Sl.v) rfl (At.new hb hw) (sl_one _) (by simp only [maxLen]; omega) (by first | omega | (simp only; omega)) (by omega) ?_
  intro s' w' hl' ho' hg' hB'
  rw [← List.map_append] at ho'
  have hx' : ∀ a, Ext a w → base = a.heap.size → Ext a w' := fun a ha he => hB' _ _ (ha.trans hx1) (by omega) (ha.trans hx1).size
  have hold : ∀ {e B : Nat} {q : Sl} {ys : List Value}, Own w B e 1 q ys → q.v.ownBlock = none ∨ q.v.ownBlock ≠ s.v.ownBlock → Own w' B e 1 q ys := fun hq hne => World.ownsRow.kept (hq.ext hx1) hg' hne
  refine hk s' w' ⟨ss ++ [x], by simp [h1], ho', ?_⟩ hx' hold
  intro k q c hq hc
  rcases Nat.lt_or_ge k ss.length with hlt | hge
  · rw [List.getElem?_append_left hlt] at hq
    rw [List.getElem?_append_left (by omega)] at hc
    have := h3 k q c hq hc
    exact hold this (own_other h2 this)
  · rw [List.getElem?_append_right hge] at hq
    rw [List.getElem?_append_right (by omega)] at hc
    have : k - ss.length = 0 := by
      rcases Nat.eq_zero_or_pos (k - ss.length) with h | h
      · exact h
      · rw [List.getElem?_eq_none (show [x].length ≤ _ by rw [List.length_singleton]; omega)] at hq; cases hq
    rw [this] at hq
    rw [← h1, this] at hc
    simp at hq hc
    subst hq; subst hc
    exact hold hx (own_other h2 hx)
theorem cut_some {p : Sl} {n : Nat} {i j m : Int} (h : p.a ≠ none) : (p.cut n i j m).a ≠ none := by
  unfold Sl.cut
  simp only
  split
  · exact h
  · simpa using h
theorem bytes_some {w : World} {p : Sl} {b : List UInt8} (h : Bytes w p b) (hb : b ≠ []) : p.a ≠ none := by
  obtain ⟨c, b', rfl⟩ := List.exists_cons_of_ne_nil hb
  have := h.2
  intro e
  rw [e] at this
  cases this
theorem parse_ok (w : World) (p : Sl) (b : List UInt8) (hp : Bytes w p b) (hc : p.len ≤ p.cap) (hn : p.a = none → p.len = 0 ∧ p.cap = 0) (hl : b.length ≤ 4000000) :
    Calls Try.prog 50 #[p.v] w (Ret r50 fun x w' => x.2 = (parse b).2 ∧ OwnParts w' w.heap.size x.1 (parse b).1 ∧ Ext w w') := by
  apply s50_calls
  refine ⟨fun st w' => ∃ (f : Nat) (b' : List UInt8) (out : List (List UInt8)), b'.length ≤ f ∧ parseF f b' out = parse b ∧ out.length + b'.length ≤ b.length ∧ Bytes w st.1 b' ∧ st.1.len ≤ st.1.cap ∧ (st.1.a = none → st.1.len = 0 ∧ st.1.cap = 0) ∧
      OwnParts w' w.heap.size st.2 out ∧ Ext w w',
    fun st _ => st.1.len, ⟨b.length, b, [], Nat.le_refl _, rfl, by simp, hp, hc, hn, OwnParts.nil _ _, Ext.refl _⟩, ?_⟩
  rintro ⟨p, s⟩ w2 ⟨f, b', out, hf, hpar, hob, hb0, hcap, hnil, ho, hx2⟩
  simp only at hb0 hcap hnil ho ⊢
  have hb := hb0.ext hx2
  have hbl := hb.1
  refine ⟨fun hgt => ?_, fun h0 => ?_⟩
  · have hgt : 0 < p.len := by have := of_decide_eq_true hgt; omega
    have hne : b' ≠ [] := by intro e; rw [e] at hbl; simp at hbl; omega
    obtain ⟨f, rfl⟩ : ∃ f', f = f' + 1 := ⟨f - 1, by omega⟩
    rw [parseF, if_neg hne] at hpar
    refine cR_of (read72_ok w2 p b' hb hnil (by omega)) ?_
    rintro x7 w8 ⟨g, rfl, hg, hr8, hx8⟩
    refine cR_of (numRd_ok hr8 (by omega)) ?_
    rintro x9 w10 ⟨hf10, hcase⟩
    have hx10 : Ext w2 w10 := hf10.ext hx8 fun k _ e => by rw [e]; exact hg
    have hx10' := hx2.trans hx10
    rcases hcase with ⟨htn, e, he, hr10⟩ | ⟨n, rest, htn, rfl, hn64, hr10⟩
    · rw [htn] at hpar
      simp only at hpar
      refine cR_of (left_ok hr10) ?_
      rintro x11 w12 ⟨rfl, rfl⟩
      refine cR_of (err_ok hr10) ?_
      rintro x13 w14 ⟨rfl, rfl⟩
      refine jn_of fun k1 hk1 => ?_
      refine ⟨fun _ => ?_, fun h => absurd (nd_f h) he⟩
      rw [hk1]
      refine jn_of fun k2 hk2 => ⟨fun _ => ?_, fun h => absurd h (by simp)⟩
      rw [hk2]
      refine ⟨fun _ => ?_, fun h => absurd h (by simp)⟩
      rw [← hpar]
      exact ⟨rfl, OwnParts.nil _ _, hx10'⟩
    · rw [htn] at hpar
      simp only at hpar
      have hrl := takeNum_len htn
      obtain ⟨pre, hpre⟩ := takeAux_suffix _ _ _ htn
      have hprl : b'.length = pre.length + rest.length := by rw [hpre, List.length_append]
      refine cR_of (left_ok hr10) ?_
      rintro x11 w12 ⟨rfl, rfl⟩
      refine cR_of (err_ok hr10) ?_
      rintro x13 w14 ⟨rfl, rfl⟩
      refine jn_of fun k1 hk1 => ?_
      refine ⟨fun h => absurd h (by simp), fun _ => ?_⟩
      refine cR_of (left_ok hr10) ?_
      rintro x17 w18 ⟨rfl, rfl⟩
      rw [hk1]
      refine jn_of fun k2 hk2 => ?_
      have key : ∀ q : Bool, (q = true ↔ (rest.length < 4 ∨ rest.length - 4 < n)) → k2 q w10 := by
        intro q hq
        rw [hk2]
        refine ⟨fun ht => ?_, fun hfl => ?_⟩
        · rw [if_pos (hq.1 ht)] at hpar
          rw [← hpar]
          exact ⟨rfl, OwnParts.nil _ _, hx10'⟩
        have hnn : ¬ (rest.length < 4 ∨ rest.length - 4 < n) := fun hh => by rw [hq.2 hh] at hfl; cases hfl
        rw [if_neg hnn] at hpar
        have e1 : IntKind.i64.wrap (IntKind.i64.wrap ((p.len : Int) - (rest.length : Int)) + 4) = ((pre.length + 4 : Nat) : Int) := by
          rw [w64_eq (x := (p.len : Int) - (rest.length : Int)) (by omega) (by omega), w64_eq (by omega) (by omega)]; omega
        have e2 : IntKind.i64.wrap (IntKind.i64.wrap (IntKind.i64.wrap ((p.len : Int) - (rest.length : Int)) + 4) + IntKind.i64.wrap (n : Int)) = ((pre.length + 4 + n : Nat) : Int) := by
          rw [e1, w64_eq (x := (n : Int)) (by omega) (by omega), w64_eq (by omega) (by omega)]; omega
        rw [e2, e1]
        have hsl : sliceB b' (pre.length + 4) (pre.length + 4 + n) = sliceB rest 4 (4 + n) := by
          unfold sliceB
          rw [hpre, List.take_append, List.take_of_length_le (show pre.length ≤ pre.length + 4 + n by omega), List.drop_append, List.drop_of_length_le (show pre.length ≤ pre.length + 4 by omega), List.nil_append]
          congr 1
          · omega
          · congr 1; omega
        have htk : b'.take (b'.length - rest.length + 4 + n) = sliceB b' 0 (pre.length + 4 + n) := by
          unfold sliceB
          rw [List.drop_zero]
          congr 1; omega
        rw [← hsl, htk] at hpar
        refine ⟨⟨by omega, by omega, by omega⟩, ?_⟩
        intro w39 hw39
        have hx39 : Ext w10 w39 := by subst hw39; exact Ext.drew _
        have hb10 := hb.ext hx10
        have hc0 := cut_ok hb10 hcap (i := 0) (j := pre.length + 4 + n) (by omega) (by omega)
        have hc1 := cut_ok hb10 hcap (i := pre.length + 4) (j := pre.length + 4 + n) (by omega) (by omega)
        have hcl : (sliceB b' (pre.length + 4) (pre.length + 4 + n)).length ≤ 4000000 := by simp [sliceB]; omega
        refine ⟨⟨by omega, by omega, by omega⟩, _, hc0.1, hc0.2, ?_⟩
        refine cR_of (frame_ok w39 _ _ (hc1.ext hx39) (by omega)) ?_
        rintro x42 w43 ⟨ho42, hx43⟩
        have hx43' := hx39.trans hx43
        refine ⟨hx43', _, ho42.bytes.1, ho42.bytes.2, ?_⟩
        refine ⟨fun hne' => ?_, fun heq => ?_⟩
        · rw [if_neg (nd_t hne')] at hpar
          rw [← hpar]
          exact ⟨rfl, OwnParts.nil _ _, hx10'.trans hx43'⟩
        · rw [if_pos (nd_f heq)] at hpar
          refine cR_of (cloneB_ok _ _ (hc1.ext hx43') (cut_some (bytes_some hb hne)) (by omega)) ?_
          rintro x48 w49 ⟨ho48, hx49⟩
          have hx49' := (hx10.trans hx43').trans hx49
          have hx49w := hx2.trans hx49'
          intro b50 w51 hb50 hw51
          have ho49 := ho.ext hx49'
          refine OwnParts.add ho49 (Own.lower ho48 (hx10'.trans hx43').size) hb50 hw51 (by omega) hx49w.size fun s' w' hs' hx' hold => ?_
          have hxw := hx' w hx49w rfl
          refine ⟨⟨by omega, by omega⟩, ?_⟩
          have hc2 := cut_ok hb0 hcap (i := pre.length + 4 + n) (j := b'.length) (by omega) (Nat.le_refl _)
          have hbe : (b'.length : Int) = (p.len : Int) := by omega
          rw [hbe] at hc2
          have e3 : sliceB b' (pre.length + 4 + n) b'.length = rest.drop (4 + n) := by
            unfold sliceB
            rw [List.take_length]
            conv => lhs; rw [hpre]
            rw [List.drop_append, List.drop_of_length_le (by omega), List.nil_append]
            congr 1; omega
          rw [e3] at hc2
          have hrd : (rest.drop (4 + n)).length = rest.length - (4 + n) := List.length_drop
          refine ⟨⟨f, rest.drop (4 + n), out ++ [sliceB b' (pre.length + 4) (pre.length + 4 + n)], by rw [hrd]; omega, hpar, by rw [List.length_append, List.length_singleton, hrd]; omega, ?_, ?_, ?_, hs', hxw⟩, ?_⟩
          · exact hc2
          · show _ - _ ≤ _ - _
            omega
          · exact fun hn => absurd hn (cut_some (bytes_some hb hne))
          · show _ - _ < _
            omega
      refine ⟨fun h4 => ?_, fun h4 => ?_⟩
      · exact key true ⟨fun _ => .inl (by have := of_decide_eq_true h4; omega), fun _ => rfl⟩
      · have h4' : ¬ (rest.length < 4) := by have := of_decide_eq_false h4; omega
        refine cR_of (left_ok hr10) ?_
        rintro x29 w30 ⟨rfl, rfl⟩
        rw [w64_eq (by omega) (by omega), wu64_eq (by omega) (by omega)]
        refine key _ ?_
        rw [decide_eq_true_iff]
        omega
  · have h0 : p.len = 0 := by have := of_decide_eq_false h0; omega
    have hb0 : b' = [] := List.eq_nil_of_length_eq_zero (by omega)
    subst hb0
    have : parseF f [] out = (out, 0) := by cases f <;> rfl
    rw [this] at hpar
    rw [← hpar]
    exact ⟨rfl, ho, hx2⟩
end Go.Proofs.Ytagkcbbbdlmcjaa
end
section
/- The typed readings of the functions, and that the program meets each: written by gen.py (a program of this session). -/
set_option linter.unusedVariables false
set_option linter.unusedSimpArgs false
namespace Go.Proofs.Ytagkcbbbdlmcjaa
open Go.Lift
set_option maxRecDepth 100000 in
set_option maxHeartbeats 4000000 in
theorem s17_calls (K : Int → World → Prop) (p0 : Option Addr) (w : World) (h : s17 K p0 w) :
    Calls Try.prog 17 #[.pointer p0] w (Ret r17 K) := by
  unfold s17 at h
  refine calls_of_CW (n := 15) Try.func17 rfl rfl rfl ?_
  refine CW.seq ?_
  refine CW.region ?_
  refine RL.opS trivial rfl (OpW.assign (v := .int .i64 0) rfl ?_)
  refine RL.nil ?_
  refine CW.seq ?_
  refine CW.seq ?_
  refine CW.region ?_
  refine RL.opS trivial rfl (OpW.move (v := .pointer p0) rfl ?_)
  refine RL.opS trivial rfl (OpW.ptrNil (b := p0.isNone) (p := p0) ptr_35 rfl rfl rfl ?_)
  refine RL.nil ?_
  obtain ⟨ha, hc⟩ := h
  refine CW.cond (b := (p0.isNone)) rfl (fun hb1 => ?_) (fun hb1 => ?_)
  · have h := ha hb1; clear ha hc
    refine CW.seq ?_
    refine CW.region ?_
    refine RL.opS trivial rfl (OpW.assign (v := .int .i64 0) rfl ?_)
    refine RL.nil ?_
    refine CW.ret ?_
    exact ret_intro (res1 rfl rfl) ⟨0, rfl, h⟩
  · have h := hc hb1; clear ha hc
    refine CW.skip ?_
    refine CW.seq ?_
    obtain ⟨w2, hw2_⟩ : ∃ w_, w_ = w.drew := ⟨_, rfl⟩
    have h := h w2 hw2_
    have hx3 : Ext w w2 := by rw [hw2_]; exact Ext.drew _
    refine CW.draws (m := 11) (listed := #[false, false, false, false, false, false, false, false, false, false, false]) mixed [0, 1, 2, 3, 4, 5, 6, 7, 8, 9, 10] (Ext w) rfl rfl ?_
    rw [← hw2_]
    refine DL.takeP (listed' := #[true, false, false, false, false, false, false, false, false, false, false]) (v := .pointer p0) 0 rfl rfl (by kernel_rfl) rfl trivial rfl (fun w_ K_ h_ => OpW.move (v := .pointer p0) rfl h_) ?_
    obtain ⟨a4, ha5, h⟩ := h
    refine DL.takeP (listed' := #[true, true, false, false, false, false, false, false, false, false, false]) (v := .pointer (some a4)) 1 rfl rfl (by kernel_rfl) rfl trivial rfl (fun w_ K_ h_ => OpW.nilCheck (a := a4) (congrArg Value.pointer ha5) h_) ?_
    refine DL.takeP (listed' := #[true, true, true, false, false, false, false, false, false, false, false]) (v := .pointer (some (Addr.add a4 2))) 2 rfl rfl (by kernel_rfl) rfl trivial rfl (fun w_ K_ h_ => OpW.fieldAddr field_95_2 rfl h_) ?_
    obtain ⟨x6, h1, h⟩ := h
    refine DL.takeK (listed' := #[true, true, true, true, false, false, false, false, false, false, false]) (v := .int .i64 x6) 3 rfl rfl (by kernel_rfl) (by kernel_rfl) rfl trivial rfl hx3 (fun w_ hS_ K_ h_ => OpW.load1 (v := .int .i64 x6) one_3 rfl (hS_.cell h1) h_) ?_
    refine DL.takeP (listed' := #[true, true, true, true, true, false, false, false, false, false, false]) (v := .pointer p0) 4 rfl rfl (by kernel_rfl) rfl trivial rfl (fun w_ K_ h_ => OpW.move (v := .pointer p0) rfl h_) ?_
    obtain ⟨a7, ha8, h⟩ := h
    refine DL.takeP (listed' := #[true, true, true, true, true, true, false, false, false, false, false]) (v := .pointer (some a7)) 5 rfl rfl (by kernel_rfl) rfl trivial rfl (fun w_ K_ h_ => OpW.nilCheck (a := a7) (congrArg Value.pointer ha8) h_) ?_
    refine DL.takeP (listed' := #[true, true, true, true, true, true, true, false, false, false, false]) (v := .pointer (some (Addr.add a7 4))) 6 rfl rfl (by kernel_rfl) rfl trivial rfl (fun w_ K_ h_ => OpW.fieldAddr field_95_4 rfl h_) ?_
    obtain ⟨x9, h1, h⟩ := h
    refine DL.takeK (listed' := #[true, true, true, true, true, true, true, true, false, false, false]) (v := Sl.v x9) 7 rfl rfl (by kernel_rfl) (by kernel_rfl) rfl trivial rfl hx3 (fun w_ hS_ K_ h_ => OpW.load1 (v := Sl.v x9) one_39 rfl (hS_.cell h1) h_) ?_
    refine DL.takeP (listed' := #[true, true, true, true, true, true, true, true, true, false, false]) (v := .int .i64 (x9.len : Int)) 8 rfl rfl (by kernel_rfl) rfl trivial rfl (fun w_ K_ h_ => OpW.len (s := x9) slice_39 rfl h_) ?_
    refine DL.takeP (listed' := #[true, true, true, true, true, true, true, true, true, true, false]) (v := .int .i64 (IntKind.i64.wrap (x6 - (x9.len : Int)))) 9 rfl rfl (by kernel_rfl) rfl trivial rfl (fun w_ K_ h_ => OpW.bin (k := .i64) (a := x6) (b := (x9.len : Int)) (v := .int .i64 (IntKind.i64.wrap (x6 - (x9.len : Int)))) rfl rfl rfl h_) ?_
    refine DL.takeP (listed' := #[true, true, true, true, true, true, true, true, true, true, true]) (v := .int .i64 (IntKind.i64.wrap (x6 - (x9.len : Int)))) 10 rfl rfl (by kernel_rfl) rfl trivial rfl (fun w_ K_ h_ => OpW.assign (v := .int .i64 (IntKind.i64.wrap (x6 - (x9.len : Int)))) rfl h_) ?_
    refine DL.done (by kernel_rfl) ?_
    refine CW.ret ?_
    exact ret_intro (res1 rfl rfl) ⟨(IntKind.i64.wrap (x6 - (x9.len : Int))), rfl, h⟩
end Go.Proofs.Ytagkcbbbdlmcjaa
end
section
/- The typed readings of the functions, and that the program meets each: written by gen.py (a program of this session). -/
set_option linter.unusedVariables false
set_option linter.unusedSimpArgs false
namespace Go.Proofs.Ytagkcbbbdlmcjaa
open Go.Lift
set_option maxRecDepth 100000 in
set_option maxHeartbeats 4000000 in
theorem s21_calls (K : Int → World → Prop) (p0 : Option Addr) (w : World) (h : s21 K p0 w) :
    Calls Try.prog 21 #[.pointer p0] w (Ret r21 K) := by
  unfold s21 at h
  refine calls_of_CW (n := 27) Try.func21 rfl rfl rfl ?_
  refine CW.seq ?_
  refine CW.region ?_
  refine RL.opS trivial rfl (OpW.assign (v := .int .i64 0) rfl ?_)
  refine RL.nil ?_
  refine CW.seq ?_
  refine CW.seq ?_
  refine CW.region ?_
  refine RL.opS trivial rfl (OpW.move (v := .pointer p0) rfl ?_)
  refine RL.opS trivial rfl (OpW.callR (al := [.pointer p0]) Try.func46 fb_46 fn_46 rfl h (fun x1 w2 h => ?_))
  refine RL.nil ?_
  obtain ⟨ha, hc⟩ := h
  refine CW.cond (b := x1) rfl (fun hb3 => ?_) (fun hb3 => ?_)
  · have h := ha hb3; clear ha hc
    refine CW.seq ?_
    refine CW.region ?_
    refine RL.opS trivial rfl (OpW.assign (v := .int .i64 3) rfl ?_)
    refine RL.nil ?_
    refine CW.ret ?_
    exact ret_intro (res1 rfl rfl) ⟨3, rfl, h⟩
  · have h := hc hb3; clear ha hc
    refine CW.skip ?_
    refine CW.seq ?_
    refine CW.seq ?_
    refine CW.region ?_
    refine RL.opS trivial rfl (OpW.move (v := .pointer p0) rfl ?_)
    obtain ⟨a4, ha5, h⟩ := h
    refine RL.opS trivial rfl (OpW.nilCheck (a := a4) (congrArg Value.pointer ha5) ?_)
    refine RL.opS trivial rfl (OpW.fieldAddr field_95_3 rfl ?_)
    obtain ⟨x6, h1, h⟩ := h
    refine RL.opS trivial rfl (OpW.load1 (v := .int .u64 x6) one_25 rfl h1 ?_)
    refine RL.opS trivial rfl (OpW.bin (k := .u64) (a := x6) (b := 4611686018427387904) (v := .bool (decide (x6 = 4611686018427387904))) rfl rfl rfl ?_)
    refine RL.nil ?_
    obtain ⟨ha, hc⟩ := h
    refine CW.cond (b := (decide (x6 = 4611686018427387904))) rfl (fun hb7 => ?_) (fun hb7 => ?_)
    · have h := ha hb7; clear ha hc
      refine CW.seq ?_
      refine CW.region ?_
      refine RL.opS trivial rfl (OpW.assign (v := .int .i64 40) rfl ?_)
      refine RL.nil ?_
      refine CW.ret ?_
      exact ret_intro (res1 rfl rfl) ⟨40, rfl, h⟩
    · have h := hc hb7; clear ha hc
      refine CW.skip ?_
      refine CW.seq ?_
      refine CW.seq ?_
      refine CW.region ?_
      refine RL.opS trivial rfl (OpW.move (v := .pointer p0) rfl ?_)
      refine RL.opS trivial rfl (OpW.move (v := .pointer p0) rfl ?_)
      obtain ⟨a8, ha9, h⟩ := h
      refine RL.opS trivial rfl (OpW.nilCheck (a := a8) (congrArg Value.pointer ha9) ?_)
      refine RL.opS trivial rfl (OpW.fieldAddr field_95_3 rfl ?_)
      obtain ⟨x10, h1, h⟩ := h
      refine RL.opS trivial rfl (OpW.load1 (v := .int .u64 x10) one_25 rfl h1 ?_)
      refine RL.opS trivial rfl (OpW.bin (k := .u64) (a := x10) (b := 1) (v := .int .u64 (IntKind.u64.wrap (x10 + 1))) rfl rfl rfl ?_)
      refine RL.opS trivial rfl (OpW.callR (al := [.pointer p0, .int .u64 (IntKind.u64.wrap (x10 + 1)), .int .i64 0]) Try.func48 fb_48 fn_48 rfl h (fun x11 w12 h => ?_))
      refine RL.opS trivial rfl (OpW.assign (v := .int .i64 x11) rfl ?_)
      refine RL.nil ?_
      refine CW.seq ?_
      refine CW.region ?_
      refine RL.opS trivial rfl (OpW.move (v := .int .i64 x11) rfl ?_)
      refine RL.opS trivial rfl (OpW.bin (k := .i64) (a := x11) (b := 0) (v := .bool (!decide (x11 = 0))) rfl rfl rfl ?_)
      refine RL.nil ?_
      obtain ⟨ha, hc⟩ := h
      refine CW.cond (b := (!decide (x11 = 0))) rfl (fun hb13 => ?_) (fun hb13 => ?_)
      · have h := ha hb13; clear ha hc
        refine CW.seq ?_
        refine CW.region ?_
        refine RL.opS trivial rfl (OpW.move (v := .int .i64 x11) rfl ?_)
        refine RL.opS trivial rfl (OpW.assign (v := .int .i64 x11) rfl ?_)
        refine RL.nil ?_
        refine CW.ret ?_
        exact ret_intro (res1 rfl rfl) ⟨x11, rfl, h⟩
      · have h := hc hb13; clear ha hc
        refine CW.skip ?_
        refine CW.seq ?_
        refine CW.region ?_
        refine RL.opS trivial rfl (OpW.move (v := .pointer p0) rfl ?_)
        refine RL.opS trivial rfl (OpW.move (v := .pointer p0) rfl ?_)
        obtain ⟨a14, ha15, h⟩ := h
        refine RL.opS trivial rfl (OpW.nilCheck (a := a14) (congrArg Value.pointer ha15) ?_)
        refine RL.opS trivial rfl (OpW.fieldAddr field_95_4 rfl ?_)
        obtain ⟨u_, h1, h2, h⟩ := h
        obtain ⟨w16, hw16_⟩ : ∃ w_, w_ = w12.setCell (Addr.add a14 4) (Sl.v nilSl) := ⟨_, rfl⟩
        have h := h w16 hw16_
        refine RL.opN trivial (OpW.store1E (v := Sl.v nilSl) size_39 rfl rfl rfl h1 h2 hw16_ ?_)
        obtain ⟨a17, ha18, h⟩ := h
        refine RL.opS trivial rfl (OpW.nilCheck (a := a17) (congrArg Value.pointer ha18) ?_)
        refine RL.opS trivial rfl (OpW.fieldAddr field_95_5 rfl ?_)
        obtain ⟨u_, h1, h2, h⟩ := h
        obtain ⟨w19, hw19_⟩ : ∃ w_, w_ = w16.setCell (Addr.add a17 5) (.int .i64 0) := ⟨_, rfl⟩
        have h := h w19 hw19_
        refine RL.opN trivial (OpW.store1E (v := .int .i64 0) size_3 rfl rfl rfl h1 h2 hw19_ ?_)
        refine RL.nil ?_
        refine CW.seq ?_
        refine CW.region ?_
        refine RL.opS trivial rfl (OpW.assign (v := .int .i64 0) rfl ?_)
        refine RL.nil ?_
        refine CW.ret ?_
        exact ret_intro (res1 rfl rfl) ⟨0, rfl, h⟩
end Go.Proofs.Ytagkcbbbdlmcjaa
end
section
/- The typed readings of the functions, and that the program meets each: written by gen.py (a program of this session). -/
set_option linter.unusedVariables false
set_option linter.unusedSimpArgs false
namespace Go.Proofs.Ytagkcbbbdlmcjaa
open Go.Lift
set_option maxRecDepth 100000 in
set_option maxHeartbeats 4000000 in
theorem s22_calls (K : Int → World → Prop) (p0 : Option Addr) (w : World) (h : s22 K p0 w) :
    Calls Try.prog 22 #[.pointer p0] w (Ret r22 K) := by
  unfold s22 at h
  refine calls_of_CW (n := 9) Try.func22 rfl rfl rfl ?_
  refine CW.seq ?_
  refine CW.region ?_
  refine RL.opS trivial rfl (OpW.assign (v := .int .i64 0) rfl ?_)
  refine RL.nil ?_
  refine CW.seq ?_
  refine CW.seq ?_
  refine CW.region ?_
  refine RL.opS trivial rfl (OpW.move (v := .pointer p0) rfl ?_)
  refine RL.opS trivial rfl (OpW.ptrNil (b := p0.isNone) (p := p0) ptr_35 rfl rfl rfl ?_)
  refine RL.nil ?_
  obtain ⟨ha, hc⟩ := h
  refine CW.cond (b := (p0.isNone)) rfl (fun hb1 => ?_) (fun hb1 => ?_)
  · have h := ha hb1; clear ha hc
    refine CW.seq ?_
    refine CW.region ?_
    refine RL.opS trivial rfl (OpW.assign (v := .int .i64 0) rfl ?_)
    refine RL.nil ?_
    refine CW.ret ?_
    exact ret_intro (res1 rfl rfl) ⟨0, rfl, h⟩
  · have h := hc hb1; clear ha hc
    refine CW.skip ?_
    refine CW.seq ?_
    refine CW.region ?_
    refine RL.opS trivial rfl (OpW.move (v := .pointer p0) rfl ?_)
    obtain ⟨a2, ha3, h⟩ := h
    refine RL.opS trivial rfl (OpW.nilCheck (a := a2) (congrArg Value.pointer ha3) ?_)
    refine RL.opS trivial rfl (OpW.fieldAddr field_95_5 rfl ?_)
    obtain ⟨x4, h1, h⟩ := h
    refine RL.opS trivial rfl (OpW.load1 (v := .int .i64 x4) one_3 rfl h1 ?_)
    refine RL.opS trivial rfl (OpW.assign (v := .int .i64 x4) rfl ?_)
    refine RL.nil ?_
    refine CW.ret ?_
    exact ret_intro (res1 rfl rfl) ⟨x4, rfl, h⟩
end Go.Proofs.Ytagkcbbbdlmcjaa
end
section
/- The typed readings of the functions, and that the program meets each: written by gen.py (a program of this session). -/
set_option linter.unusedVariables false
set_option linter.unusedSimpArgs false
namespace Go.Proofs.Ytagkcbbbdlmcjaa
open Go.Lift
set_option maxRecDepth 100000 in
set_option maxHeartbeats 4000000 in
theorem s46_calls (K : Bool → World → Prop) (p0 : Option Addr) (w : World) (h : s46 K p0 w) :
    Calls Try.prog 46 #[.pointer p0] w (Ret r46 K) := by
  unfold s46 at h
  refine calls_of_CW (n := 11) Try.func46 rfl rfl rfl ?_
  refine CW.seq ?_
  refine CW.region ?_
  refine RL.opS trivial rfl (OpW.assign (v := .bool false) rfl ?_)
  refine RL.nil ?_
  refine CW.seq ?_
  refine CW.region ?_
  refine RL.opS trivial rfl (OpW.move (v := .pointer p0) rfl ?_)
  refine RL.opS trivial rfl (OpW.ptrNil (b := p0.isNone) (p := p0) ptr_35 rfl rfl rfl ?_)
  refine RL.opS trivial rfl (OpW.move (v := .bool (p0.isNone)) rfl ?_)
  refine jn_elim h ?_; clear h; intro k9 hk10 h
  refine RL.joinAt (A := Bool) 5 (fun s6 ρ => ρ 10 = .bool s6) k9 ?_ ?_
  · rintro s6 ρ w7 e8 h
    subst hk10
    dsimp only [List.drop]
    refine RL.opS trivial rfl (OpW.assign (v := .bool s6) e8 ?_)
    refine RL.nil ?_
    refine CW.ret ?_
    exact ret_intro (res1 rfl rfl) ⟨s6, rfl, h⟩
  · clear hk10
    dsimp only [List.take]
    obtain ⟨ha, hc⟩ := h
    rcases Bool.eq_false_or_eq_true (p0.isNone) with hb1 | hb1
    · have h := ha hb1; clear ha hc
      refine RL.skipS (notWanted_of rfl rfl hb1) rfl ?_
      refine RL.skipS (notWanted_of rfl rfl hb1) rfl ?_
      refine RL.skipS (notWanted_of rfl rfl hb1) rfl ?_
      refine RL.skipS (notWanted_of rfl rfl hb1) rfl ?_
      refine RL.opS trivial rfl (OpW.pick (b := true) (v := .bool true) (congrArg Value.bool hb1) rfl ?_)
      refine RL.nil ?_
      exact ⟨true, rfl, h⟩
    · have h := hc hb1; clear ha hc
      refine RL.opS (wanted_of rfl rfl hb1) rfl (OpW.move (v := .pointer p0) rfl ?_)
      obtain ⟨a3, ha4, h⟩ := h
      refine RL.opS (wanted_of rfl rfl hb1) rfl (OpW.nilCheck (a := a3) (congrArg Value.pointer ha4) ?_)
      refine RL.opS (wanted_of rfl rfl hb1) rfl (OpW.fieldAddr field_95_6 rfl ?_)
      obtain ⟨x5, h1, h⟩ := h
      refine RL.opS (wanted_of rfl rfl hb1) rfl (OpW.load1 (v := .bool x5) one_4 rfl h1 ?_)
      refine RL.opS trivial rfl (OpW.pick (b := false) (v := .bool x5) (congrArg Value.bool hb1) rfl ?_)
      refine RL.nil ?_
      exact ⟨x5, rfl, h⟩
end Go.Proofs.Ytagkcbbbdlmcjaa
end
section
/- The typed readings of the functions, and that the program meets each: written by gen.py (a program of this session). -/
set_option linter.unusedVariables false
set_option linter.unusedSimpArgs false
namespace Go.Proofs.Ytagkcbbbdlmcjaa
open Go.Lift
set_option maxRecDepth 100000 in
set_option maxHeartbeats 4000000 in
theorem s48_calls (K : Int → World → Prop) (p0 : Option Addr) (p1 : Int) (p2 : Int) (w : World) (h : s48 K p0 p1 p2 w) :
    Calls Try.prog 48 #[.pointer p0, .int .u64 p1, .int .i64 p2] w (Ret r48 K) := by
  unfold s48 at h
  refine calls_of_CW (n := 53) Try.func48 rfl rfl rfl ?_
  refine CW.seq ?_
  refine CW.region ?_
  refine RL.opS trivial rfl (OpW.assign (v := .int .i64 0) rfl ?_)
  refine RL.nil ?_
  refine CW.seq ?_
  refine CW.region ?_
  obtain ⟨h1, h2, h3, h4, h⟩ := h
  obtain ⟨b1, hb1_⟩ : ∃ b_, b_ = w.heap.size := ⟨_, rfl⟩
  obtain ⟨w2, hw2_⟩ : ∃ w_, w_ = w.alloc (.cells (List.replicate (Int.toNat 512 * 1) (Value.int .u8 0)).toArray 5) := ⟨_, rfl⟩
  have h := h b1 w2 hb1_ hw2_
  obtain ⟨x3, hx3_⟩ : ∃ s_ : Sl, s_ = ⟨some ⟨b1, 0, none⟩, Int.toNat 512, Int.toNat 512⟩ := ⟨_, rfl⟩
  rw [← hx3_] at h
  refine RL.opS trivial rfl (OpW.makeSliceE mk_39 (by decide) rfl rfl h1 h2 h3 h4 hb1_ hw2_ hx3_ ?_)
  refine RL.opS trivial rfl (OpW.assign (v := Sl.v x3) rfl ?_)
  refine RL.nil ?_
  refine CW.seq ?_
  refine CW.region ?_
  refine RL.opS trivial rfl (OpW.move (v := Sl.v x3) rfl ?_)
  refine RL.opS trivial rfl (OpW.move (v := .int .u64 p1) rfl ?_)
  refine RL.opS trivial rfl (OpW.move (v := .int .i64 p2) rfl ?_)
  refine RL.opS trivial rfl (OpW.convInt (a := p2) int_3 int_25 rfl ?_)
  refine RL.opS trivial rfl (OpW.callR (al := [.int .u64 p1, .int .u64 (IntKind.u64.wrap p2)]) Try.func70 fb_70 fn_70 rfl h (fun x4 w5 h => ?_))
  refine RL.opS trivial rfl (OpW.move (v := .int .i64 p2) rfl ?_)
  refine RL.opS trivial rfl (OpW.convInt (a := p2) int_3 int_25 rfl ?_)
  refine RL.opS trivial rfl (OpW.move (v := .int .u64 p1) rfl ?_)
  refine RL.opS trivial rfl (OpW.callR (al := [.int .u64 (IntKind.u64.wrap p2), .int .u64 p1]) Try.func70 fb_70 fn_70 rfl h (fun x6 w7 h => ?_))
  obtain ⟨b8, hb8_⟩ : ∃ b_, b_ = w7.heap.size := ⟨_, rfl⟩
  obtain ⟨w9, hw9_⟩ : ∃ w_, w_ = w7.alloc (.cells (List.toArray [Sl.v x4, Sl.v x6]) 39) := ⟨_, rfl⟩
  have h := h b8 w9 hb8_ hw9_
  refine RL.opS trivial rfl (OpW.buildSliceE (vs := [(0, Sl.v x4), (1, Sl.v x6)]) (cs := [Sl.v x4, Sl.v x6]) (by rfl) (by kernel_rfl) hb8_ hw9_ ?_)
  refine RL.opS trivial rfl (OpW.callR (al := [Sl.v ⟨some ⟨b8, 0, none⟩, 2, 2⟩]) Try.func71 fb_71 fn_71 rfl h (fun x10 w11 h => ?_))
  obtain ⟨x12, w13, hr_, h⟩ := h
  refine RL.opS trivial rfl (OpW.copyL (v := .int .i64 x12) rfl hr_ ?_)
  refine RL.nil ?_
  refine CW.seq ?_
  obtain ⟨w14, hw14_⟩ : ∃ w_, w_ = w13.drew := ⟨_, rfl⟩
  have h := h w14 hw14_
  have hx15 : Ext w13 w14 := by rw [hw14_]; exact Ext.drew _
  refine CW.draws (m := 15) (listed := #[false, false, false, false, false, false, false, false, false, false, false, false, false, false, false]) mixed [0, 1, 2, 3, 4, 5, 6, 7, 8, 9, 10, 11, 12, 14] (Ext w13) rfl rfl ?_
  rw [← hw14_]
  refine DL.takeP (listed' := #[true, false, false, false, false, false, false, false, false, false, false, false, false, false, false]) (v := .pointer p0) 0 rfl rfl (by kernel_rfl) rfl trivial rfl (fun w_ K_ h_ => OpW.move (v := .pointer p0) rfl h_) ?_
  obtain ⟨a16, ha17, h⟩ := h
  refine DL.takeP (listed' := #[true, true, false, false, false, false, false, false, false, false, false, false, false, false, false]) (v := .pointer (some a16)) 1 rfl rfl (by kernel_rfl) rfl trivial rfl (fun w_ K_ h_ => OpW.nilCheck (a := a16) (congrArg Value.pointer ha17) h_) ?_
  refine DL.takeP (listed' := #[true, true, true, false, false, false, false, false, false, false, false, false, false, false, false]) (v := .pointer (some (Addr.add a16 0))) 2 rfl rfl (by kernel_rfl) rfl trivial rfl (fun w_ K_ h_ => OpW.fieldAddr (off := 0) field_95_0 rfl h_) ?_
  obtain ⟨x18, h1, h⟩ := h
  refine DL.takeK (listed' := #[true, true, true, true, false, false, false, false, false, false, false, false, false, false, false]) (v := .pointer x18) 3 rfl rfl (by kernel_rfl) (by kernel_rfl) rfl trivial rfl hx15 (fun w_ hS_ K_ h_ => OpW.load1 (v := .pointer x18) one_31 rfl (hS_.cell h1) h_) ?_
  refine DL.takeP (listed' := #[true, true, true, true, true, false, false, false, false, false, false, false, false, false, false]) (v := .pointer p0) 4 rfl rfl (by kernel_rfl) rfl trivial rfl (fun w_ K_ h_ => OpW.move (v := .pointer p0) rfl h_) ?_
  obtain ⟨a19, ha20, h⟩ := h
  refine DL.takeP (listed' := #[true, true, true, true, true, true, false, false, false, false, false, false, false, false, false]) (v := .pointer (some a19)) 5 rfl rfl (by kernel_rfl) rfl trivial rfl (fun w_ K_ h_ => OpW.nilCheck (a := a19) (congrArg Value.pointer ha20) h_) ?_
  refine DL.takeP (listed' := #[true, true, true, true, true, true, true, false, false, false, false, false, false, false, false]) (v := .pointer (some (Addr.add a19 1))) 6 rfl rfl (by kernel_rfl) rfl trivial rfl (fun w_ K_ h_ => OpW.fieldAddr field_95_1 rfl h_) ?_
  obtain ⟨x21, h1, h⟩ := h
  refine DL.takeK (listed' := #[true, true, true, true, true, true, true, true, false, false, false, false, false, false, false]) (v := .int .i64 x21) 7 rfl rfl (by kernel_rfl) (by kernel_rfl) rfl trivial rfl hx15 (fun w_ hS_ K_ h_ => OpW.load1 (v := .int .i64 x21) one_3 rfl (hS_.cell h1) h_) ?_
  refine DL.takeP (listed' := #[true, true, true, true, true, true, true, true, true, false, false, false, false, false, false]) (v := .int .u64 p1) 8 rfl rfl (by kernel_rfl) rfl trivial rfl (fun w_ K_ h_ => OpW.move (v := .int .u64 p1) rfl h_) ?_
  refine DL.takeP (listed' := #[true, true, true, true, true, true, true, true, true, true, false, false, false, false, false]) (v := .int .u64 (Int.tmod p1 2)) 9 rfl rfl (by kernel_rfl) rfl trivial rfl (fun w_ K_ h_ => OpW.quo (a := p1) (b := 2) (v := .int .u64 (Int.tmod p1 2)) rfl rfl (by decide) rfl h_) ?_
  refine DL.takeP (listed' := #[true, true, true, true, true, true, true, true, true, true, true, false, false, false, false]) (v := .int .i64 (IntKind.i64.wrap (Int.tmod p1 2))) 10 rfl rfl (by kernel_rfl) rfl trivial rfl (fun w_ K_ h_ => OpW.convInt (a := (Int.tmod p1 2)) int_25 int_3 rfl h_) ?_
  refine DL.takeP (listed' := #[true, true, true, true, true, true, true, true, true, true, true, true, false, false, false]) (v := .int .i64 (IntKind.i64.wrap (x21 + (IntKind.i64.wrap (Int.tmod p1 2))))) 11 rfl rfl (by kernel_rfl) rfl trivial rfl (fun w_ K_ h_ => OpW.bin (k := .i64) (a := x21) (b := (IntKind.i64.wrap (Int.tmod p1 2))) (v := .int .i64 (IntKind.i64.wrap (x21 + (IntKind.i64.wrap (Int.tmod p1 2))))) rfl rfl rfl h_) ?_
  refine DL.takeP (listed' := #[true, true, true, true, true, true, true, true, true, true, true, true, true, false, false]) (v := Sl.v x3) 12 rfl rfl (by kernel_rfl) rfl trivial rfl (fun w_ K_ h_ => OpW.move (v := Sl.v x3) rfl h_) ?_
  refine DL.execS (listed' := #[true, true, true, true, true, true, true, true, true, true, true, true, true, true, false]) 13 rfl (by kernel_rfl) rfl trivial rfl (OpW.callR (al := [.pointer x18, .int .i64 (IntKind.i64.wrap (x21 + (IntKind.i64.wrap (Int.tmod p1 2)))), Sl.v x3]) Try.func33 fb_33 fn_33 rfl h (fun x22 w23 h => ?_))
  refine ⟨(fun h_ => absurd h_ (by decide)), ?_⟩
  refine DL.takeP (listed' := #[true, true, true, true, true, true, true, true, true, true, true, true, true, true, true]) (v := .int .i64 x22) 14 rfl rfl (by kernel_rfl) rfl trivial rfl (fun w_ K_ h_ => OpW.assign (v := .int .i64 x22) rfl h_) ?_
  refine DL.done (by kernel_rfl) ?_
  refine jn_elim h ?_; clear h; intro k43 hk44 h
  refine CW.seqJ (A := Int) (fun s31 ρ => ρ 8 = .int .i64 s31 ∧ ρ 0 = .pointer p0 ∧ ρ 1 = .int .u64 p1) k43 ?_ ?_
  · rintro s31 ρ w32 ⟨e33, e34, e35⟩ h
    subst hk44
    refine CW.seq ?_
    refine CW.seq ?_
    refine CW.region ?_
    refine RL.opS trivial rfl (OpW.move (v := .int .i64 s31) e33 ?_)
    refine RL.opS trivial rfl (OpW.bin (k := .i64) (a := s31) (b := 0) (v := .bool (!decide (s31 = 0))) rfl rfl rfl ?_)
    refine RL.nil ?_
    obtain ⟨ha, hc⟩ := h
    refine CW.cond (b := (!decide (s31 = 0))) rfl (fun hb36 => ?_) (fun hb36 => ?_)
    · have h := ha hb36; clear ha hc
      refine CW.seq ?_
      refine CW.region ?_
      refine RL.opS trivial rfl (OpW.move (v := .pointer p0) e34 ?_)
      obtain ⟨a37, ha38, h⟩ := h
      refine RL.opS trivial rfl (OpW.nilCheck (a := a37) (congrArg Value.pointer ha38) ?_)
      refine RL.opS trivial rfl (OpW.fieldAddr field_95_6 rfl ?_)
      obtain ⟨u_, h1, h2, h⟩ := h
      obtain ⟨w39, hw39_⟩ : ∃ w_, w_ = w32.setCell (Addr.add a37 6) (.bool true) := ⟨_, rfl⟩
      have h := h w39 hw39_
      refine RL.opN trivial (OpW.store1E (v := .bool true) size_4 rfl rfl rfl h1 h2 hw39_ ?_)
      refine RL.nil ?_
      refine CW.seq ?_
      refine CW.region ?_
      refine RL.opS trivial rfl (OpW.move (v := .int .i64 s31) e33 ?_)
      refine RL.opS trivial rfl (OpW.assign (v := .int .i64 s31) rfl ?_)
      refine RL.nil ?_
      refine CW.ret ?_
      exact ret_intro (res1 rfl rfl) ⟨s31, rfl, h⟩
    · have h := hc hb36; clear ha hc
      refine CW.skip ?_
      refine CW.seq ?_
      refine CW.region ?_
      refine RL.opS trivial rfl (OpW.move (v := .pointer p0) e34 ?_)
      refine RL.opS trivial rfl (OpW.move (v := .int .u64 p1) e35 ?_)
      obtain ⟨a40, ha41, h⟩ := h
      refine RL.opS trivial rfl (OpW.nilCheck (a := a40) (congrArg Value.pointer ha41) ?_)
      refine RL.opS trivial rfl (OpW.fieldAddr field_95_3 rfl ?_)
      obtain ⟨u_, h1, h2, h⟩ := h
      obtain ⟨w42, hw42_⟩ : ∃ w_, w_ = w32.setCell (Addr.add a40 3) (.int .u64 p1) := ⟨_, rfl⟩
      have h := h w42 hw42_
      refine RL.opN trivial (OpW.store1E (v := .int .u64 p1) size_25 rfl rfl rfl h1 h2 hw42_ ?_)
      refine RL.nil ?_
      refine CW.seq ?_
      refine CW.region ?_
      refine RL.opS trivial rfl (OpW.assign (v := .int .i64 0) rfl ?_)
      refine RL.nil ?_
      refine CW.ret ?_
      exact ret_intro (res1 rfl rfl) ⟨0, rfl, h⟩
  · clear hk44
    refine CW.seq ?_
    refine CW.region ?_
    refine RL.opS trivial rfl (OpW.move (v := .int .i64 x22) rfl ?_)
    refine RL.opS trivial rfl (OpW.bin (k := .i64) (a := x22) (b := 0) (v := .bool (decide (x22 = 0))) rfl rfl rfl ?_)
    refine RL.nil ?_
    obtain ⟨ha, hc⟩ := h
    refine CW.cond (b := (decide (x22 = 0))) rfl (fun hb25 => ?_) (fun hb25 => ?_)
    · have h := ha hb25; clear ha hc
      refine CW.region ?_
      refine RL.opS trivial rfl (OpW.move (v := .pointer p0) rfl ?_)
      obtain ⟨a26, ha27, h⟩ := h
      refine RL.opS trivial rfl (OpW.nilCheck (a := a26) (congrArg Value.pointer ha27) ?_)
      refine RL.opS trivial rfl (OpW.fieldAddr (off := 0) field_95_0 rfl ?_)
      obtain ⟨x28, h1, h⟩ := h
      refine RL.opS trivial rfl (OpW.load1 (v := .pointer x28) one_31 rfl h1 ?_)
      refine RL.opS trivial rfl (OpW.callR (al := [.pointer x28]) Try.func34 fb_34 fn_34 rfl h (fun x29 w30 h => ?_))
      refine RL.opS trivial rfl (OpW.assign (v := .int .i64 x29) rfl ?_)
      refine RL.nil ?_
      exact ⟨x29, ⟨rfl, rfl, rfl⟩, h⟩
    · have h := hc hb25; clear ha hc
      refine CW.skip ?_
      exact ⟨x22, ⟨rfl, rfl, rfl⟩, h⟩
end Go.Proofs.Ytagkcbbbdlmcjaa
end
section
/- The journal in memory; a head that is written; room, length, what is broken; an emptying. -/
set_option linter.unusedVariables false
set_option linter.unusedSimpArgs false
namespace Go.Proofs.Ytagkcbbbdlmcjaa
open Go.Lift Go.Lift.Disk Go.Lift.Crc Go.Lift.Wal Go.RowKit
def WFoot (pd bb pl : Nat) : Nat → Prop := fun k => Foot pd bb k ∨ k = pl
abbrev logC (pd frm room seq : Nat) (sd : Sl) (count : Nat) (broken : Bool) : List Value :=
  [.pointer (dp pd), .int .i64 (frm : Int), .int .i64 (room : Int), .int .u64 (seq : Int), sd.v, .int .i64 (count : Int), .bool broken]
structure LgWf (L : Lg) (frm room : Nat) : Prop where
  hfrm : frm ≤ 4096
  hroom : room ≤ 2097152
  hseq : L.seq ≤ last
  hdata : L.data.length ≤ room
  hcount : L.count ≤ L.data.length
structure WX (w : World) (lo : Nat → Prop) (pd bb pl frm room g : Nat) (sd : Sl) (D : Dk) (L : Lg) : Prop where
  disk : DAt w (fun k => (lo k ∧ k ≠ pl) ∧ k ≠ g) pd bb D
  log : Blk w pl 95 (logC pd frm room L.seq sd L.count L.broken)
  data : Bytes w sd L.data
  cap : sd.len ≤ sd.cap
  nil : sd.a = none → sd.len = 0 ∧ sd.cap = 0
  row : ∀ a, sd.a = some a → a.block = g ∧ g ≠ pl ∧ lo g
  glt : g < w.heap.size
  lopl : lo pl
  wf : LgWf L frm room
def WAt (w : World) (lo : Nat → Prop) (pd bb pl frm room : Nat) (D : Dk) (L : Lg) : Prop := ∃ g sd, WX w lo pd bb pl frm room g sd D L
section
variable {w w' : World} {lo : Nat → Prop} {pd bb pl frm room g : Nat} {sd : Sl} {D : Dk} {L : Lg}
theorem WX.fr {X : Nat → Prop} (h : WX w lo pd bb pl frm room g sd D L) (hf : Fr X w w') (hX : ∀ k, lo k → ¬ X k) : WX w' lo pd bb pl frm room g sd D L :=
  ⟨h.disk.fr hf fun k hk => hX k hk.1.1, h.log.fr hf (hX pl h.lopl), hf.bytes (fun a ha => by obtain ⟨e1, _, e3⟩ := h.row a ha; rw [e1]; exact hX g e3) h.data, h.cap, h.nil, h.row, Nat.lt_of_lt_of_le h.glt hf.size, h.lopl, h.wf⟩
theorem WX.ext (h : WX w lo pd bb pl frm room g sd D L) (hf : Ext w w') : WX w' lo pd bb pl frm room g sd D L :=
  h.fr (X := fun _ => False) (Fr.of hf) (fun _ _ h => h)
theorem WAt.ext (h : WAt w lo pd bb pl frm room D L) (hf : Ext w w') : WAt w' lo pd bb pl frm room D L := by
  obtain ⟨g, sd, h⟩ := h
  exact ⟨g, sd, h.ext hf⟩
theorem WX.lt (h : WX w lo pd bb pl frm room g sd D L) : pl < w.heap.size ∧ pd < w.heap.size ∧ bb < w.heap.size ∧ ¬ Foot pd bb pl ∧ ¬ Foot pd bb g := by
  obtain ⟨h1, h2, h3, h4⟩ := h.disk.lt
  refine ⟨h.log.lt, h3, h4, ?_, ?_⟩
  · rintro (e | e)
    · exact h1.1.2 e.symm
    · exact h2.1.2 e.symm
  · rintro (e | e)
    · exact h1.2 e.symm
    · exact h2.2 e.symm
theorem WAt.disk (h : WAt w lo pd bb pl frm room D L) : DAt w lo pd bb D := by
  obtain ⟨g, sd, h⟩ := h
  exact h.disk.mono fun k _ hk => hk.1.1
theorem WAt.wf (h : WAt w lo pd bb pl frm room D L) : LgWf L frm room := by
  obtain ⟨g, sd, h⟩ := h
  exact h.wf
theorem WAt.lt (h : WAt w lo pd bb pl frm room D L) : lo pl ∧ lo pd ∧ lo bb ∧ pl < w.heap.size ∧ pd < w.heap.size ∧ bb < w.heap.size := by
  obtain ⟨g, sd, h⟩ := h
  obtain ⟨a, b, c, _⟩ := h.lt
  obtain ⟨d, e, _⟩ := h.disk.lt
  exact ⟨h.lopl, d.1.1, e.1.1, a, b, c⟩
abbrev lp (pl : Nat) : Option Addr := some ⟨pl, 0, none⟩
theorem room_ok (h : WAt w lo pd bb pl frm room D L) : Calls Try.prog 17 #[.pointer (lp pl)] w (Ret r17 fun x w' => x = (room : Int) - (L.data.length : Int) ∧ Ext w w') := by
  obtain ⟨g, sd, h⟩ := h
  apply s17_calls
  refine ⟨fun h => absurd h (by simp), fun _ => ?_⟩
  intro w2 hw2
  have hx2 : Ext w w2 := by subst hw2; exact Ext.drew _
  refine ⟨_, rfl, (room : Int), by rw [add_plain]; exact h.log.cell rfl, _, rfl, sd, by rw [add_plain]; exact h.log.cell rfl, ?_, hx2⟩
  have h1 := h.data.1
  have h2 := h.wf.hroom
  have h3 := h.wf.hdata
  rw [w64_eq (by omega) (by omega)]
  omega
theorem len_ok (h : WAt w lo pd bb pl frm room D L) : Calls Try.prog 22 #[.pointer (lp pl)] w (Ret r22 fun x w' => x = (L.count : Int) ∧ w = w') := by
  obtain ⟨g, sd, h⟩ := h
  apply s22_calls
  refine ⟨fun h => absurd h (by simp), fun _ => ?_⟩
  exact ⟨_, rfl, (L.count : Int), by rw [add_plain]; exact h.log.cell rfl, rfl, rfl⟩
theorem broken_ok (h : WAt w lo pd bb pl frm room D L) : Calls Try.prog 46 #[.pointer (lp pl)] w (Ret r46 fun x w' => x = L.broken ∧ w = w') := by
  obtain ⟨g, sd, h⟩ := h
  apply s46_calls
  refine jn_of fun k hk => ⟨fun h => absurd h (by simp), fun _ => ?_⟩
  refine ⟨_, rfl, L.broken, by rw [add_plain]; exact h.log.cell rfl, ?_⟩
  rw [hk]
  exact ⟨rfl, rfl⟩
theorem room_nil (w : World) : Calls Try.prog 17 #[.pointer none] w (Ret r17 fun x w' => x = 0 ∧ w = w') := by
  apply s17_calls
  exact ⟨fun _ => ⟨rfl, rfl⟩, fun h => absurd h (by simp)⟩
theorem len_nil (w : World) : Calls Try.prog 22 #[.pointer none] w (Ret r22 fun x w' => x = 0 ∧ w = w') := by
  apply s22_calls
  exact ⟨fun _ => ⟨rfl, rfl⟩, fun h => absurd h (by simp)⟩
theorem broken_nil (w : World) : Calls Try.prog 46 #[.pointer none] w (Ret r46 fun x w' => x = true ∧ w = w') := by
  apply s46_calls
  refine jn_of fun k hk => ⟨fun _ => ?_, fun h => absurd h (by simp)⟩
  rw [hk]
  exact ⟨rfl, rfl⟩
end
/-- how much may still be done to a disk -/
def Bnd (D : Dk) (k : Nat) : Prop := D.changes + k < 1000000000 ∧ D.pend.length + k < 1000000
theorem crash_size (D : Dk) (f : Fall) : (D.crash f).changes = D.changes ∧ (D.crash f).pend.length ≤ D.pend.length := by
  unfold Dk.crash
  split
  · exact ⟨rfl, Nat.le_refl _⟩
  · exact ⟨rfl, Nat.zero_le _⟩
theorem strike_size (D : Dk) : D.strike.1.changes = D.changes + 1 ∧ D.strike.1.pend.length ≤ D.pend.length := by
  cases hf : D.falls.find? (fun f => f.1 == (D.changes : Int)) with
  | none => rw [strike_none hf]; exact ⟨rfl, Nat.le_refl _⟩
  | some f => rw [strike_some hf]; exact crash_size (Dk.tick D) f
theorem Bnd.write {D : Dk} {k : Nat} (h : Bnd D (k + 1)) (i : Int) (b : List UInt8) : Bnd (D.write i b).1 k := by
  obtain ⟨h1, h2⟩ := h
  unfold Dk.write
  split
  · exact ⟨by show D.changes + k < _; omega, by show D.pend.length + k < _; omega⟩
  · split
    · exact ⟨by show D.changes + k < _; omega, by show D.pend.length + k < _; omega⟩
    · obtain ⟨a, b⟩ := strike_size (D.put i.toNat b)
      have e1 : (D.put i.toNat ‹List UInt8›).changes = D.changes := rfl
      have e2 : (D.put i.toNat ‹List UInt8›).pend.length = D.pend.length + 1 := by unfold Dk.put; simp
      exact ⟨by omega, by omega⟩
theorem Bnd.flush {D : Dk} {k : Nat} (h : Bnd D (k + 1)) : Bnd D.flush.1 k := by
  obtain ⟨h1, h2⟩ := h
  unfold Dk.flush
  split
  · exact ⟨by show D.changes + k < _; omega, by show D.pend.length + k < _; omega⟩
  · obtain ⟨a, b⟩ := strike_size D
    split
    · exact ⟨by omega, by omega⟩
    · exact ⟨by show D.strike.1.changes + k < _; omega, by show 0 + k < _; omega⟩
theorem Bnd.mono {D : Dk} {k m : Nat} (h : Bnd D k) (hm : m ≤ k) : Bnd D m := ⟨by have := h.1; omega, by have := h.2; omega⟩
theorem Bnd.head {D : Dk} {k : Nat} (h : Bnd D (k + 2)) (frm seq n : Nat) : Bnd (headW D frm seq n).1 k := by
  unfold headW
  split
  · exact (Bnd.write (k := k + 1) h _ _).flush
  · exact (Bnd.write (k := k + 1) h _ _).mono (by omega)

theorem head_ok {w : World} {base : Nat → Prop} {pd bb pl frm room seq0 c : Nat} {sd : Sl} {D : Dk} (h : DAt w base pd bb D) (hpl : ¬ base pl) (hl : Blk w pl 95 (logC pd frm room seq0 sd c false)) (hB : ∀ k, w.heap.size ≤ k → base k)
    (hb : Bnd D 2) (hfrm : frm ≤ 4096) (seq n : Nat) (hs : seq < 9223372036854775808) (hn : n ≤ 1000000000) :
    Calls Try.prog 48 #[.pointer (lp pl), .int .u64 (seq : Int), .int .i64 (n : Int)] w (Ret r48 fun x w' => x = (headW D frm seq n).2 ∧ DAt w' base pd bb (headW D frm seq n).1 ∧
      Blk w' pl 95 (logC pd frm room (if (headW D frm seq n).2 = 0 then seq else seq0) sd c (decide ((headW D frm seq n).2 ≠ 0))) ∧ Fr (WFoot pd bb pl) w w') := by
  apply s48_calls
  obtain ⟨hpd, hbb, hpdl, hbbl⟩ := h.lt
  have hpln : ¬ Foot pd bb pl := by
    rintro (e | e)
    · rw [e] at hpl; exact hpl hpd
    · rw [e] at hpl; exact hpl hbb
  have hpll := hl.lt
  refine ⟨by decide, by decide, by decide, by decide, fun b3 w2 hb3 hw2 => ?_⟩
  have hx2 : Ext w w2 := Ext.new hw2
  have hB2 : Blk w2 b3 5 (u8s (zeros 512)) := by
    unfold zeros
    rw [← zeros_u8']
    exact Blk.new hb3 hw2
  rw [wu64_eq (by omega) (by omega)]
  refine cR_of (half_ok w2 seq n (by omega) (by omega)) ?_
  rintro x4 w5 ⟨ho4, hl4, hx5⟩
  refine cR_of (half_ok w5 n seq (by omega) (by omega)) ?_
  rintro x6 w7 ⟨ho6, hl6, hx7⟩
  intro b8 w9 hb8 hw9
  have hx9 : Ext w7 w9 := Ext.new hw9
  have hp : Parts w9 ⟨some ⟨b8, 0, none⟩, 2, 2⟩ [halfB seq n, halfB n seq] := by
    refine ⟨[x4, x6], rfl, rfl, At.new hb8 hw9, ?_⟩
    intro k s c hs hc
    rcases k with _ | _ | k
    · simp at hs hc
      subst hs; subst hc
      exact ((ho4.ext hx7).ext hx9).bytes
    · simp at hs hc
      subst hs; subst hc
      exact (ho6.ext hx9).bytes
    · simp at hs
  have hfl : [halfB seq n, halfB n seq].flatten = halfB seq n ++ halfB n seq := by simp
  have hfll : (halfB seq n ++ halfB n seq).length = 48 := by rw [List.length_append, halfB_len, halfB_len]
  refine cR_of (concat_ok w9 _ _ hp (by simp) (by rw [hfl, hfll]; decide)) ?_
  rintro x10 w11 ⟨ho10, hl10, hx11⟩
  rw [hfl] at ho10 hl10
  rw [hfll] at hl10
  have hxx := ((hx5.trans hx7).trans hx9).trans hx11
  have hB11 := hB2.ext hxx
  refine cpy_blk (g := b3) (o := 0) (dLen := 512) (dCap := 512) (s := x10) (cs := u8s (halfB seq n ++ halfB n seq)) mk_39 hB11 (by rw [u8s_len, hfll, hl10]; rfl) ho10.at (by rw [u8s_len, u8s_len, hfll, zeros, List.length_replicate]; decide) (u8s_one _) ?_ fun w13 hB13 hf13 => ?_
  · intro hna
    have := bytes_some ho10.bytes (by intro e; rw [e] at hfll; cases hfll)
    exact absurd hna this
  have hsp : splice (u8s (zeros 512)) 0 (u8s (halfB seq n ++ halfB n seq)) = u8s (headB seq n) := by
    unfold splice
    rw [List.take_zero, List.nil_append, u8s_len, hfll, u8s_drop, ← u8s_append]
    unfold zeros headB zeros
    rw [List.drop_replicate, List.append_assoc]
  rw [hsp] at hB13
  have hx13 : Ext w w13 := hf13.ext (hx2.trans hxx) fun k _ e => by rw [e, hb3]; exact Nat.le_refl _
  intro w14 hw14
  have hx14 : Ext w13 w14 := by subst hw14; exact Ext.drew _
  have hl13 := hl.ext hx13
  have hx14' := hx13.trans hx14
  refine ⟨_, rfl, dp pd, by rw [add_plain]; exact hl13.cell rfl, _, rfl, (frm : Int), by rw [add_plain]; exact hl13.cell rfl, ?_⟩
  have e2 : IntKind.i64.wrap ((frm : Int) + IntKind.i64.wrap (Int.tmod (seq : Int) 2)) = ((frm + seq % 2 : Nat) : Int) := by
    rw [Int.tmod_eq_emod_of_nonneg (by omega), w64_eq (x := (seq : Int) % 2) (by omega) (by omega), w64_eq (by omega) (by omega)]; omega
  show cR _ _ _ _ _ _
  rw [e2]
  have hby : Bytes w14 ⟨some ⟨b3, 0, none⟩, 512, 512⟩ (headB seq n) := ⟨by rw [headB_len], (hB13.ext hx14).at (by rw [List.drop_zero, List.take_length])⟩
  refine cR_of (write_ok (h.ext hx14') (by have := hb.1; omega) (by have := hb.2; omega) (fun k hk => hB k (Nat.le_trans hx14'.size hk)) ((frm + seq % 2 : Nat) : Int) _ _ hby) ?_
  rintro x22 w23 ⟨rfl, h23, hf23⟩
  have hbw := Bnd.write (k := 1) hb ((frm + seq % 2 : Nat) : Int) (headB seq n)
  have hl23 := (hl.ext hx14').fr hf23 hpln
  have hF23 : Fr (Foot pd bb) w w23 := (Fr.of hx14').trans hf23
  unfold headW
  generalize D.write ((frm + seq % 2 : Nat) : Int) (headB seq n) = R at h23 hbw ⊢
  refine jn_of fun k1 hk1 => ?_
  have key : ∀ (S : Dk × Int) (w' : World), (if R.2 = 0 then R.1.flush else R) = S → DAt w' base pd bb S.1 → Blk w' pl 95 (logC pd frm room seq0 sd c false) → Fr (Foot pd bb) w w' → k1 S.2 w' := by
    intro S w' hS hD' hl' hF'
    rw [hk1, hS]
    refine ⟨fun hne => ?_, fun he => ?_⟩
    · have hne := nd_t hne
      refine ⟨_, rfl, ?_⟩
      show st1 _ _ _ _
      rw [add_plain]
      refine st1_blk hl' (by simp) fun w39 hB39 hf39 => ?_
      rw [if_neg hne, decide_eq_true hne]
      exact ⟨rfl, hD'.fr hf39 fun k hk e => hpl (by have e : k = pl := e; rw [← e]; exact hk), hB39, (hF'.mono fun k _ hk => .inl hk).trans (hf39.mono fun k _ hk => .inr hk)⟩
    · have he := nd_f he
      refine ⟨_, rfl, ?_⟩
      show st1 _ _ _ _
      rw [add_plain]
      refine st1_blk hl' (by simp) fun w39 hB39 hf39 => ?_
      rw [if_pos he, decide_eq_false (by rw [he]; simp)]
      exact ⟨he.symm, hD'.fr hf39 fun k hk e => hpl (by have e : k = pl := e; rw [← e]; exact hk), hB39, (hF'.mono fun k _ hk => .inl hk).trans (hf39.mono fun k _ hk => .inr hk)⟩
  refine ⟨fun h0 => ?_, fun h0 => ?_⟩
  · have h0 := of_decide_eq_true h0
    refine ⟨_, rfl, dp pd, by rw [add_plain]; exact hl23.cell rfl, ?_⟩
    refine cR_of (flush_ok h23 (by have := hbw.1; omega)) ?_
    rintro x29 w30 ⟨rfl, h30, hf30⟩
    exact key R.1.flush w30 (if_pos h0) h30 (hl23.fr hf30 hpln) (hF23.trans hf30)
  · have h0 := of_decide_eq_false h0
    exact key R w23 (if_neg h0) h23 hl23 hF23

/-! ### an emptying -/
theorem reset_ok {w : World} {lo : Nat → Prop} {pd bb pl frm room : Nat} {D : Dk} {L : Lg} (h : WAt w lo pd bb pl frm room D L) (hlo : ∀ k, w.heap.size ≤ k → lo k) (hb : Bnd D 2) :
    Calls Try.prog 21 #[.pointer (lp pl)] w (Ret r21 fun x w' => x = (resetD D L frm).2.2 ∧ WAt w' lo pd bb pl frm room (resetD D L frm).1 (resetD D L frm).2.1 ∧ Fr (WFoot pd bb pl) w w') := by
  apply s21_calls
  refine cR_of (broken_ok h) ?_
  rintro x1 w2 ⟨rfl, rfl⟩
  unfold resetD
  refine ⟨fun hbr => ?_, fun hbr => ?_⟩
  · rw [if_pos hbr]
    exact ⟨rfl, h, Fr.refl _⟩
  rw [if_neg (by rw [hbr]; simp)]
  obtain ⟨g, sd, h⟩ := h
  have hwf := h.wf
  have hsq := hwf.hseq
  have hrm := hwf.hroom
  have hct := hwf.hcount
  have hdt := hwf.hdata
  have hll : last = 4611686018427387904 := rfl
  obtain ⟨hpll, hpdl, hbbl, hpln, hgn⟩ := h.lt
  have hlog := h.log
  rw [hbr] at hlog
  refine ⟨_, rfl, (L.seq : Int), by rw [add_plain]; exact hlog.cell rfl, ?_⟩
  refine ⟨fun he => ?_, fun he => ?_⟩
  · have he := of_decide_eq_true he
    rw [if_pos (by omega)]
    exact ⟨rfl, ⟨g, sd, h⟩, Fr.refl _⟩
  have he := of_decide_eq_false he
  rw [if_neg (by omega)]
  refine ⟨_, rfl, (L.seq : Int), by rw [add_plain]; exact hlog.cell rfl, ?_⟩
  have e1 : IntKind.u64.wrap ((L.seq : Int) + 1) = ((L.seq + 1 : Nat) : Int) := by rw [wu64_eq (by omega) (by omega)]; omega
  show cR _ _ _ _ _ _
  rw [e1]
  have hgl := h.glt
  refine cR_of (head_ok h.disk (fun hk => hk.1.2 rfl) hlog (fun k hk => ⟨⟨hlo k hk, by omega⟩, by omega⟩) hb hwf.hfrm (L.seq + 1) 0 (by omega) (by decide)) ?_
  rintro x11 w12 ⟨rfl, h12, hl12, hf12⟩
  have hd12 : ∀ a, sd.a = some a → ¬ WFoot pd bb pl a.block := by
    intro a ha
    obtain ⟨e1, e2, _⟩ := h.row a ha
    rw [e1]
    rintro (e | e)
    · exact hgn e
    · exact e2 e
  refine ⟨fun hne => ?_, fun h0 => ?_⟩
  · have hne := nd_t hne
    rw [if_neg hne]
    rw [if_neg hne, decide_eq_true hne] at hl12
    exact ⟨rfl, ⟨g, sd, h12, hl12, hf12.bytes hd12 h.data, h.cap, h.nil, h.row, Nat.lt_of_lt_of_le hgl hf12.size, h.lopl, ⟨hwf.hfrm, hwf.hroom, hwf.hseq, hwf.hdata, hwf.hcount⟩⟩, hf12⟩
  · have h0 := nd_f h0
    rw [if_pos h0]
    rw [if_pos h0, decide_eq_false (by rw [h0]; simp)] at hl12
    refine ⟨_, rfl, ?_⟩
    show st1 _ _ _ _
    rw [add_plain]
    refine st1_blk hl12 (by simp) fun w16 hB16 hf16 => ?_
    refine ⟨_, rfl, ?_⟩
    show st1 _ _ _ _
    rw [add_plain]
    refine st1_blk hB16 (by simp) fun w19 hB19 hf19 => ?_
    have hff := hf16.trans hf19
    refine ⟨rfl, ⟨g, nilSl, h12.fr hff fun k hk e => hk.1.2 e, hB19, ⟨rfl, rfl⟩, Nat.le_refl _, fun _ => ⟨rfl, rfl⟩, (fun a ha => by cases ha), ?_, h.lopl, ⟨hwf.hfrm, hwf.hroom, by show L.seq + 1 ≤ last; omega, Nat.zero_le _, Nat.le_refl _⟩⟩, hf12.trans (hff.mono fun k _ hk => .inr hk)⟩
    exact Nat.lt_of_lt_of_le hgl (Nat.le_trans hf12.size hff.size)
theorem reset_nil (w : World) : Calls Try.prog 21 #[.pointer none] w (Ret r21 fun x w' => x = 3 ∧ w = w') := by
  apply s21_calls
  refine cR_of (broken_nil w) ?_
  rintro x1 w2 ⟨rfl, rfl⟩
  exact ⟨fun _ => ⟨rfl, rfl⟩, fun h => absurd h (by simp)⟩
end Go.Proofs.Ytagkcbbbdlmcjaa
end
section
/- The typed readings of the functions, and that the program meets each: written by gen.py (a program of this session). -/
set_option linter.unusedVariables false
set_option linter.unusedSimpArgs false
namespace Go.Proofs.Ytagkcbbbdlmcjaa
open Go.Lift
set_option maxRecDepth 100000 in
set_option maxHeartbeats 4000000 in
theorem s20_calls (K : Int → World → Prop) (p0 : Option Addr) (p1 : Sl) (w : World) (h : s20 K p0 p1 w) :
    Calls Try.prog 20 #[.pointer p0, Sl.v p1] w (Ret r20 K) := by
  unfold s20 at h
  refine calls_of_CW (n := 133) Try.func20 rfl rfl rfl ?_
  refine CW.seq ?_
  refine CW.region ?_
  refine RL.opS trivial rfl (OpW.assign (v := .int .i64 0) rfl ?_)
  refine RL.nil ?_
  refine CW.seq ?_
  refine CW.seq ?_
  refine CW.region ?_
  refine RL.opS trivial rfl (OpW.move (v := .pointer p0) rfl ?_)
  refine RL.opS trivial rfl (OpW.callR (al := [.pointer p0]) Try.func46 fb_46 fn_46 rfl h (fun x1 w2 h => ?_))
  refine RL.nil ?_
  obtain ⟨ha, hc⟩ := h
  refine CW.cond (b := x1) rfl (fun hb3 => ?_) (fun hb3 => ?_)
  · have h := ha hb3; clear ha hc
    refine CW.seq ?_
    refine CW.region ?_
    refine RL.opS trivial rfl (OpW.assign (v := .int .i64 3) rfl ?_)
    refine RL.nil ?_
    refine CW.ret ?_
    exact ret_intro (res1 rfl rfl) ⟨3, rfl, h⟩
  · have h := hc hb3; clear ha hc
    refine CW.skip ?_
    refine CW.seq ?_
    refine CW.seq ?_
    refine CW.region ?_
    refine RL.opS trivial rfl (OpW.move (v := Sl.v p1) rfl ?_)
    refine RL.opS trivial rfl (OpW.len (s := p1) slice_22 rfl ?_)
    refine RL.opS trivial rfl (OpW.bin (k := .i64) (a := (p1.len : Int)) (b := 0) (v := .bool (decide ((p1.len : Int) = 0))) rfl rfl rfl ?_)
    refine RL.nil ?_
    obtain ⟨ha, hc⟩ := h
    refine CW.cond (b := (decide ((p1.len : Int) = 0))) rfl (fun hb4 => ?_) (fun hb4 => ?_)
    · have h := ha hb4; clear ha hc
      refine CW.seq ?_
      refine CW.region ?_
      refine RL.opS trivial rfl (OpW.assign (v := .int .i64 0) rfl ?_)
      refine RL.nil ?_
      refine CW.ret ?_
      exact ret_intro (res1 rfl rfl) ⟨0, rfl, h⟩
    · have h := hc hb4; clear ha hc
      refine CW.skip ?_
      refine CW.seq ?_
      refine CW.region ?_
      refine RL.opS trivial rfl (OpW.move (v := .pointer p0) rfl ?_)
      obtain ⟨a5, ha6, h⟩ := h
      refine RL.opS trivial rfl (OpW.nilCheck (a := a5) (congrArg Value.pointer ha6) ?_)
      refine RL.opS trivial rfl (OpW.fieldAddr field_95_4 rfl ?_)
      obtain ⟨x7, h1, h⟩ := h
      refine RL.opS trivial rfl (OpW.load1 (v := Sl.v x7) one_39 rfl h1 ?_)
      refine RL.opS trivial rfl (OpW.callR (al := [Sl.v x7]) Try.func53 fb_53 fn_53 rfl h (fun x8 w9 h => ?_))
      refine RL.opS trivial rfl (OpW.assign (v := Sl.v x8) rfl ?_)
      refine RL.nil ?_
      refine CW.seq ?_
      refine CW.seq ?_
      refine CW.region ?_
      refine RL.opS trivial rfl (OpW.move (v := Sl.v p1) rfl ?_)
      refine RL.opS trivial rfl (OpW.len (s := p1) slice_22 rfl ?_)
      refine RL.opS trivial rfl (OpW.move (v := .int .i64 0) rfl ?_)
      refine RL.nil ?_
      refine CW.block ?_
      obtain ⟨I104, mu105, hI, hs⟩ := h
      refine CW.loop (σ := Sl × Int) (fun s10 ρ => ρ 5 = Sl.v s10.1 ∧ ρ 25 = .int .i64 s10.2 ∧ ρ 0 = .pointer p0 ∧ ρ 1 = Sl.v p1 ∧ ρ 23 = Sl.v p1 ∧ ρ 24 = .int .i64 (p1.len : Int)) I104 mu105 (x8, 0) ⟨rfl, rfl, rfl, rfl, rfl, rfl⟩ hI ?_
      rintro s10 ρ w11 ⟨e13, e14, e15, e16, e17, e18⟩ hI
      have h := hs s10 w11 hI
      clear hs hI
      refine CW.seq ?_
      refine CW.region ?_
      refine RL.opS trivial rfl (OpW.bin (k := .i64) (a := s10.2) (b := (p1.len : Int)) (v := .bool (decide (s10.2 < (p1.len : Int)))) e14 e18 rfl ?_)
      refine RL.nil ?_
      refine CW.seq ?_
      obtain ⟨ha, hc⟩ := h
      refine CW.cond (b := (decide (s10.2 < (p1.len : Int)))) rfl (fun hb19 => ?_) (fun hb19 => ?_)
      · have h := ha hb19; clear ha hc
        refine CW.skip ?_
        refine CW.seq ?_
        refine CW.block ?_
        refine CW.seq ?_
        refine CW.region ?_
        obtain ⟨a20_, a20, h1, h2, h3, h4, h⟩ := h
        refine RL.opS trivial rfl (OpW.indexE (a' := a20) slice_22 e17 e14 h1 h2 h3 h4 ?_)
        obtain ⟨x22, h1, h⟩ := h
        refine RL.opS trivial rfl (OpW.load1 (v := Sl.v x22) one_39 rfl h1 ?_)
        refine RL.opS trivial rfl (OpW.assign (v := Sl.v x22) rfl ?_)
        refine RL.nil ?_
        refine CW.seq ?_
        refine CW.seq ?_
        refine CW.region ?_
        refine RL.opS trivial rfl (OpW.move (v := Sl.v x22) rfl ?_)
        refine RL.opS trivial rfl (OpW.len (s := x22) slice_39 rfl ?_)
        refine RL.opS trivial rfl (OpW.move (v := .pointer p0) e15 ?_)
        obtain ⟨a23, ha24, h⟩ := h
        refine RL.opS trivial rfl (OpW.nilCheck (a := a23) (congrArg Value.pointer ha24) ?_)
        refine RL.opS trivial rfl (OpW.fieldAddr field_95_2 rfl ?_)
        obtain ⟨x25, h1, h⟩ := h
        refine RL.opS trivial rfl (OpW.load1 (v := .int .i64 x25) one_3 rfl h1 ?_)
        refine RL.opS trivial rfl (OpW.move (v := Sl.v s10.1) e13 ?_)
        refine RL.opS trivial rfl (OpW.len (s := s10.1) slice_39 rfl ?_)
        refine RL.opS trivial rfl (OpW.bin (k := .i64) (a := x25) (b := (s10.1.len : Int)) (v := .int .i64 (IntKind.i64.wrap (x25 - (s10.1.len : Int)))) rfl rfl rfl ?_)
        refine RL.opS trivial rfl (OpW.bin (k := .i64) (a := (x22.len : Int)) (b := (IntKind.i64.wrap (x25 - (s10.1.len : Int)))) (v := .bool (decide ((IntKind.i64.wrap (x25 - (s10.1.len : Int))) < (x22.len : Int)))) rfl rfl rfl ?_)
        refine RL.nil ?_
        obtain ⟨ha, hc⟩ := h
        refine CW.cond (b := (decide ((IntKind.i64.wrap (x25 - (s10.1.len : Int))) < (x22.len : Int)))) rfl (fun hb26 => ?_) (fun hb26 => ?_)
        · have h := ha hb26; clear ha hc
          refine CW.seq ?_
          refine CW.region ?_
          refine RL.opS trivial rfl (OpW.assign (v := .int .i64 40) rfl ?_)
          refine RL.nil ?_
          refine CW.ret ?_
          exact ret_intro (res1 rfl rfl) ⟨40, rfl, h⟩
        · have h := hc hb26; clear ha hc
          refine CW.skip ?_
          refine CW.region ?_
          refine RL.opS trivial rfl (OpW.move (v := Sl.v s10.1) e13 ?_)
          refine RL.opS trivial rfl (OpW.move (v := Sl.v x22) rfl ?_)
          refine RL.opS trivial rfl (OpW.callR (al := [Sl.v x22]) Try.func54 fb_54 fn_54 rfl h (fun x27 w28 h => ?_))
          obtain ⟨x29, w30, hr_, h⟩ := h
          refine RL.opS trivial rfl (OpW.appendL (v := Sl.v x29) rfl hr_ ?_)
          refine RL.opS trivial rfl (OpW.assign (v := Sl.v x29) rfl ?_)
          refine RL.nil ?_
          refine CW.region ?_
          refine RL.opS trivial rfl (OpW.bin (k := .i64) (a := s10.2) (b := 1) (v := .int .i64 (IntKind.i64.wrap (s10.2 + 1))) e14 rfl rfl ?_)
          refine RL.opS trivial rfl (OpW.move (v := .int .i64 (IntKind.i64.wrap (s10.2 + 1))) rfl ?_)
          refine RL.nil ?_
          exact ⟨(x29, (IntKind.i64.wrap (s10.2 + 1))), ⟨rfl, rfl, e15, e16, e17, e18⟩, h⟩
      · have h := hc hb19; clear ha hc
        refine CW.exit ?_
        refine CW.seq ?_
        refine CW.seq ?_
        refine CW.region ?_
        refine RL.opS trivial rfl (OpW.move (v := Sl.v s10.1) e13 ?_)
        refine RL.opS trivial rfl (OpW.len (s := s10.1) slice_39 rfl ?_)
        refine RL.opS trivial rfl (OpW.move (v := .pointer p0) e15 ?_)
        obtain ⟨a31, ha32, h⟩ := h
        refine RL.opS trivial rfl (OpW.nilCheck (a := a31) (congrArg Value.pointer ha32) ?_)
        refine RL.opS trivial rfl (OpW.fieldAddr field_95_2 rfl ?_)
        obtain ⟨x33, h1, h⟩ := h
        refine RL.opS trivial rfl (OpW.load1 (v := .int .i64 x33) one_3 rfl h1 ?_)
        refine RL.opS trivial rfl (OpW.bin (k := .i64) (a := (s10.1.len : Int)) (b := x33) (v := .bool (decide (x33 < (s10.1.len : Int)))) rfl rfl rfl ?_)
        refine RL.opS trivial rfl (OpW.move (v := .bool (decide (x33 < (s10.1.len : Int)))) rfl ?_)
        refine jn_elim h ?_; clear h; intro k102 hk103 h
        refine RL.joinAt (A := Bool) 6 (fun s39 ρ => ρ 57 = .bool s39 ∧ ρ 0 = .pointer p0 ∧ ρ 1 = Sl.v p1 ∧ ρ 5 = Sl.v s10.1) k102 ?_ ?_
        · rintro s39 ρ w40 ⟨e41, e42, e43, e44⟩ h
          subst hk103
          dsimp only [List.drop]
          refine RL.nil ?_
          obtain ⟨ha, hc⟩ := h
          refine CW.cond (b := s39) e41 (fun hb45 => ?_) (fun hb45 => ?_)
          · have h := ha hb45; clear ha hc
            refine CW.seq ?_
            refine CW.region ?_
            refine RL.opS trivial rfl (OpW.assign (v := .int .i64 40) rfl ?_)
            refine RL.nil ?_
            refine CW.ret ?_
            exact ret_intro (res1 rfl rfl) ⟨40, rfl, h⟩
          · have h := hc hb45; clear ha hc
            refine CW.skip ?_
            refine CW.seq ?_
            refine CW.seq ?_
            refine CW.region ?_
            refine RL.opS trivial rfl (OpW.move (v := .pointer p0) e42 ?_)
            obtain ⟨a46, ha47, h⟩ := h
            refine RL.opS trivial rfl (OpW.nilCheck (a := a46) (congrArg Value.pointer ha47) ?_)
            refine RL.opS trivial rfl (OpW.fieldAddr field_95_4 rfl ?_)
            obtain ⟨x48, h1, h⟩ := h
            refine RL.opS trivial rfl (OpW.load1 (v := Sl.v x48) one_39 rfl h1 ?_)
            refine RL.opS trivial rfl (OpW.len (s := x48) slice_39 rfl ?_)
            refine RL.opS trivial rfl (OpW.quo (a := (x48.len : Int)) (b := 512) (v := .int .i64 (IntKind.i64.wrap (Int.tdiv (x48.len : Int) 512))) rfl rfl (by decide) rfl ?_)
            refine RL.opS trivial rfl (OpW.assign (v := .int .i64 (IntKind.i64.wrap (Int.tdiv (x48.len : Int) 512))) rfl ?_)
            refine RL.nil ?_
            refine CW.block ?_
            obtain ⟨I100, mu101, hI, hs⟩ := h
            refine CW.loop (σ := Int) (fun s49 ρ => ρ 8 = .int .i64 s49 ∧ ρ 0 = .pointer p0 ∧ ρ 1 = Sl.v p1 ∧ ρ 5 = Sl.v s10.1) I100 mu101 (IntKind.i64.wrap (Int.tdiv (x48.len : Int) 512)) ⟨rfl, e42, e43, e44⟩ hI ?_
            rintro s49 ρ w50 ⟨e52, e53, e54, e55⟩ hI
            have h := hs s49 w50 hI
            clear hs hI
            refine CW.seq ?_
            refine CW.seq ?_
            refine CW.region ?_
            refine RL.opS trivial rfl (OpW.move (v := .int .i64 s49) e52 ?_)
            refine RL.opS trivial rfl (OpW.bin (k := .i64) (a := s49) (b := 512) (v := .int .i64 (IntKind.i64.wrap (s49 * 512))) rfl rfl rfl ?_)
            refine RL.opS trivial rfl (OpW.move (v := Sl.v s10.1) e55 ?_)
            refine RL.opS trivial rfl (OpW.len (s := s10.1) slice_39 rfl ?_)
            refine RL.opS trivial rfl (OpW.bin (k := .i64) (a := (IntKind.i64.wrap (s49 * 512))) (b := (s10.1.len : Int)) (v := .bool (decide ((IntKind.i64.wrap (s49 * 512)) < (s10.1.len : Int)))) rfl rfl rfl ?_)
            refine RL.nil ?_
            obtain ⟨ha, hc⟩ := h
            refine CW.cond (b := (decide ((IntKind.i64.wrap (s49 * 512)) < (s10.1.len : Int)))) rfl (fun hb56 => ?_) (fun hb56 => ?_)
            · have h := ha hb56; clear ha hc
              refine CW.skip ?_
              refine CW.seq ?_
              refine CW.block ?_
              refine CW.seq ?_
              refine CW.region ?_
              obtain ⟨h1, h2, h3, h4, h⟩ := h
              obtain ⟨b57, hb57_⟩ : ∃ b_, b_ = w50.heap.size := ⟨_, rfl⟩
              obtain ⟨w58, hw58_⟩ : ∃ w_, w_ = w50.alloc (.cells (List.replicate (Int.toNat 512 * 1) (Value.int .u8 0)).toArray 5) := ⟨_, rfl⟩
              have h := h b57 w58 hb57_ hw58_
              obtain ⟨x59, hx59_⟩ : ∃ s_ : Sl, s_ = ⟨some ⟨b57, 0, none⟩, Int.toNat 512, Int.toNat 512⟩ := ⟨_, rfl⟩
              rw [← hx59_] at h
              refine RL.opS trivial rfl (OpW.makeSliceE mk_39 (by decide) rfl rfl h1 h2 h3 h4 hb57_ hw58_ hx59_ ?_)
              refine RL.opS trivial rfl (OpW.assign (v := Sl.v x59) rfl ?_)
              refine RL.nil ?_
              refine CW.seq ?_
              refine CW.region ?_
              refine RL.opS trivial rfl (OpW.move (v := Sl.v x59) rfl ?_)
              refine RL.opS trivial rfl (OpW.move (v := Sl.v s10.1) e55 ?_)
              refine RL.opS trivial rfl (OpW.move (v := .int .i64 s49) e52 ?_)
              refine RL.opS trivial rfl (OpW.bin (k := .i64) (a := s49) (b := 512) (v := .int .i64 (IntKind.i64.wrap (s49 * 512))) rfl rfl rfl ?_)
              obtain ⟨⟨h1, h2⟩, h⟩ := h
              refine RL.opS trivial rfl (OpW.sliceSl (l := (IntKind.i64.wrap (s49 * 512))) (h := (s10.1.len : Int)) slice_39 rfl ⟨_, rfl⟩ rfl h1 h2 (.inl rfl) ?_)
              obtain ⟨x60, w61, hr_, h⟩ := h
              refine RL.opS trivial rfl (OpW.copyL (v := .int .i64 x60) rfl hr_ ?_)
              refine RL.nil ?_
              refine CW.seq ?_
              obtain ⟨w62, hw62_⟩ : ∃ w_, w_ = w61.drew := ⟨_, rfl⟩
              have h := h w62 hw62_
              have hx63 : Ext w61 w62 := by rw [hw62_]; exact Ext.drew _
              refine CW.draws (m := 14) (listed := #[false, false, false, false, false, false, false, false, false, false, false, false, false, false]) mixed [0, 1, 2, 3, 4, 5, 6, 7, 8, 9, 10, 11, 13] (Ext w61) rfl rfl ?_
              rw [← hw62_]
              refine DL.takeP (listed' := #[true, false, false, false, false, false, false, false, false, false, false, false, false, false]) (v := .pointer p0) 0 rfl rfl (by kernel_rfl) rfl trivial rfl (fun w_ K_ h_ => OpW.move (v := .pointer p0) e53 h_) ?_
              obtain ⟨a64, ha65, h⟩ := h
              refine DL.takeP (listed' := #[true, true, false, false, false, false, false, false, false, false, false, false, false, false]) (v := .pointer (some a64)) 1 rfl rfl (by kernel_rfl) rfl trivial rfl (fun w_ K_ h_ => OpW.nilCheck (a := a64) (congrArg Value.pointer ha65) h_) ?_
              refine DL.takeP (listed' := #[true, true, true, false, false, false, false, false, false, false, false, false, false, false]) (v := .pointer (some (Addr.add a64 0))) 2 rfl rfl (by kernel_rfl) rfl trivial rfl (fun w_ K_ h_ => OpW.fieldAddr (off := 0) field_95_0 rfl h_) ?_
              obtain ⟨x66, h1, h⟩ := h
              refine DL.takeK (listed' := #[true, true, true, true, false, false, false, false, false, false, false, false, false, false]) (v := .pointer x66) 3 rfl rfl (by kernel_rfl) (by kernel_rfl) rfl trivial rfl hx63 (fun w_ hS_ K_ h_ => OpW.load1 (v := .pointer x66) one_31 rfl (hS_.cell h1) h_) ?_
              refine DL.takeP (listed' := #[true, true, true, true, true, false, false, false, false, false, false, false, false, false]) (v := .pointer p0) 4 rfl rfl (by kernel_rfl) rfl trivial rfl (fun w_ K_ h_ => OpW.move (v := .pointer p0) e53 h_) ?_
              obtain ⟨a67, ha68, h⟩ := h
              refine DL.takeP (listed' := #[true, true, true, true, true, true, false, false, false, false, false, false, false, false]) (v := .pointer (some a67)) 5 rfl rfl (by kernel_rfl) rfl trivial rfl (fun w_ K_ h_ => OpW.nilCheck (a := a67) (congrArg Value.pointer ha68) h_) ?_
              refine DL.takeP (listed' := #[true, true, true, true, true, true, true, false, false, false, false, false, false, false]) (v := .pointer (some (Addr.add a67 1))) 6 rfl rfl (by kernel_rfl) rfl trivial rfl (fun w_ K_ h_ => OpW.fieldAddr field_95_1 rfl h_) ?_
              obtain ⟨x69, h1, h⟩ := h
              refine DL.takeK (listed' := #[true, true, true, true, true, true, true, true, false, false, false, false, false, false]) (v := .int .i64 x69) 7 rfl rfl (by kernel_rfl) (by kernel_rfl) rfl trivial rfl hx63 (fun w_ hS_ K_ h_ => OpW.load1 (v := .int .i64 x69) one_3 rfl (hS_.cell h1) h_) ?_
              refine DL.takeP (listed' := #[true, true, true, true, true, true, true, true, true, false, false, false, false, false]) (v := .int .i64 (IntKind.i64.wrap (x69 + 2))) 8 rfl rfl (by kernel_rfl) rfl trivial rfl (fun w_ K_ h_ => OpW.bin (k := .i64) (a := x69) (b := 2) (v := .int .i64 (IntKind.i64.wrap (x69 + 2))) rfl rfl rfl h_) ?_
              refine DL.takeP (listed' := #[true, true, true, true, true, true, true, true, true, true, false, false, false, false]) (v := .int .i64 s49) 9 rfl rfl (by kernel_rfl) rfl trivial rfl (fun w_ K_ h_ => OpW.move (v := .int .i64 s49) e52 h_) ?_
              refine DL.takeP (listed' := #[true, true, true, true, true, true, true, true, true, true, true, false, false, false]) (v := .int .i64 (IntKind.i64.wrap ((IntKind.i64.wrap (x69 + 2)) + s49))) 10 rfl rfl (by kernel_rfl) rfl trivial rfl (fun w_ K_ h_ => OpW.bin (k := .i64) (a := (IntKind.i64.wrap (x69 + 2))) (b := s49) (v := .int .i64 (IntKind.i64.wrap ((IntKind.i64.wrap (x69 + 2)) + s49))) rfl rfl rfl h_) ?_
              refine DL.takeP (listed' := #[true, true, true, true, true, true, true, true, true, true, true, true, false, false]) (v := Sl.v x59) 11 rfl rfl (by kernel_rfl) rfl trivial rfl (fun w_ K_ h_ => OpW.move (v := Sl.v x59) rfl h_) ?_
              refine DL.execS (listed' := #[true, true, true, true, true, true, true, true, true, true, true, true, true, false]) 12 rfl (by kernel_rfl) rfl trivial rfl (OpW.callR (al := [.pointer x66, .int .i64 (IntKind.i64.wrap ((IntKind.i64.wrap (x69 + 2)) + s49)), Sl.v x59]) Try.func33 fb_33 fn_33 rfl h (fun x70 w71 h => ?_))
              refine ⟨(fun h_ => absurd h_ (by decide)), ?_⟩
              refine DL.takeP (listed' := #[true, true, true, true, true, true, true, true, true, true, true, true, true, true]) (v := .int .i64 x70) 13 rfl rfl (by kernel_rfl) rfl trivial rfl (fun w_ K_ h_ => OpW.assign (v := .int .i64 x70) rfl h_) ?_
              refine DL.done (by kernel_rfl) ?_
              refine CW.seq ?_
              refine CW.region ?_
              refine RL.opS trivial rfl (OpW.move (v := .int .i64 x70) rfl ?_)
              refine RL.opS trivial rfl (OpW.bin (k := .i64) (a := x70) (b := 0) (v := .bool (!decide (x70 = 0))) rfl rfl rfl ?_)
              refine RL.nil ?_
              obtain ⟨ha, hc⟩ := h
              refine CW.cond (b := (!decide (x70 = 0))) rfl (fun hb72 => ?_) (fun hb72 => ?_)
              · have h := ha hb72; clear ha hc
                refine CW.seq ?_
                refine CW.region ?_
                refine RL.opS trivial rfl (OpW.move (v := .pointer p0) e53 ?_)
                obtain ⟨a73, ha74, h⟩ := h
                refine RL.opS trivial rfl (OpW.nilCheck (a := a73) (congrArg Value.pointer ha74) ?_)
                refine RL.opS trivial rfl (OpW.fieldAddr field_95_6 rfl ?_)
                obtain ⟨u_, h1, h2, h⟩ := h
                obtain ⟨w75, hw75_⟩ : ∃ w_, w_ = w71.setCell (Addr.add a73 6) (.bool true) := ⟨_, rfl⟩
                have h := h w75 hw75_
                refine RL.opN trivial (OpW.store1E (v := .bool true) size_4 rfl rfl rfl h1 h2 hw75_ ?_)
                refine RL.nil ?_
                refine CW.seq ?_
                refine CW.region ?_
                refine RL.opS trivial rfl (OpW.move (v := .int .i64 x70) rfl ?_)
                refine RL.opS trivial rfl (OpW.assign (v := .int .i64 x70) rfl ?_)
                refine RL.nil ?_
                refine CW.ret ?_
                exact ret_intro (res1 rfl rfl) ⟨x70, rfl, h⟩
              · have h := hc hb72; clear ha hc
                refine CW.skip ?_
                refine CW.region ?_
                refine RL.opS trivial rfl (OpW.move (v := .int .i64 s49) e52 ?_)
                refine RL.opS trivial rfl (OpW.bin (k := .i64) (a := s49) (b := 1) (v := .int .i64 (IntKind.i64.wrap (s49 + 1))) rfl rfl rfl ?_)
                refine RL.opS trivial rfl (OpW.assign (v := .int .i64 (IntKind.i64.wrap (s49 + 1))) rfl ?_)
                refine RL.nil ?_
                exact ⟨(IntKind.i64.wrap (s49 + 1)), ⟨rfl, e53, e54, e55⟩, h⟩
            · have h := hc hb56; clear ha hc
              refine CW.exit ?_
              refine CW.seq ?_
              refine CW.seq ?_
              refine CW.region ?_
              refine RL.opS trivial rfl (OpW.move (v := .pointer p0) e53 ?_)
              obtain ⟨a76, ha77, h⟩ := h
              refine RL.opS trivial rfl (OpW.nilCheck (a := a76) (congrArg Value.pointer ha77) ?_)
              refine RL.opS trivial rfl (OpW.fieldAddr (off := 0) field_95_0 rfl ?_)
              obtain ⟨x78, h1, h⟩ := h
              refine RL.opS trivial rfl (OpW.load1 (v := .pointer x78) one_31 rfl h1 ?_)
              refine RL.opS trivial rfl (OpW.callR (al := [.pointer x78]) Try.func34 fb_34 fn_34 rfl h (fun x79 w80 h => ?_))
              refine RL.opS trivial rfl (OpW.assign (v := .int .i64 x79) rfl ?_)
              refine RL.nil ?_
              refine CW.seq ?_
              refine CW.region ?_
              refine RL.opS trivial rfl (OpW.move (v := .int .i64 x79) rfl ?_)
              refine RL.opS trivial rfl (OpW.bin (k := .i64) (a := x79) (b := 0) (v := .bool (!decide (x79 = 0))) rfl rfl rfl ?_)
              refine RL.nil ?_
              obtain ⟨ha, hc⟩ := h
              refine CW.cond (b := (!decide (x79 = 0))) rfl (fun hb81 => ?_) (fun hb81 => ?_)
              · have h := ha hb81; clear ha hc
                refine CW.seq ?_
                refine CW.region ?_
                refine RL.opS trivial rfl (OpW.move (v := .pointer p0) e53 ?_)
                obtain ⟨a82, ha83, h⟩ := h
                refine RL.opS trivial rfl (OpW.nilCheck (a := a82) (congrArg Value.pointer ha83) ?_)
                refine RL.opS trivial rfl (OpW.fieldAddr field_95_6 rfl ?_)
                obtain ⟨u_, h1, h2, h⟩ := h
                obtain ⟨w84, hw84_⟩ : ∃ w_, w_ = w80.setCell (Addr.add a82 6) (.bool true) := ⟨_, rfl⟩
                have h := h w84 hw84_
                refine RL.opN trivial (OpW.store1E (v := .bool true) size_4 rfl rfl rfl h1 h2 hw84_ ?_)
                refine RL.nil ?_
                refine CW.seq ?_
                refine CW.region ?_
                refine RL.opS trivial rfl (OpW.move (v := .int .i64 x79) rfl ?_)
                refine RL.opS trivial rfl (OpW.assign (v := .int .i64 x79) rfl ?_)
                refine RL.nil ?_
                refine CW.ret ?_
                exact ret_intro (res1 rfl rfl) ⟨x79, rfl, h⟩
              · have h := hc hb81; clear ha hc
                refine CW.skip ?_
                refine CW.seq ?_
                refine CW.seq ?_
                refine CW.region ?_
                refine RL.opS trivial rfl (OpW.move (v := .pointer p0) e53 ?_)
                refine RL.opS trivial rfl (OpW.move (v := .pointer p0) e53 ?_)
                obtain ⟨a85, ha86, h⟩ := h
                refine RL.opS trivial rfl (OpW.nilCheck (a := a85) (congrArg Value.pointer ha86) ?_)
                refine RL.opS trivial rfl (OpW.fieldAddr field_95_3 rfl ?_)
                obtain ⟨x87, h1, h⟩ := h
                refine RL.opS trivial rfl (OpW.load1 (v := .int .u64 x87) one_25 rfl h1 ?_)
                refine RL.opS trivial rfl (OpW.bin (k := .u64) (a := x87) (b := 1) (v := .int .u64 (IntKind.u64.wrap (x87 + 1))) rfl rfl rfl ?_)
                refine RL.opS trivial rfl (OpW.move (v := Sl.v s10.1) e55 ?_)
                refine RL.opS trivial rfl (OpW.len (s := s10.1) slice_39 rfl ?_)
                refine RL.opS trivial rfl (OpW.callR (al := [.pointer p0, .int .u64 (IntKind.u64.wrap (x87 + 1)), .int .i64 (s10.1.len : Int)]) Try.func48 fb_48 fn_48 rfl h (fun x88 w89 h => ?_))
                refine RL.opS trivial rfl (OpW.assign (v := .int .i64 x88) rfl ?_)
                refine RL.nil ?_
                refine CW.seq ?_
                refine CW.region ?_
                refine RL.opS trivial rfl (OpW.move (v := .int .i64 x88) rfl ?_)
                refine RL.opS trivial rfl (OpW.bin (k := .i64) (a := x88) (b := 0) (v := .bool (!decide (x88 = 0))) rfl rfl rfl ?_)
                refine RL.nil ?_
                obtain ⟨ha, hc⟩ := h
                refine CW.cond (b := (!decide (x88 = 0))) rfl (fun hb90 => ?_) (fun hb90 => ?_)
                · have h := ha hb90; clear ha hc
                  refine CW.seq ?_
                  refine CW.region ?_
                  refine RL.opS trivial rfl (OpW.move (v := .int .i64 x88) rfl ?_)
                  refine RL.opS trivial rfl (OpW.assign (v := .int .i64 x88) rfl ?_)
                  refine RL.nil ?_
                  refine CW.ret ?_
                  exact ret_intro (res1 rfl rfl) ⟨x88, rfl, h⟩
                · have h := hc hb90; clear ha hc
                  refine CW.skip ?_
                  refine CW.seq ?_
                  refine CW.region ?_
                  refine RL.opS trivial rfl (OpW.move (v := .pointer p0) e53 ?_)
                  refine RL.opS trivial rfl (OpW.move (v := Sl.v s10.1) e55 ?_)
                  obtain ⟨a91, ha92, h⟩ := h
                  refine RL.opS trivial rfl (OpW.nilCheck (a := a91) (congrArg Value.pointer ha92) ?_)
                  refine RL.opS trivial rfl (OpW.fieldAddr field_95_4 rfl ?_)
                  obtain ⟨u_, h1, h2, h⟩ := h
                  obtain ⟨w93, hw93_⟩ : ∃ w_, w_ = w89.setCell (Addr.add a91 4) (Sl.v s10.1) := ⟨_, rfl⟩
                  have h := h w93 hw93_
                  refine RL.opN trivial (OpW.store1E (v := Sl.v s10.1) size_39 rfl rfl rfl h1 h2 hw93_ ?_)
                  refine RL.nil ?_
                  refine CW.seq ?_
                  refine CW.region ?_
                  refine RL.opS trivial rfl (OpW.move (v := .pointer p0) e53 ?_)
                  obtain ⟨a94, ha95, h⟩ := h
                  refine RL.opS trivial rfl (OpW.nilCheck (a := a94) (congrArg Value.pointer ha95) ?_)
                  refine RL.opS trivial rfl (OpW.fieldAddr field_95_5 rfl ?_)
                  obtain ⟨x96, h1, h⟩ := h
                  refine RL.opS trivial rfl (OpW.load1 (v := .int .i64 x96) one_3 rfl h1 ?_)
                  refine RL.opS trivial rfl (OpW.move (v := Sl.v p1) e54 ?_)
                  refine RL.opS trivial rfl (OpW.len (s := p1) slice_22 rfl ?_)
                  refine RL.opS trivial rfl (OpW.bin (k := .i64) (a := x96) (b := (p1.len : Int)) (v := .int .i64 (IntKind.i64.wrap (x96 + (p1.len : Int)))) rfl rfl rfl ?_)
                  obtain ⟨a97, ha98, h⟩ := h
                  refine RL.opS trivial rfl (OpW.nilCheck (a := a97) (congrArg Value.pointer ha98) ?_)
                  refine RL.opS trivial rfl (OpW.fieldAddr field_95_5 rfl ?_)
                  obtain ⟨u_, h1, h2, h⟩ := h
                  obtain ⟨w99, hw99_⟩ : ∃ w_, w_ = w93.setCell (Addr.add a97 5) (.int .i64 (IntKind.i64.wrap (x96 + (p1.len : Int)))) := ⟨_, rfl⟩
                  have h := h w99 hw99_
                  refine RL.opN trivial (OpW.store1E (v := .int .i64 (IntKind.i64.wrap (x96 + (p1.len : Int)))) size_3 rfl rfl rfl h1 h2 hw99_ ?_)
                  refine RL.nil ?_
                  refine CW.seq ?_
                  refine CW.region ?_
                  refine RL.opS trivial rfl (OpW.assign (v := .int .i64 0) rfl ?_)
                  refine RL.nil ?_
                  refine CW.ret ?_
                  exact ret_intro (res1 rfl rfl) ⟨0, rfl, h⟩
        · clear hk103
          dsimp only [List.take]
          obtain ⟨ha, hc⟩ := h
          rcases Bool.eq_false_or_eq_true (decide (x33 < (s10.1.len : Int))) with hb34 | hb34
          · have h := ha hb34; clear ha hc
            refine RL.skipS (notWanted_of rfl rfl hb34) rfl ?_
            refine RL.skipS (notWanted_of rfl rfl hb34) rfl ?_
            refine RL.skipS (notWanted_of rfl rfl hb34) rfl ?_
            refine RL.skipS (notWanted_of rfl rfl hb34) rfl ?_
            refine RL.skipS (notWanted_of rfl rfl hb34) rfl ?_
            refine RL.opS trivial rfl (OpW.pick (b := true) (v := .bool true) (congrArg Value.bool hb34) rfl ?_)
            refine RL.nil ?_
            exact ⟨true, ⟨rfl, e15, e16, e13⟩, h⟩
          · have h := hc hb34; clear ha hc
            refine RL.opS (wanted_of rfl rfl hb34) rfl (OpW.move (v := .pointer p0) e15 ?_)
            obtain ⟨a36, ha37, h⟩ := h
            refine RL.opS (wanted_of rfl rfl hb34) rfl (OpW.nilCheck (a := a36) (congrArg Value.pointer ha37) ?_)
            refine RL.opS (wanted_of rfl rfl hb34) rfl (OpW.fieldAddr field_95_3 rfl ?_)
            obtain ⟨x38, h1, h⟩ := h
            refine RL.opS (wanted_of rfl rfl hb34) rfl (OpW.load1 (v := .int .u64 x38) one_25 rfl h1 ?_)
            refine RL.opS (wanted_of rfl rfl hb34) rfl (OpW.bin (k := .u64) (a := x38) (b := 4611686018427387904) (v := .bool (decide (x38 = 4611686018427387904))) rfl rfl rfl ?_)
            refine RL.opS trivial rfl (OpW.pick (b := false) (v := .bool (decide (x38 = 4611686018427387904))) (congrArg Value.bool hb34) rfl ?_)
            refine RL.nil ?_
            exact ⟨(decide (x38 = 4611686018427387904)), ⟨rfl, e15, e16, e13⟩, h⟩
end Go.Proofs.Ytagkcbbbdlmcjaa
end
section
/- Records are added: all or none of them. -/
set_option linter.unusedVariables false
set_option linter.unusedSimpArgs false
namespace Go.Proofs.Ytagkcbbbdlmcjaa
open Go.Lift Go.Lift.Disk Go.Lift.Crc Go.Lift.Wal Go.RowKit
theorem clone8_ok (w : World) (p : Sl) (bs : List UInt8) (hp : Bytes w p bs) (hn : p.a = none → p.len = 0) (hl : bs.length ≤ 70368744177664) :
    Calls Try.prog 53 #[p.v] w (Ret r53 fun x w' => Own w' w.heap.size 5 1 x (u8s bs) ∧ Ext w w') := by
  by_cases h : p.a = none
  · have h0 := hn h
    have : bs = [] := List.eq_nil_of_length_eq_zero (by rw [hp.1, h0])
    subst this
    apply s53_calls
    refine ⟨fun _ => ?_, fun h' => absurd h' (by rw [h]; simp)⟩
    exact ⟨Own.nil _ _ _ _, Ext.refl _⟩
  · exact cloneB_ok p bs hp h hl
theorem AtO.take {w : World} {a : Option Addr} {cs : List Value} (h : AtO w a cs) (n : Nat) : AtO w a (cs.take n) := by
  cases a with
  | none =>
    have : cs = [] := h
    subst this
    rw [List.take_nil]; rfl
  | some a =>
    intro j v hj
    refine h j v ?_
    rw [List.getElem?_take] at hj
    split at hj
    · exact hj
    · cases hj
theorem padB_len (A : List UInt8) (i : Nat) (h : i * 512 < A.length) : (padB A i).length = 512 := by
  unfold padB sliceB zeros
  simp only [List.length_append, List.length_drop, List.length_take, List.length_replicate]
  omega
theorem gather_len : ∀ (l : List (List UInt8)) (room : Nat) (all : List UInt8) {A : List UInt8}, gather l room all = some A → all.length + l.length ≤ A.length ∧ A.length ≤ room
  | [], room, all, A, h => by
    unfold gather at h
    split at h
    · cases h
    · simp only [Option.some.injEq] at h
      subst h
      simp; omega
  | s :: l, room, all, A, h => by
    unfold gather at h
    split at h
    · cases h
    · have := gather_len l room _ h
      rw [List.length_append, frameB_len] at this
      simp only [List.length_cons]
      omega
theorem Bnd.lay : ∀ (f : Nat) {D : Dk} {k : Nat} (frm : Nat) (A : List UInt8) (i : Nat), Bnd D (k + f) → Bnd (layF f D frm A i).1 k
  | 0, D, k, frm, A, i, h => h
  | f + 1, D, k, frm, A, i, h => by
    unfold layF
    split
    · exact h.mono (by omega)
    · have hw := Bnd.write (k := k + f) h ((frm + 2 + i : Nat) : Int) (padB A i)
      split
      · exact Bnd.lay f _ _ _ hw
      · exact hw.mono (by omega)
theorem add_nil {w : World} (p : Sl) : Calls Try.prog 20 #[.pointer none, p.v] w (Ret r20 fun x w' => x = 3 ∧ w = w') := by
  apply s20_calls
  refine cR_of (broken_nil w) ?_
  rintro x1 w2 ⟨rfl, rfl⟩
  exact ⟨fun _ => ⟨rfl, rfl⟩, fun h => absurd h (by simp)⟩
theorem add_ok {w : World} {lo : Nat → Prop} {pd bb pl frm room : Nat} {D : Dk} {L : Lg} (h : WAt w lo pd bb pl frm room D L) (hlo : ∀ k, w.heap.size ≤ k → lo k) (hb : Bnd D 5000)
    (p : Sl) (l : List (List UInt8)) (hp : Parts w p l) (hl : l.length ≤ 1000000) (hs : ∀ s ∈ l, s.length ≤ 1000000000) :
    Calls Try.prog 20 #[.pointer (lp pl), p.v] w (Ret r20 fun x w' => x = (addD D L frm room l).2.2 ∧ WAt w' lo pd bb pl frm room (addD D L frm room l).1 (addD D L frm room l).2.1 ∧ Fr (WFoot pd bb pl) w w') := by
  apply s20_calls
  have hplen := hp.len
  refine cR_of (broken_ok h) ?_
  rintro x1 w2 ⟨rfl, rfl⟩
  unfold addD
  refine ⟨fun hbr => ?_, fun hbr => ?_⟩
  · rw [if_pos hbr]
    exact ⟨rfl, h, Fr.refl _⟩
  rw [if_neg (by rw [hbr]; simp)]
  refine ⟨fun h0 => ?_, fun h0 => ?_⟩
  · have h0 := of_decide_eq_true h0
    rw [if_pos (List.eq_nil_of_length_eq_zero (by omega))]
    exact ⟨rfl, h, Fr.refl _⟩
  have h0 := of_decide_eq_false h0
  have hlpos : 0 < l.length := by omega
  rw [if_neg (by intro e; rw [e] at hlpos; simp at hlpos)]
  obtain ⟨g, sd, h⟩ := h
  have hwf := h.wf
  have hsq := hwf.hseq
  have hrm := hwf.hroom
  have hct := hwf.hcount
  have hdt := hwf.hdata
  have hll : last = 4611686018427387904 := rfl
  obtain ⟨hpll, hpdl, hbbl, hpln, hgn⟩ := h.lt
  have hgl := h.glt
  have hlog := h.log
  rw [hbr] at hlog
  have hsdl := h.data.1
  refine ⟨_, rfl, sd, by rw [add_plain]; exact hlog.cell rfl, ?_⟩
  refine cR_of (clone8_ok w sd L.data h.data (fun hn => (h.nil hn).1) (by omega)) ?_
  rintro x8 w9 ⟨ho8, hx9⟩
  obtain ⟨G, hG⟩ : ∃ G, G = gather l room L.data := ⟨_, rfl⟩
  rw [← hG]
  refine ⟨fun st w' => ∃ (k : Nat) (A : List UInt8), k ≤ l.length ∧ st.2 = (k : Int) ∧ gather (l.drop k) room A = G ∧ A.length ≤ room + 14 ∧ L.data.length + k ≤ A.length ∧ Own w' w.heap.size 5 1 st.1 (u8s A) ∧ Ext w w',
    fun st _ => l.length - st.2.toNat, ⟨0, L.data, Nat.zero_le _, rfl, hG.symm, by omega, Nat.le_refl _, ho8, hx9⟩, ?_⟩
  rintro ⟨s10, i⟩ w11 ⟨k, A, hk, rfl, hga, hAl, hAk, ho, hx⟩
  simp only at ho ⊢
  have hol := ho.length
  rw [u8s_length] at hol
  have hlog11 := hlog.ext hx
  refine ⟨fun hlt => ?_, fun hge => ?_⟩
  · have hlt : k < l.length := by have := of_decide_eq_true hlt; omega
    obtain ⟨a, sl, ha, hc, hby⟩ := (hp.ext hx).get hlt
    have hbl := hby.1
    have hsk := hs _ (List.getElem_mem hlt)
    rw [List.drop_eq_getElem_cons hlt] at hga
    unfold gather at hga
    refine ⟨a, _, ha, by omega, by omega, rfl, sl, by rw [Int.toNat_natCast, Nat.mul_one]; exact hc, ?_⟩
    refine ⟨_, rfl, (room : Int), by rw [add_plain]; exact hlog11.cell rfl, ?_⟩
    show ifB _ _ _
    rw [w64_eq (by omega) (by omega)]
    refine ⟨fun hno => ?_, fun hyes => ?_⟩
    · have hno := of_decide_eq_true hno
      rw [if_pos (by omega)] at hga
      rw [← hga]
      exact ⟨rfl, ⟨g, sd, h.ext hx⟩, Fr.of hx⟩
    · have hyes := of_decide_eq_false hyes
      rw [if_neg (by omega)] at hga
      refine cR_of (frame_ok w11 sl l[k] hby (by omega)) ?_
      rintro x27 w28 ⟨ho27, hx28⟩
      have hol27 := ho27.length
      rw [u8s_length] at hol27
      have hfl := frameB_len l[k]
      have hnl := (numB_len l[k].length (by omega))
      refine app_ok (base := w.heap.size) mk_39 rfl (by decide) (ho.ext hx28) (news := u8s (frameB l[k])) (by rw [u8s_length]; omega) ho27.at (u8s_one _) (by simp only [maxLen]; omega) (by first | omega | (simp only; omega)) (hx.trans hx28).size ?_
      intro s' w' hl' ho' _ hB'
      rw [w64_eq (by omega) (by omega)]
      refine ⟨⟨k + 1, A ++ frameB l[k], by omega, by omega, hga, by rw [List.length_append]; omega, by rw [List.length_append]; omega, by rw [u8s_append]; exact ho', hB' _ _ (hx.trans hx28) (Nat.le_refl _) (hx.trans hx28).size⟩, by omega⟩
  · have hge : k = l.length := by have := of_decide_eq_false hge; omega
    subst hge
    rw [List.drop_length] at hga
    unfold gather at hga
    refine ⟨_, rfl, (room : Int), by rw [add_plain]; exact hlog11.cell rfl, ?_⟩
    refine jn_of fun k1 hk1 => ?_
    have full : ∀ w', w11 = w' → (A.length > room ∨ L.seq = last) → k1 true w' := by
      rintro w' rfl hor
      rw [hk1]
      refine ⟨fun _ => ?_, fun h => absurd h (by simp)⟩
      rw [← hga]
      by_cases hA : room < A.length
      · rw [if_pos hA]
        exact ⟨rfl, ⟨g, sd, h.ext hx⟩, Fr.of hx⟩
      · rw [if_neg hA]
        simp only
        rw [if_pos (hor.resolve_left (by omega))]
        exact ⟨rfl, ⟨g, sd, h.ext hx⟩, Fr.of hx⟩
    refine ⟨fun hbig => full w11 rfl (.inl (by have := of_decide_eq_true hbig; omega)), fun hfit => ?_⟩
    have hfit : A.length ≤ room := by have := of_decide_eq_false hfit; omega
    refine ⟨_, rfl, (L.seq : Int), by rw [add_plain]; exact hlog11.cell rfl, ?_⟩
    by_cases hsl : L.seq = last
    · show k1 _ w11
      rw [show decide ((L.seq : Int) = 4611686018427387904) = true from decide_eq_true (by omega)]
      exact full w11 rfl (.inr hsl)
    show k1 _ w11
    rw [show decide ((L.seq : Int) = 4611686018427387904) = false from decide_eq_false (by omega)]
    show k1 false w11
    rw [hk1]
    refine ⟨fun h => absurd h (by simp), fun _ => ?_⟩
    rw [if_neg (by omega)] at hga
    rw [← hga]
    simp only
    rw [if_neg hsl]
    refine ⟨_, rfl, sd, by rw [add_plain]; exact hlog11.cell rfl, ?_⟩
    -- the row of all
    obtain ⟨g', rest, hga', hgb', hgB', hcap'⟩ := ho.blk (by omega)
    have hgl' := hgB'.lt
    have hA' : Bytes w11 s10 A := ho.bytes
    have e0 : IntKind.i64.wrap (Int.tdiv (sd.len : Int) 512) = ((L.data.length / 512 : Nat) : Int) := by
      rw [Int.tdiv_eq_ediv_of_nonneg (by omega), w64_eq (by omega) (by omega)]; omega
    rw [e0]
    have h11 : DAt w11 (fun k => ((lo k ∧ k ≠ pl) ∧ k ≠ g) ∧ k ≠ g') pd bb D := (h.disk.mono (base' := fun k => ((lo k ∧ k ≠ pl) ∧ k ≠ g) ∧ k ≠ g') fun k hk hu => ⟨hu, by omega⟩).ext hx
    have hBn : ∀ {w' : World}, w11.heap.size ≤ w'.heap.size → ∀ k, w'.heap.size ≤ k → (((lo k ∧ k ≠ pl) ∧ k ≠ g) ∧ k ≠ g') := by
      intro w' hw k hk
      have := hx.size
      exact ⟨⟨⟨hlo k (by omega), by omega⟩, by omega⟩, by omega⟩
    have hgn' : ¬ Foot pd bb g' := by rintro (e | e) <;> omega
    have hgpl : g' ≠ pl := by omega
    obtain ⟨R, hR⟩ : ∃ R, R = addHead (layF (A.length / 512 + 1) D frm A (L.data.length / 512)) frm (L.seq + 1) A.length := ⟨_, rfl⟩
    rw [← hR]
    -- something fails: what was there stays
    have fails : ∀ (w' : World), R.2 ≠ 0 → DAt w' (fun k => ((lo k ∧ k ≠ pl) ∧ k ≠ g) ∧ k ≠ g') pd bb R.1 → Blk w' pl 95 (logC pd frm room L.seq sd L.count true) → Fr (WFoot pd bb pl) w w' →
        R.2 = (if R.2 = 0 then (R.1, (⟨L.seq + 1, A, L.count + l.length, false⟩ : Lg), (0 : Int)) else (R.1, { L with broken := true }, R.2)).2.2 ∧
          WAt w' lo pd bb pl frm room (if R.2 = 0 then (R.1, (⟨L.seq + 1, A, L.count + l.length, false⟩ : Lg), (0 : Int)) else (R.1, { L with broken := true }, R.2)).1
            (if R.2 = 0 then (R.1, (⟨L.seq + 1, A, L.count + l.length, false⟩ : Lg), (0 : Int)) else (R.1, { L with broken := true }, R.2)).2.1 ∧ Fr (WFoot pd bb pl) w w' := by
      intro w' hne hD' hl' hF'
      rw [if_neg hne]
      refine ⟨rfl, ⟨g, sd, hD'.mono fun k _ hk => hk.1, hl', hF'.bytes ?_ h.data, h.cap, h.nil, h.row, Nat.lt_of_lt_of_le hgl hF'.size, h.lopl, ⟨hwf.hfrm, hwf.hroom, hwf.hseq, hwf.hdata, hwf.hcount⟩⟩, hF'⟩
      intro a ha
      obtain ⟨e1, e2, _⟩ := h.row a ha
      rw [e1]
      rintro (e | e)
      · exact hgn e
      · exact e2 e
    refine ⟨fun st w' => ∃ (f i : Nat) (E : Dk), st = (i : Int) ∧ layF f E frm A i = layF (A.length / 512 + 1) D frm A (L.data.length / 512) ∧ A.length < (i + f) * 512 ∧ i ≤ 5000 ∧ Bnd E (f + 5) ∧
        DAt w' (fun k => ((lo k ∧ k ≠ pl) ∧ k ≠ g) ∧ k ≠ g') pd bb E ∧ Fr (Foot pd bb) w11 w',
      fun st _ => A.length + 512 - st.toNat * 512, ⟨A.length / 512 + 1, L.data.length / 512, D, rfl, rfl, by omega, by omega, hb.mono (by omega), h11, Fr.refl _⟩, ?_⟩
    rintro st w50 ⟨f, i, E, rfl, hlay, hfi, hi5, hbE, hD50, hf50⟩
    have hlog50 := hlog11.fr hf50 hpln
    have hA50 : Bytes w50 s10 A := hf50.bytes (fun a ha => by rw [hga'] at ha; cases ha; exact hgn') hA'
    have hFw : Fr (WFoot pd bb pl) w w50 := (Fr.of hx).trans (hf50.mono fun k _ hk => .inl hk)
    rw [w64_eq (x := (i : Int) * 512) (by omega) (by omega)]
    refine ⟨fun hlt => ?_, fun hge => ?_⟩
    · have hlt : i * 512 < A.length := by have := of_decide_eq_true hlt; omega
      obtain ⟨f, rfl⟩ : ∃ f', f = f' + 1 := ⟨f - 1, by omega⟩
      rw [layF, if_neg (by omega)] at hlay
      have hi6 : i + 1 ≤ 5000 := by omega
      have hq : A.length < (i + 1 + f) * 512 := by
        rw [Nat.add_assoc, Nat.add_comm 1 f]; exact hfi
      have hms : A.length + 512 - (i + 1) * 512 < A.length + 512 - i * 512 := by omega
      refine ⟨by decide, by decide, by decide, by decide, fun b58 w58 hb58 hw58 => ?_⟩
      have hx58 : Ext w50 w58 := Ext.new hw58
      have hB58 : Blk w58 b58 5 (u8s (zeros 512)) := by
        unfold zeros
        rw [← zeros_u8']
        exact Blk.new hb58 hw58
      refine ⟨⟨by omega, by omega⟩, ?_⟩
      have hcut := (hA50.ext hx58).cut (l := i * 512) (e := A.length) (m := s10.cap) (by omega) (by omega) (Nat.le_refl _)
      rw [List.take_length] at hcut
      have ecut : s10.cut 1 ((i : Int) * 512) (s10.len : Int) (s10.cap : Int) = s10.cut 1 ((i * 512 : Nat) : Int) (A.length : Int) (s10.cap : Int) := by
        rw [show (s10.len : Int) = (A.length : Int) by omega, show (i : Int) * 512 = ((i * 512 : Nat) : Int) by omega]
      rw [ecut]
      have hcl := hcut.1
      rw [List.length_drop] at hcl
      have hsa : s10.a ≠ none := by rw [hga']; simp
      have hsq2 : (sliceB A (i * 512) (i * 512 + 512)).length = min (A.length - i * 512) 512 := by simp [sliceB]; omega
      refine cpy_blk (g := b58) (o := 0) (dLen := 512) (dCap := 512) (cs := u8s (sliceB A (i * 512) (i * 512 + 512))) mk_39 hB58 (by rw [u8s_len, hsq2, ← hcl]) ?_ (by rw [u8s_len, u8s_len, hsq2, zeros, List.length_replicate]; omega) (u8s_one _) (fun hn => absurd hn (cut_some hsa)) fun w61 hB61 hf61 => ?_
      · have e : u8s (sliceB A (i * 512) (i * 512 + 512)) = (u8s (A.drop (i * 512))).take 512 := by
          rw [u8s_take]
          unfold sliceB
          rw [List.drop_take]
          congr 2
          omega
        rw [e]
        exact AtO.take hcut.2 512
      have hsp : splice (u8s (zeros 512)) 0 (u8s (sliceB A (i * 512) (i * 512 + 512))) = u8s (padB A i) := by
        unfold splice padB
        rw [List.take_zero, List.nil_append, u8s_len, hsq2, u8s_drop, u8s_append]
        unfold zeros
        rw [List.drop_replicate]
        congr 3
        omega
      rw [hsp] at hB61
      have hx61 : Ext w50 w61 := hf61.ext hx58 fun k _ e => by rw [e, hb58]; exact Nat.le_refl _
      intro w62 hw62
      have hx62 : Ext w61 w62 := by subst hw62; exact Ext.drew _
      have hx62' := hx61.trans hx62
      refine ⟨_, rfl, dp pd, by rw [add_plain]; exact (hlog50.ext hx61).cell rfl, _, rfl, (frm : Int), by rw [add_plain]; exact (hlog50.ext hx61).cell rfl, ?_⟩
      have hfr := hwf.hfrm
      have e2 : IntKind.i64.wrap (IntKind.i64.wrap ((frm : Int) + 2) + (i : Int)) = ((frm + 2 + i : Nat) : Int) := by
        rw [w64_eq (x := (frm : Int) + 2) (by omega) (by omega), w64_eq (by omega) (by omega)]; omega
      show cR _ _ _ _ _ _
      rw [e2]
      have hby : Bytes w62 ⟨some ⟨b58, 0, none⟩, 512, 512⟩ (padB A i) := ⟨by rw [padB_len _ _ hlt], (hB61.ext hx62).at (by rw [List.drop_zero, List.take_length])⟩
      have hs62 := hx62'.size
      refine cR_of (write_ok (hD50.ext hx62') (by have := hbE.1; omega) (by have := hbE.2; omega) (hBn (Nat.le_trans hf50.size hs62)) ((frm + 2 + i : Nat) : Int) _ _ hby) ?_
      rintro x70 w71 ⟨rfl, h71, hf71⟩
      have hf71' : Fr (Foot pd bb) w11 w71 := (hf50.trans (Fr.of hx62')).trans hf71
      have hF71 : Fr (WFoot pd bb pl) w w71 := (Fr.of hx).trans (hf71'.mono fun k _ hk => .inl hk)
      have hbw := Bnd.write (k := f + 5) (hbE.mono (by omega)) ((frm + 2 + i : Nat) : Int) (padB A i)
      generalize hWe : E.write ((frm + 2 + i : Nat) : Int) (padB A i) = W at h71 hbw hlay ⊢
      refine ⟨fun hne => ?_, fun he => ?_⟩
      · have hne := nd_t hne
        rw [if_neg hne] at hlay
        have hRW : R = W := by rw [hR, ← hlay]; unfold addHead; rw [if_pos hne]
        refine ⟨_, rfl, ?_⟩
        show st1 _ _ _ _
        rw [add_plain]
        refine st1_blk (hlog11.fr hf71' hpln) (by simp) fun w75 hB75 hf75 => ?_
        rw [← hRW]
        rw [← hRW] at hne h71
        exact fails w75 hne (h71.fr hf75 fun k hk e => hk.1.1.2 e) hB75 (hF71.trans (hf75.mono fun k _ hk => .inr hk))
      · have he := nd_f he
        rw [if_pos he] at hlay
        have e3 : IntKind.i64.wrap ((i : Int) + 1) = ((i + 1 : Nat) : Int) := by rw [w64_eq (by omega) (by omega)]; omega
        rw [e3]
        exact ⟨⟨f, i + 1, W.1, rfl, hlay, hq, hi6, hbw, h71, hf71'⟩, hms⟩
    · have hge : A.length ≤ i * 512 := by have := of_decide_eq_false hge; omega
      have hlE : layF (A.length / 512 + 1) D frm A (L.data.length / 512) = (E, 0) := by
        rw [← hlay]
        cases f with
        | zero => rfl
        | succ f => rw [layF, if_pos hge]
      refine ⟨_, rfl, dp pd, by rw [add_plain]; exact hlog50.cell rfl, ?_⟩
      refine cR_of (flush_ok hD50 (by have := hbE.1; omega)) ?_
      rintro x79 w80 ⟨rfl, h80, hf80⟩
      have hf80' := hf50.trans hf80
      have hF80 : Fr (WFoot pd bb pl) w w80 := (Fr.of hx).trans (hf80'.mono fun k _ hk => .inl hk)
      have hbF := Bnd.flush (k := 2) (hbE.mono (by omega))
      have hlog80 := hlog11.fr hf80' hpln
      rw [hlE] at hR
      unfold addHead at hR
      rw [if_neg (by simp)] at hR
      simp only at hR
      generalize E.flush = F at h80 hbF hR ⊢
      refine ⟨fun hne => ?_, fun he => ?_⟩
      · have hne := nd_t hne
        rw [if_pos hne] at hR
        refine ⟨_, rfl, ?_⟩
        show st1 _ _ _ _
        rw [add_plain]
        refine st1_blk hlog80 (by simp) fun w84 hB84 hf84 => ?_
        rw [← hR]
        rw [← hR] at hne h80
        exact fails w84 hne (h80.fr hf84 fun k hk e => hk.1.1.2 e) hB84 (hF80.trans (hf84.mono fun k _ hk => .inr hk))
      · have he := nd_f he
        rw [if_neg (by rw [he]; simp)] at hR
        refine ⟨_, rfl, (L.seq : Int), by rw [add_plain]; exact hlog80.cell rfl, ?_⟩
        have e1 : IntKind.u64.wrap ((L.seq : Int) + 1) = ((L.seq + 1 : Nat) : Int) := by rw [wu64_eq (by omega) (by omega)]; omega
        have e4 : (s10.len : Int) = (A.length : Int) := by omega
        show cR _ _ _ _ _ _
        rw [e1, e4]
        refine cR_of (head_ok h80 (fun hk => hk.1.1.2 rfl) hlog80 (hBn hf80'.size) hbF hwf.hfrm (L.seq + 1) A.length (by omega) (by omega)) ?_
        rintro x88 w89 ⟨hx88, h89, hl89, hf89⟩
        have hF89 := hF80.trans hf89
        rw [← hR] at hx88 h89 hl89
        rw [hx88]
        refine ⟨fun hne => ?_, fun h0 => ?_⟩
        · have hne := nd_t hne
          rw [if_neg hne, decide_eq_true hne] at hl89
          exact fails w89 hne h89 hl89 hF89
        · have h0 := nd_f h0
          rw [if_pos h0, decide_eq_false (by rw [h0]; simp)] at hl89
          rw [if_pos h0]
          refine ⟨_, rfl, ?_⟩
          show st1 _ _ _ _
          rw [add_plain]
          refine st1_blk hl89 (by simp) fun w93 hB93 hf93 => ?_
          refine ⟨_, rfl, (L.count : Int), by rw [add_plain]; exact hB93.cell rfl, _, rfl, ?_⟩
          show st1 _ _ _ _
          rw [add_plain]
          refine st1_blk hB93 (by simp) fun w99 hB99 hf99 => ?_
          have hff := hf93.trans hf99
          have e5 : IntKind.i64.wrap ((L.count : Int) + (p.len : Int)) = ((L.count + l.length : Nat) : Int) := by rw [w64_eq (by omega) (by omega)]; omega
          rw [e5] at hB99
          have hFe : Fr (WFoot pd bb pl) w11 w99 := ((hf80'.mono fun k _ hk => .inl hk).trans hf89).trans (hff.mono fun k _ hk => .inr hk)
          refine ⟨rfl, ⟨g', s10, (h89.fr hff fun k hk e => hk.1.1.2 e).mono fun k _ hk => ⟨hk.1.1, hk.2⟩, hB99, hFe.bytes ?_ hA', hcap', ?_, ?_, Nat.lt_of_lt_of_le hgl' hFe.size, h.lopl, ⟨hwf.hfrm, hwf.hroom, by show L.seq + 1 ≤ last; omega, hfit, ?_⟩⟩, (Fr.of hx).trans hFe⟩
          · intro a ha
            rw [hga'] at ha
            cases ha
            rintro (e | e)
            · exact hgn' e
            · exact hgpl e
          · intro hn; rw [hga'] at hn; cases hn
          · intro a ha
            rw [hga'] at ha
            cases ha
            exact ⟨rfl, hgpl, hlo _ hgb'⟩
          · show L.count + l.length ≤ A.length
            omega
end Go.Proofs.Ytagkcbbbdlmcjaa
end
section
/- From a row's reading of the scripts to facts on their cells. -/
set_option linter.unusedVariables false
set_option linter.unusedSimpArgs false
namespace Go.Proofs.Ytagkcbbbdlmcjaa
open Go.Lift Go.Lift.Disk Go.RowKit Go.ChangeShapes Go.WideShapes Go.ChangeAt Go.Deep
/-- falls somewhere -/
structure FallsAt (w : World) (s : Sl) (l : List Fall) : Prop where
  len : s.len = l.length
  cap : s.len ≤ s.cap
  cells : AtO w s.a (fallC l)
  nil : s.a = none → s = nilSl
  keep : ∀ f ∈ l, 0 ≤ f.2.1 ∧ f.2.1 < 18446744073709551616
theorem FallsAt.ext {w w' : World} {s : Sl} {l : List Fall} (h : FallsAt w s l) (hx : Ext w w') : FallsAt w' s l := ⟨h.len, h.cap, Ext.atO hx h.cells, h.nil, h.keep⟩
structure OpA where
  kind : Int
  at_ : Int
  c : UInt8
  s : List UInt8
  long : Bool
  fall : Fall
  fs : Sl
  falls : List Fall
def OpA.cells (o : OpA) : List Value := [.int .i64 o.kind, .int .i64 o.at_, .int .u8 (o.c.toNat : Int), str o.s, .bool o.long, .int .i64 o.fall.1, .int .u64 o.fall.2.1, .int .i64 o.fall.2.2, o.fs.v]
structure OpA.Ok (w : World) (o : OpA) : Prop where
  falls : FallsAt w o.fs o.falls
  keep : 0 ≤ o.fall.2.1 ∧ o.fall.2.1 < 18446744073709551616
  at_ : -9223372036854775808 ≤ o.at_ ∧ o.at_ ≤ 9223372036854775807
structure OpsAt (w : World) (s : Sl) (l : List OpA) : Prop where
  len : s.len = l.length
  cells : AtO w s.a (l.flatMap OpA.cells)
  ok : ∀ o ∈ l, o.Ok w
theorem OpsAt.ext {w w' : World} {s : Sl} {l : List OpA} (h : OpsAt w s l) (hx : Ext w w') : OpsAt w' s l :=
  ⟨h.len, Ext.atO hx h.cells, fun o ho => ⟨(h.ok o ho).falls.ext hx, (h.ok o ho).keep, (h.ok o ho).at_⟩⟩
theorem flatMap_at {α : Type} {n : Nat} (g : α → List Value) (hg : ∀ a, (g a).length = n) : ∀ (l : List α) (k : Nat) (hk : k < l.length), ((l.flatMap g).drop (k * n)).take n = g l[k]
  | a :: l, 0, _ => by
    rw [Nat.zero_mul, List.drop_zero, List.flatMap_cons, List.take_left' (hg a)]
    rfl
  | a :: l, k + 1, hk => by
    have := flatMap_at g hg l k (by simpa using hk)
    rw [List.getElem_cons_succ, ← this, List.flatMap_cons, Nat.succ_mul, Nat.add_comm, ← List.drop_drop, List.drop_left' (hg a)]
theorem flatMap_len {α : Type} {n : Nat} (g : α → List Value) (hg : ∀ a, (g a).length = n) : ∀ l : List α, (l.flatMap g).length = l.length * n
  | [] => by simp
  | a :: l => by rw [List.flatMap_cons, List.length_append, hg, flatMap_len g hg l, List.length_cons, Nat.succ_mul, Nat.add_comm]
theorem OpsAt.get {w : World} {s : Sl} {l : List OpA} (h : OpsAt w s l) {k : Nat} (hk : k < l.length) : ∃ a, s.a = some a ∧ At w (a.add (k * 9)) l[k].cells := by
  have e := flatMap_at OpA.cells (n := 9) (fun _ => rfl) l k hk
  have hl : k * 9 < (l.flatMap OpA.cells).length := by
    rw [flatMap_len OpA.cells (n := 9) (fun _ => rfl)]; omega
  obtain ⟨a, ha, _⟩ := h.cells.some_of (List.getElem?_eq_getElem hl)
  have hc := h.cells
  rw [ha] at hc
  refine ⟨a, ha, ?_⟩
  rw [← e]
  exact At.sub hc _ _
theorem at_rows {w : World} {a : Addr} {n : Nat} (g : Nat → List Value) (hg : ∀ i, (g i).length = n) : ∀ m : Nat, (∀ i, i < m → At w (a.add (i * n)) (g i)) → At w a ((List.range m).flatMap g)
  | 0, _ => fun j v hj => by simp at hj
  | m + 1, h => by
    rw [List.range_succ, List.flatMap_append]
    refine At.app (at_rows g hg m fun i hi => h i (by omega)) ?_
    rw [flatMap_len g hg, List.length_range]
    simpa using h m (by omega)
theorem at_cells {w : World} {base n : Nat} {a : Addr} {cs : List Value} (h : w.cells? base a n = some cs) : At w a cs ∧ cs.length = n := by
  obtain ⟨_, hl, hc⟩ := World.cells?_some h
  refine ⟨fun j v hj => ?_, hl⟩
  have hj2 : j < n := by rw [← hl]; exact (List.getElem?_eq_some_iff.1 hj).1
  rw [hc j hj2]; exact hj
instance : Inhabited Fall := ⟨(0, 0, 0)⟩
instance : Inhabited OpA := ⟨⟨0, 0, 0, [], false, default, nilSl, []⟩⟩
section
variable {H : Type} {enc : TypeId × Value → H} {w : World} {base : Nat} {held : Bool}
theorem int_wf64 {n : Int} (h : (Lit.int .i64 n).wf = true) : -9223372036854775808 ≤ n ∧ n ≤ 9223372036854775807 := by simpa [Lit.wf, IntKind.min, IntKind.max, IntKind.signed, IntKind.bits] using h
theorem int_wfu64 {n : Int} (h : (Lit.int .u64 n).wf = true) : 0 ≤ n ∧ n < 18446744073709551616 := by
  have : 0 ≤ n ∧ n ≤ 18446744073709551615 := by simpa [Lit.wf, IntKind.min, IntKind.max, IntKind.signed, IntKind.bits] using h
  omega
theorem int_wfu8 {n : Int} (h : (Lit.int .u8 n).wf = true) : ∃ c : UInt8, n = (c.toNat : Int) := by
  have : 0 ≤ n ∧ n ≤ 255 := by simpa [Lit.wf, IntKind.min, IntKind.max, IntKind.signed, IntKind.bits] using h
  refine ⟨UInt8.ofNat n.toNat, ?_⟩
  simp
  omega
set_option maxRecDepth 100000 in
theorem open_fall {fuel : Nat} {cs : List Value} {x : DataW H × List MemPlace} (hl : cs.length = 3) (h : DataW.trod enc Try.prog w base (fun _ => true) held fuel 27 cs = some x) : ∃ f : Fall, cs = fallOf f ∧ 0 ≤ f.2.1 ∧ f.2.1 < 18446744073709551616 := by
  obtain ⟨xs, n, _, _, _, hxl, hf⟩ := DataW.trod_struct Try.underlying27 h
  match cs, hl with
  | [c0, c1, c2], _ =>
    have f0 := hf 0 _ rfl
    have f1 := hf 1 _ rfl
    have f2 := hf 2 _ rfl
    rw [List.getElem?_eq_getElem (by rw [hxl]; decide)] at f0 f1 f2
    obtain ⟨n0, e0, _, w0⟩ := DataW.trod_int Try.underlying3 f0
    obtain ⟨n1, e1, _, w1⟩ := DataW.trod_int Try.underlying25 f1
    obtain ⟨n2, e2, _, w2⟩ := DataW.trod_int Try.underlying3 f2
    have c3 : Try.prog.cellsOf 3 = 1 := by kernel_rfl
    have c25 : Try.prog.cellsOf 25 = 1 := by kernel_rfl
    have g0 : ([c0, c1, c2].drop 0).take (Try.prog.cellsOf 3) = _ := e0; clear e0
    have g1 : ([c0, c1, c2].drop 1).take (Try.prog.cellsOf 25) = _ := e1; clear e1
    have g2 : ([c0, c1, c2].drop 2).take (Try.prog.cellsOf 3) = _ := e2; clear e2
    rw [c3] at g0 g2
    rw [c25] at g1
    simp only [List.drop_zero, List.drop_succ_cons, List.take_succ_cons, List.take_zero, List.cons.injEq, and_true] at g0 g1 g2
    subst g0; subst g1; subst g2
    exact ⟨(n0, n1, n2), rfl, int_wfu64 w1⟩
theorem open_falls {fuel : Nat} {cs : List Value} {x : DataW H × List MemPlace} (h : DataW.trod enc Try.prog w base (fun _ => true) held fuel 47 cs = some x) : ∃ s l, cs = [s.v] ∧ FallsAt w s l := by
  have cF : Try.prog.cellsOf 27 = 3 := by kernel_rfl
  rcases open_slice Try.underlying47 h with ⟨rfl, _⟩ | ⟨a, len, cap, m, n, D, Pl, rfl, _, hl, hm, hmm, _, hx⟩
  · exact ⟨nilSl, [], rfl, rfl, Nat.le_refl _, rfl, fun _ => rfl, by simp⟩
  · have hmc : m = cap := by simpa using hmm
    obtain ⟨f, hf⟩ := choose_fn (p := fun i (f : Fall) => At w (a.add (i * 3)) (fallOf f) ∧ 0 ≤ f.2.1 ∧ f.2.1 < 18446744073709551616) (q := fun i => i < len) (fun i hi => by
      obtain ⟨cs', h1, h2⟩ := hx i (by omega)
      rw [cF] at h1
      obtain ⟨h3, h4⟩ := at_cells h1
      obtain ⟨f, rfl, hk⟩ := open_fall h4 h2
      exact ⟨f, h3, hk⟩)
    refine ⟨⟨some a, len, cap⟩, (List.range len).map f, rfl, by simp, hl, ?_, (fun h => absurd h (by simp)), ?_⟩
    · have := at_rows (w := w) (a := a) (n := 3) (fun i => fallOf (f i)) (fun _ => rfl) len fun i hi => (hf i hi).1
      show At w a _
      unfold fallC
      rw [List.flatMap_map]
      exact this
    · intro g hg
      obtain ⟨i, hi, rfl⟩ := List.mem_map.1 hg
      exact (hf i (List.mem_range.1 hi)).2
set_option maxRecDepth 100000 in
theorem open_op {fuel : Nat} {cs : List Value} {x : DataW H × List MemPlace} (hl : cs.length = 9) (h : DataW.trod enc Try.prog w base (fun _ => true) held fuel 65 cs = some x) : ∃ o : OpA, cs = o.cells ∧ o.Ok w := by
  obtain ⟨xs, n, _, _, _, hxl, hf⟩ := DataW.trod_struct Try.underlying65 h
  match cs, hl with
  | [c0, c1, c2, c3, c4, c5, c6, c7, c8], _ =>
    have f0 := hf 0 _ rfl
    have f1 := hf 1 _ rfl
    have f2 := hf 2 _ rfl
    have f3 := hf 3 _ rfl
    have f4 := hf 4 _ rfl
    have f5 := hf 5 _ rfl
    have f6 := hf 6 _ rfl
    rw [List.getElem?_eq_getElem (by rw [hxl]; decide)] at f0 f1 f2 f3 f4 f5 f6
    obtain ⟨n0, e0, _, w0⟩ := DataW.trod_int Try.underlying3 f0
    obtain ⟨n1, e1, _, w1⟩ := DataW.trod_int Try.underlying3 f1
    obtain ⟨n2, e2, _, w2⟩ := DataW.trod_int Try.underlying5 f2
    obtain ⟨n3, e3, _, w3⟩ := DataW.trod_string Try.underlying9 f3
    obtain ⟨n4, e4, _⟩ := DataW.trod_bool Try.underlying4 f4
    have k3 : Try.prog.cellsOf 3 = 1 := by kernel_rfl
    have k5 : Try.prog.cellsOf 5 = 1 := by kernel_rfl
    have k9 : Try.prog.cellsOf 9 = 1 := by kernel_rfl
    have k4 : Try.prog.cellsOf 4 = 1 := by kernel_rfl
    have k27 : Try.prog.cellsOf 27 = 3 := by kernel_rfl
    have k47 : Try.prog.cellsOf 47 = 1 := by kernel_rfl
    have hl5 : (([c0, c1, c2, c3, c4, c5, c6, c7, c8].drop 5).take (Try.prog.cellsOf 27)).length = 3 := by rw [k27]; rfl
    obtain ⟨fl, e5, hk⟩ := open_fall hl5 f5
    obtain ⟨sf, lf, e6, hfs⟩ := open_falls f6
    have g0 : ([c0, c1, c2, c3, c4, c5, c6, c7, c8].drop 0).take (Try.prog.cellsOf 3) = _ := e0; clear e0
    have g1 : ([c0, c1, c2, c3, c4, c5, c6, c7, c8].drop 1).take (Try.prog.cellsOf 3) = _ := e1; clear e1
    have g2 : ([c0, c1, c2, c3, c4, c5, c6, c7, c8].drop 2).take (Try.prog.cellsOf 5) = _ := e2; clear e2
    have g3 : ([c0, c1, c2, c3, c4, c5, c6, c7, c8].drop 3).take (Try.prog.cellsOf 9) = _ := e3; clear e3
    have g4 : ([c0, c1, c2, c3, c4, c5, c6, c7, c8].drop 4).take (Try.prog.cellsOf 4) = _ := e4; clear e4
    have g5 : ([c0, c1, c2, c3, c4, c5, c6, c7, c8].drop 5).take (Try.prog.cellsOf 27) = _ := e5; clear e5
    have g6 : ([c0, c1, c2, c3, c4, c5, c6, c7, c8].drop 8).take (Try.prog.cellsOf 47) = _ := e6; clear e6
    rw [k3] at g0 g1
    rw [k5] at g2
    rw [k9] at g3
    rw [k4] at g4
    rw [k27] at g5
    rw [k47] at g6
    simp only [List.drop_zero, List.drop_succ_cons, List.take_succ_cons, List.take_zero, List.cons.injEq, and_true] at g0 g1 g2 g3 g4 g6
    simp only [fallOf, List.drop_zero, List.drop_succ_cons, List.take_succ_cons, List.take_zero, List.cons.injEq, and_true] at g5
    obtain ⟨g5, g5b, g5c⟩ := g5
    subst g0; subst g1; subst g2; subst g3; subst g4; subst g5; subst g5b; subst g5c; subst g6
    obtain ⟨c, rfl⟩ := int_wfu8 w2
    refine ⟨⟨n0, n1, c, n3.data.toList, n4, fl, sf, lf⟩, ?_, hfs, hk, int_wf64 w1⟩
    simp [OpA.cells]
theorem open_61 {fuel : Nat} {cs : List Value} {x : DataW H × List MemPlace} (h : DataW.trod enc Try.prog w base (fun _ => true) held fuel 61 cs = some x) : ∃ s : Sl, cs = [s.v] ∧ s.len ≤ s.cap ∧ s.cap ≤ maxLen ∧ ∃ l, OpsAt w s l := by
  have cO : Try.prog.cellsOf 65 = 9 := by kernel_rfl
  rcases open_slice Try.underlying61 h with ⟨rfl, _⟩ | ⟨a, len, cap, m, n, D, Pl, rfl, _, hl, hm, hmm, _, hx⟩
  · exact ⟨nilSl, rfl, Nat.le_refl _, Nat.zero_le _, [], rfl, rfl, by simp⟩
  · have hmc : m = cap := by simpa using hmm
    obtain ⟨f, hf⟩ := choose_fn (p := fun i (o : OpA) => At w (a.add (i * 9)) o.cells ∧ o.Ok w) (q := fun i => i < len) (fun i hi => by
      obtain ⟨cs', h1, h2⟩ := hx i (by omega)
      rw [cO] at h1
      obtain ⟨h3, h4⟩ := at_cells h1
      obtain ⟨f, rfl, hk⟩ := open_op h4 h2
      exact ⟨f, h3, hk⟩)
    refine ⟨⟨some a, len, cap⟩, rfl, hl, hm, (List.range len).map f, by simp, ?_, ?_⟩
    · have := at_rows (w := w) (a := a) (n := 9) (fun i => (f i).cells) (fun _ => rfl) len fun i hi => (hf i hi).1
      show At w a _
      rw [List.flatMap_map]
      exact this
    · intro g hg
      obtain ⟨i, hi, rfl⟩ := List.mem_map.1 hg
      exact (hf i (List.mem_range.1 hi)).2
set_option maxRecDepth 100000 in
theorem open_27 {r : Reach} {b0 : Nat} {v : Value} {d : DataW H} {ps : List MemPlace} (hval : Value.okWide Try.prog w r b0 27 v) (h : DataW.Trod enc Try.prog w base (fun _ => true) held 27 v d ps) :
    ∃ f : Fall, v = aggv (fallOf f) ∧ 0 ≤ f.2.1 ∧ f.2.1 < 18446744073709551616 := by
  obtain ⟨cs, rfl, hsz⟩ := okWide_struct Try.underlying27 hval
  obtain ⟨fuel, hf⟩ := h
  have cF : Try.prog.cellsOf 27 = 3 := by kernel_rfl
  have hf' : DataW.trod enc Try.prog w base (fun _ => true) held fuel 27 cs.toList = some (d, ps) := hf
  have hl3 : cs.toList.length = 3 := by rw [Array.length_toList, hsz]; exact cF
  obtain ⟨f, hcs, hk⟩ := open_fall hl3 hf'
  exact ⟨f, by unfold aggv; rw [← hcs], hk⟩
end
end Go.Proofs.Ytagkcbbbdlmcjaa
end
section
/- The typed readings of the functions, and that the program meets each: written by gen.py (a program of this session). -/
set_option linter.unusedVariables false
set_option linter.unusedSimpArgs false
namespace Go.Proofs.Ytagkcbbbdlmcjaa
open Go.Lift
set_option maxRecDepth 100000 in
set_option maxHeartbeats 4000000 in
theorem s30_calls (K : Bool → World → Prop)  (w : World) (h : s30 K  w) :
    Calls Try.prog 30 #[] w (Ret r30 K) := by
  unfold s30 at h
  refine calls_of_CW (n := 56) Try.func30 rfl rfl rfl ?_
  refine CW.seq ?_
  refine CW.region ?_
  refine RL.opS trivial rfl (OpW.assign (v := .bool false) rfl ?_)
  refine RL.nil ?_
  refine CW.seq ?_
  refine CW.region ?_
  refine RL.opS trivial rfl (OpW.callR (al := [.int .i64 2]) Try.func15 fb_15 fn_15 rfl h (fun x1 w2 h => ?_))
  refine RL.opS trivial rfl (OpW.move (v := .tuple #[.pointer x1.1, .int .i64 x1.2]) rfl ?_)
  refine RL.opS trivial rfl (OpW.extract (v := .pointer x1.1) rfl rfl ?_)
  refine RL.opS trivial rfl (OpW.extract (v := .int .i64 x1.2) rfl rfl ?_)
  refine RL.opS trivial rfl (OpW.assign (v := .pointer x1.1) rfl ?_)
  refine RL.opS trivial rfl (OpW.assign (v := .int .i64 x1.2) rfl ?_)
  refine RL.nil ?_
  refine CW.seq ?_
  refine CW.seq ?_
  refine CW.region ?_
  refine RL.opS trivial rfl (OpW.move (v := .pointer x1.1) rfl ?_)
  refine RL.opS trivial rfl (OpW.ptrNil (b := x1.1.isNone) (p := x1.1) ptr_31 rfl rfl rfl ?_)
  refine RL.opS trivial rfl (OpW.move (v := .bool (x1.1.isNone)) rfl ?_)
  refine jn_elim h ?_; clear h; intro k77 hk78 h
  refine RL.joinAt (A := Bool) 3 (fun s5 ρ => ρ 13 = .bool s5 ∧ ρ 1 = .pointer x1.1) k77 ?_ ?_
  · rintro s5 ρ w6 ⟨e7, e8⟩ h
    subst hk78
    dsimp only [List.drop]
    refine RL.opS trivial rfl (OpW.move (v := .bool s5) e7 ?_)
    refine jn_elim h ?_; clear h; intro k75 hk76 h
    refine RL.joinAt (A := Bool) 5 (fun s15 ρ => ρ 19 = .bool s15 ∧ ρ 1 = .pointer x1.1) k75 ?_ ?_
    · rintro s15 ρ w16 ⟨e17, e18⟩ h
      subst hk76
      dsimp only [List.drop]
      refine RL.opS trivial rfl (OpW.move (v := .bool s15) e17 ?_)
      refine jn_elim h ?_; clear h; intro k73 hk74 h
      refine RL.joinAt (A := Bool) 4 (fun s23 ρ => ρ 24 = .bool s23 ∧ ρ 1 = .pointer x1.1) k73 ?_ ?_
      · rintro s23 ρ w24 ⟨e25, e26⟩ h
        subst hk74
        dsimp only [List.drop]
        refine RL.opS trivial rfl (OpW.move (v := .bool s23) e25 ?_)
        refine jn_elim h ?_; clear h; intro k71 hk72 h
        refine RL.joinAt (A := Bool) 5 (fun s33 ρ => ρ 30 = .bool s33 ∧ ρ 1 = .pointer x1.1) k71 ?_ ?_
        · rintro s33 ρ w34 ⟨e35, e36⟩ h
          subst hk72
          dsimp only [List.drop]
          refine RL.nil ?_
          obtain ⟨ha, hc⟩ := h
          refine CW.cond (b := s33) e35 (fun hb37 => ?_) (fun hb37 => ?_)
          · have h := ha hb37; clear ha hc
            refine CW.seq ?_
            refine CW.region ?_
            refine RL.opS trivial rfl (OpW.assign (v := .bool false) rfl ?_)
            refine RL.nil ?_
            refine CW.ret ?_
            exact ret_intro (res1 rfl rfl) ⟨false, rfl, h⟩
          · have h := hc hb37; clear ha hc
            refine CW.skip ?_
            refine CW.seq ?_
            refine CW.region ?_
            refine RL.opS trivial rfl (OpW.move (v := .pointer x1.1) e36 ?_)
            refine RL.opS trivial rfl (OpW.buildL (vs := [(2, .int .i64 2)]) (cs := [Value.int .i64 0, Value.int .u64 0, .int .i64 2]) (by rfl) (fun _ => by kernel_rfl) ?_)
            refine RL.opS trivial rfl (OpW.callR (al := [.pointer x1.1, aggv [Value.int .i64 0, Value.int .u64 0, .int .i64 2]]) Try.func35 fb_35 fn_35 rfl h (fun x38 w39 h => ?_))
            refine RL.nil ?_
            refine CW.seq ?_
            refine CW.seq ?_
            refine CW.region ?_
            refine RL.opS trivial rfl (OpW.move (v := .pointer x1.1) e36 ?_)
            refine RL.opS trivial rfl (OpW.callR (al := [.pointer x1.1]) Try.func38 fb_38 fn_38 rfl h (fun x40 w41 h => ?_))
            refine RL.opS trivial rfl (OpW.not rfl ?_)
            refine RL.opS trivial rfl (OpW.move (v := .bool (!x40)) rfl ?_)
            refine jn_elim h ?_; clear h; intro k69 hk70 h
            refine RL.joinAt (A := Bool) 4 (fun s46 ρ => ρ 41 = .bool s46 ∧ ρ 1 = .pointer x1.1) k69 ?_ ?_
            · rintro s46 ρ w47 ⟨e48, e49⟩ h
              subst hk70
              dsimp only [List.drop]
              refine RL.nil ?_
              obtain ⟨ha, hc⟩ := h
              refine CW.cond (b := s46) e48 (fun hb50 => ?_) (fun hb50 => ?_)
              · have h := ha hb50; clear ha hc
                refine CW.seq ?_
                refine CW.region ?_
                refine RL.opS trivial rfl (OpW.assign (v := .bool false) rfl ?_)
                refine RL.nil ?_
                refine CW.ret ?_
                exact ret_intro (res1 rfl rfl) ⟨false, rfl, h⟩
              · have h := hc hb50; clear ha hc
                refine CW.skip ?_
                refine CW.seq ?_
                refine CW.region ?_
                refine RL.opS trivial rfl (OpW.move (v := .pointer x1.1) e49 ?_)
                refine RL.opS trivial rfl (OpW.callR (al := [.pointer x1.1, .int .i64 1]) Try.func28 fb_28 fn_28 rfl h (fun x51 w52 h => ?_))
                refine RL.opS trivial rfl (OpW.move (v := .tuple #[Sl.v x51.1, .int .i64 x51.2]) rfl ?_)
                refine RL.opS trivial rfl (OpW.extract (v := Sl.v x51.1) rfl rfl ?_)
                refine RL.opS trivial rfl (OpW.extract (v := .int .i64 x51.2) rfl rfl ?_)
                refine RL.opS trivial rfl (OpW.assign (v := Sl.v x51.1) rfl ?_)
                refine RL.opS trivial rfl (OpW.assign (v := .int .i64 x51.2) rfl ?_)
                refine RL.nil ?_
                refine CW.seq ?_
                obtain ⟨w53, hw53_⟩ : ∃ w_, w_ = w52.drew := ⟨_, rfl⟩
                have h := h w53 hw53_
                have hx54 : Ext w52 w53 := by rw [hw53_]; exact Ext.drew _
                refine CW.draws (m := 10) (listed := #[false, false, false, false, false, false, false, false, false, false]) mixed [0, 1, 2, 3, 4, 5, 6, 7, 8, 9] (Ext w52) rfl rfl ?_
                rw [← hw53_]
                refine DL.takeP (listed' := #[true, false, false, false, false, false, false, false, false, false]) (v := .int .i64 x51.2) 0 rfl rfl (by kernel_rfl) rfl trivial rfl (fun w_ K_ h_ => OpW.move (v := .int .i64 x51.2) rfl h_) ?_
                refine DL.takeP (listed' := #[true, true, false, false, false, false, false, false, false, false]) (v := .bool (decide (x51.2 = 0))) 1 rfl rfl (by kernel_rfl) rfl trivial rfl (fun w_ K_ h_ => OpW.bin (k := .i64) (a := x51.2) (b := 0) (v := .bool (decide (x51.2 = 0))) rfl rfl rfl h_) ?_
                refine DL.takeP (listed' := #[true, true, true, false, false, false, false, false, false, false]) (v := .bool (decide (x51.2 = 0))) 2 rfl rfl (by kernel_rfl) rfl trivial rfl (fun w_ K_ h_ => OpW.move (v := .bool (decide (x51.2 = 0))) rfl h_) ?_
                refine jn_elim h ?_; clear h; intro k67 hk68 h
                refine DL.cut (A := Bool) (fun s63 ρ => ρ 55 = .bool s63) k67 1 #[true, true, true, true, true, true, true, true, true, false] ?_ ?_
                · rintro s63 ρ w64 e66 h
                  subst hk68
                  refine DL.takeP (listed' := #[true, true, true, true, true, true, true, true, true, true]) (v := .bool s63) 9 rfl rfl (by kernel_rfl) rfl trivial rfl (fun w_ K_ h_ => OpW.assign (v := .bool s63) e66 h_) ?_
                  refine DL.done (by kernel_rfl) ?_
                  refine CW.ret ?_
                  exact ret_intro (res1 rfl rfl) ⟨s63, rfl, h⟩
                · intro hJJ55; clear hk68
                  obtain ⟨ha, hc⟩ := h
                  rcases Bool.eq_false_or_eq_true (decide (x51.2 = 0)) with hb56 | hb56
                  · have h := ha hb56; clear ha hc
                    refine DL.takeP (listed' := #[true, true, true, true, false, false, false, false, false, false]) (v := Sl.v x51.1) 3 rfl rfl (by kernel_rfl) rfl (wanted_of rfl rfl hb56) rfl (fun w_ K_ h_ => OpW.move (v := Sl.v x51.1) rfl h_) ?_
                    obtain ⟨x57, h1, h2, h⟩ := h
                    refine DL.takeK (listed' := #[true, true, true, true, true, false, false, false, false, false]) (v := str x57) 4 rfl rfl (by kernel_rfl) (by kernel_rfl) rfl (wanted_of rfl rfl hb56) rfl hx54 (fun w_ hS_ K_ h_ => OpW.b2s bsl_39 str_9 rfl h1 (hS_.atO h2) h_) ?_
                    refine DL.execS (listed' := #[true, true, true, true, true, true, false, false, false, false]) 5 rfl (by kernel_rfl) rfl (wanted_of rfl rfl hb56) rfl (OpW.callR (al := [.int .u8 120, str [121, 121]]) Try.func32 fb_32 fn_32 rfl h (fun x58 w59 h => ?_))
                    obtain ⟨hx60, h⟩ := h
                    refine ⟨(fun _ _ => hx60), ?_⟩
                    obtain ⟨x61, h1, h2, h⟩ := h
                    refine DL.execS (listed' := #[true, true, true, true, true, true, true, false, false, false]) 6 rfl (by kernel_rfl) rfl (wanted_of rfl rfl hb56) rfl (OpW.b2s bsl_39 str_9 rfl h1 h2 ?_)
                    refine ⟨(fun _ _ => hx60), ?_⟩
                    refine DL.takeP (listed' := #[true, true, true, true, true, true, true, true, false, false]) (v := .bool (decide (x57 = x61))) 7 rfl rfl (by kernel_rfl) rfl (wanted_of rfl rfl hb56) rfl (fun w_ K_ h_ => OpW.strCmp (b := decide (x57 = x61)) rfl rfl rfl h_) ?_
                    refine DL.takeP (listed' := #[true, true, true, true, true, true, true, true, true, false]) (v := .bool (decide (x57 = x61))) 8 rfl rfl (by kernel_rfl) rfl trivial rfl (fun w_ K_ h_ => OpW.pick (b := true) (v := .bool (decide (x57 = x61))) (congrArg Value.bool hb56) rfl h_) ?_
                    exact hJJ55 _ _ ⟨(decide (x57 = x61)), rfl, h⟩
                  · have h := hc hb56; clear ha hc
                    refine DL.skipP (listed' := #[true, true, true, true, false, false, false, false, false, false]) 3 rfl (by kernel_rfl) rfl (notWanted_of rfl rfl hb56) rfl ?_
                    refine DL.skipP (listed' := #[true, true, true, true, true, false, false, false, false, false]) 4 rfl (by kernel_rfl) rfl (notWanted_of rfl rfl hb56) rfl ?_
                    refine DL.skipX (listed' := #[true, true, true, true, true, true, false, false, false, false]) 5 rfl (by kernel_rfl) rfl (notWanted_of rfl rfl hb56) rfl ?_
                    refine DL.skipX (listed' := #[true, true, true, true, true, true, true, false, false, false]) 6 rfl (by kernel_rfl) rfl (notWanted_of rfl rfl hb56) rfl ?_
                    refine DL.skipP (listed' := #[true, true, true, true, true, true, true, true, false, false]) 7 rfl (by kernel_rfl) rfl (notWanted_of rfl rfl hb56) rfl ?_
                    refine DL.takeP (listed' := #[true, true, true, true, true, true, true, true, true, false]) (v := .bool false) 8 rfl rfl (by kernel_rfl) rfl trivial rfl (fun w_ K_ h_ => OpW.pick (b := false) (v := .bool false) (congrArg Value.bool hb56) rfl h_) ?_
                    exact hJJ55 _ _ ⟨false, rfl, h⟩
            · clear hk70
              dsimp only [List.take]
              obtain ⟨ha, hc⟩ := h
              rcases Bool.eq_false_or_eq_true (!x40) with hb42 | hb42
              · have h := ha hb42; clear ha hc
                refine RL.skipS (notWanted_of rfl rfl hb42) rfl ?_
                refine RL.skipS (notWanted_of rfl rfl hb42) rfl ?_
                refine RL.skipS (notWanted_of rfl rfl hb42) rfl ?_
                refine RL.opS trivial rfl (OpW.pick (b := true) (v := .bool true) (congrArg Value.bool hb42) rfl ?_)
                refine RL.nil ?_
                exact ⟨true, ⟨rfl, e36⟩, h⟩
              · have h := hc hb42; clear ha hc
                refine RL.opS (wanted_of rfl rfl hb42) rfl (OpW.move (v := .pointer x1.1) e36 ?_)
                refine RL.opS (wanted_of rfl rfl hb42) rfl (OpW.callR (al := [.pointer x1.1]) Try.func27 fb_27 fn_27 rfl h (fun x44 w45 h => ?_))
                refine RL.opS (wanted_of rfl rfl hb42) rfl (OpW.not rfl ?_)
                refine RL.opS trivial rfl (OpW.pick (b := false) (v := .bool (!x44)) (congrArg Value.bool hb42) rfl ?_)
                refine RL.nil ?_
                exact ⟨(!x44), ⟨rfl, e36⟩, h⟩
        · clear hk72
          dsimp only [List.take]
          obtain ⟨ha, hc⟩ := h
          rcases Bool.eq_false_or_eq_true s23 with hb27 | hb27
          · have h := ha hb27; clear ha hc
            refine RL.skipS (notWanted_of rfl rfl hb27) rfl ?_
            refine RL.skipS (notWanted_of rfl rfl hb27) rfl ?_
            refine RL.skipS (notWanted_of rfl rfl hb27) rfl ?_
            refine RL.skipS (notWanted_of rfl rfl hb27) rfl ?_
            refine RL.opS trivial rfl (OpW.pick (b := true) (v := .bool true) (congrArg Value.bool hb27) rfl ?_)
            refine RL.nil ?_
            exact ⟨true, ⟨rfl, e26⟩, h⟩
          · have h := hc hb27; clear ha hc
            refine RL.opS (wanted_of rfl rfl hb27) rfl (OpW.move (v := .pointer x1.1) e26 ?_)
            refine RL.opS (wanted_of rfl rfl hb27) rfl (OpW.callR (al := [.int .u8 121, str []]) Try.func32 fb_32 fn_32 rfl h (fun x29 w30 h => ?_))
            refine RL.opS (wanted_of rfl rfl hb27) rfl (OpW.callR (al := [.pointer x1.1, .int .i64 1, Sl.v x29]) Try.func33 fb_33 fn_33 rfl h (fun x31 w32 h => ?_))
            refine RL.opS (wanted_of rfl rfl hb27) rfl (OpW.bin (k := .i64) (a := x31) (b := 0) (v := .bool (!decide (x31 = 0))) rfl rfl rfl ?_)
            refine RL.opS trivial rfl (OpW.pick (b := false) (v := .bool (!decide (x31 = 0))) (congrArg Value.bool hb27) rfl ?_)
            refine RL.nil ?_
            exact ⟨(!decide (x31 = 0)), ⟨rfl, e26⟩, h⟩
      · clear hk74
        dsimp only [List.take]
        obtain ⟨ha, hc⟩ := h
        rcases Bool.eq_false_or_eq_true s15 with hb19 | hb19
        · have h := ha hb19; clear ha hc
          refine RL.skipS (notWanted_of rfl rfl hb19) rfl ?_
          refine RL.skipS (notWanted_of rfl rfl hb19) rfl ?_
          refine RL.skipS (notWanted_of rfl rfl hb19) rfl ?_
          refine RL.opS trivial rfl (OpW.pick (b := true) (v := .bool true) (congrArg Value.bool hb19) rfl ?_)
          refine RL.nil ?_
          exact ⟨true, ⟨rfl, e18⟩, h⟩
        · have h := hc hb19; clear ha hc
          refine RL.opS (wanted_of rfl rfl hb19) rfl (OpW.move (v := .pointer x1.1) e18 ?_)
          refine RL.opS (wanted_of rfl rfl hb19) rfl (OpW.callR (al := [.pointer x1.1]) Try.func34 fb_34 fn_34 rfl h (fun x21 w22 h => ?_))
          refine RL.opS (wanted_of rfl rfl hb19) rfl (OpW.bin (k := .i64) (a := x21) (b := 0) (v := .bool (!decide (x21 = 0))) rfl rfl rfl ?_)
          refine RL.opS trivial rfl (OpW.pick (b := false) (v := .bool (!decide (x21 = 0))) (congrArg Value.bool hb19) rfl ?_)
          refine RL.nil ?_
          exact ⟨(!decide (x21 = 0)), ⟨rfl, e18⟩, h⟩
    · clear hk76
      dsimp only [List.take]
      obtain ⟨ha, hc⟩ := h
      rcases Bool.eq_false_or_eq_true s5 with hb9 | hb9
      · have h := ha hb9; clear ha hc
        refine RL.skipS (notWanted_of rfl rfl hb9) rfl ?_
        refine RL.skipS (notWanted_of rfl rfl hb9) rfl ?_
        refine RL.skipS (notWanted_of rfl rfl hb9) rfl ?_
        refine RL.skipS (notWanted_of rfl rfl hb9) rfl ?_
        refine RL.opS trivial rfl (OpW.pick (b := true) (v := .bool true) (congrArg Value.bool hb9) rfl ?_)
        refine RL.nil ?_
        exact ⟨true, ⟨rfl, e8⟩, h⟩
      · have h := hc hb9; clear ha hc
        refine RL.opS (wanted_of rfl rfl hb9) rfl (OpW.move (v := .pointer x1.1) e8 ?_)
        refine RL.opS (wanted_of rfl rfl hb9) rfl (OpW.callR (al := [.int .u8 120, str []]) Try.func32 fb_32 fn_32 rfl h (fun x11 w12 h => ?_))
        refine RL.opS (wanted_of rfl rfl hb9) rfl (OpW.callR (al := [.pointer x1.1, .int .i64 1, Sl.v x11]) Try.func33 fb_33 fn_33 rfl h (fun x13 w14 h => ?_))
        refine RL.opS (wanted_of rfl rfl hb9) rfl (OpW.bin (k := .i64) (a := x13) (b := 0) (v := .bool (!decide (x13 = 0))) rfl rfl rfl ?_)
        refine RL.opS trivial rfl (OpW.pick (b := false) (v := .bool (!decide (x13 = 0))) (congrArg Value.bool hb9) rfl ?_)
        refine RL.nil ?_
        exact ⟨(!decide (x13 = 0)), ⟨rfl, e8⟩, h⟩
  · clear hk78
    dsimp only [List.take]
    obtain ⟨ha, hc⟩ := h
    rcases Bool.eq_false_or_eq_true (x1.1.isNone) with hb3 | hb3
    · have h := ha hb3; clear ha hc
      refine RL.skipS (notWanted_of rfl rfl hb3) rfl ?_
      refine RL.skipS (notWanted_of rfl rfl hb3) rfl ?_
      refine RL.opS trivial rfl (OpW.pick (b := true) (v := .bool true) (congrArg Value.bool hb3) rfl ?_)
      refine RL.nil ?_
      exact ⟨true, ⟨rfl, rfl⟩, h⟩
    · have h := hc hb3; clear ha hc
      refine RL.opS (wanted_of rfl rfl hb3) rfl (OpW.move (v := .int .i64 x1.2) rfl ?_)
      refine RL.opS (wanted_of rfl rfl hb3) rfl (OpW.bin (k := .i64) (a := x1.2) (b := 0) (v := .bool (!decide (x1.2 = 0))) rfl rfl rfl ?_)
      refine RL.opS trivial rfl (OpW.pick (b := false) (v := .bool (!decide (x1.2 = 0))) (congrArg Value.bool hb3) rfl ?_)
      refine RL.nil ?_
      exact ⟨(!decide (x1.2 = 0)), ⟨rfl, rfl⟩, h⟩
end Go.Proofs.Ytagkcbbbdlmcjaa
end
section
/- The disk's own trial at the head of each law; and what a nil disk answers. -/
set_option linter.unusedVariables false
set_option linter.unusedSimpArgs false
namespace Go.Proofs.Ytagkcbbbdlmcjaa
open Go.Lift Go.Lift.Disk Go.RowKit
def lvX : List UInt8 := fillOf 120 []
def lvY : List UInt8 := fillOf 121 []
def lv1 : Dk := ((fresh 2).write 1 lvX).1
def lv2 : Dk := lv1.flush.1
def lv3 : Dk := (lv2.write 1 lvY).1
def lv4 : Dk := lv3.crash (0, 0, 2)
theorem lv1_e : ((fresh 2).write 1 lvX).2 = 0 := by decide +kernel
theorem lv2_e : lv1.flush.2 = 0 := by decide +kernel
theorem lv3_e : (lv2.write 1 lvY).2 = 0 := by decide +kernel
theorem lv4_d : lv4.down = true := by decide +kernel
theorem lv5_w : lv4.up.why 1 = 0 := by decide +kernel
theorem lv5_b : (bAt lv4.up.bl 1).1 = fillOf 120 [121, 121] := by decide +kernel
theorem lv0_s : (fresh 2).changes < 1000000000 ∧ (fresh 2).pend.length < 1000000 := by decide +kernel
theorem lv1_s : lv1.changes < 1000000000 := by decide +kernel
theorem lv2_s : lv2.changes < 1000000000 ∧ lv2.pend.length < 1000000 := by decide +kernel
theorem footExt {w w0 w' : World} {pd bb : Nat} (hf : Fr (Foot pd bb) w w') (hx : Ext w0 w) (h1 : w0.heap.size ≤ pd) (h2 : w0.heap.size ≤ bb) : Ext w0 w' :=
  hf.ext hx fun k _ hk => by rcases hk with e | e <;> rw [e] <;> assumption
theorem lives3_ok (w : World) : Calls Try.prog 30 #[] w (Ret r30 fun x w' => x = true ∧ Ext w w') := by
  apply s30_calls
  refine cR_of (new_ok w 2 (by decide) (by decide)) ?_
  rintro x1 w2 ⟨pd, bb, rfl, h2, hx2⟩
  obtain ⟨hpd, hbb, _, _⟩ := h2.lt
  refine jn_of fun k1 hk1 => ?_
  refine ⟨fun h => absurd h (by simp), fun _ => ?_⟩
  rw [hk1]
  refine jn_of fun k2 hk2 => ?_
  refine ⟨fun h => absurd h (by simp), fun _ => ?_⟩
  refine cR_of (fill_ok w2 120 []) ?_
  rintro x11 w12 ⟨ho11, hx12⟩
  have hwr1 := write_ok (h2.ext hx12) lv0_s.1 lv0_s.2 (upB (hx2.trans hx12).size) 1 x11 lvX ho11.bytes
  refine cR_of hwr1 ?_
  rintro x13 w14 ⟨hx13, h14, hf14⟩
  rw [lv1_e] at hx13
  subst hx13
  rw [hk2]
  refine jn_of fun k3 hk3 => ?_
  refine ⟨fun h => absurd h (by simp), fun _ => ?_⟩
  refine cR_of (flush_ok (D := lv1) h14 lv1_s) ?_
  rintro x21 w22 ⟨hx21, h22, hf22⟩
  rw [lv2_e] at hx21
  subst hx21
  rw [hk3]
  refine jn_of fun k4 hk4 => ?_
  refine ⟨fun h => absurd h (by simp), fun _ => ?_⟩
  refine cR_of (fill_ok w22 121 []) ?_
  rintro x29 w30 ⟨ho29, hx30⟩
  refine cR_of (write_ok (D := lv2) (h22.ext hx30) lv2_s.1 lv2_s.2 (upB (((footExt hf22 (footExt hf14 (hx2.trans hx12) hpd hbb) hpd hbb).trans hx30).size)) 1 x29 lvY ho29.bytes) ?_
  rintro x31 w32 ⟨hx31, h32, hf32⟩
  rw [lv3_e] at hx31
  subst hx31
  rw [hk4]
  refine ⟨fun h => absurd h (by simp), fun _ => ?_⟩
  refine cR_of (crash_ok (D := lv3) h32 (0, 0, 2) (by decide)) ?_
  rintro x38 w39 ⟨h39, hf39⟩
  refine cR_of (down_ok (D := lv4) h39) ?_
  rintro x40 w41 ⟨hx40, rfl⟩
  rw [lv4_d] at hx40
  subst hx40
  refine jn_of fun k5 hk5 => ?_
  refine ⟨fun h => absurd h (by simp), fun _ => ?_⟩
  refine cR_of (up_ok (D := lv4) h39) ?_
  rintro x44 w45 ⟨hx44, h45, hf45⟩
  rw [lv4_d] at hx44
  subst hx44
  rw [hk5]
  refine ⟨fun h => absurd h (by simp), fun _ => ?_⟩
  have hx12' := hx2.trans hx12
  have hx14 := footExt hf14 hx12' hpd hbb
  have hx22 := footExt hf22 hx14 hpd hbb
  have hx32 := footExt hf32 (hx22.trans hx30) hpd hbb
  have hx39 := footExt hf39 hx32 hpd hbb
  have hx45 := footExt hf45 hx39 hpd hbb
  refine cR_of (read_ok h45 1) ?_
  rintro ⟨y, e⟩ w52 ⟨hx52, hc⟩
  rcases hc with ⟨h0, _⟩ | ⟨_, h1, h3⟩
  · exact absurd lv5_w h0
  simp only at h1 h3
  subst h1
  intro w53 hw53
  have hx53 : Ext w52 w53 := by subst hw53; exact Ext.drew _
  refine jn_of fun k6 hk6 => ?_
  refine ⟨fun _ => ?_, fun h => absurd h (by simp)⟩
  have hyb := h3.bytes
  refine ⟨_, hyb.1, hyb.2, ?_⟩
  refine cR_of (fill_ok w53 120 [121, 121]) ?_
  rintro x58 w59 ⟨ho58, hx59⟩
  refine ⟨hx53.trans hx59, _, ho58.bytes.1, ho58.bytes.2, ?_⟩
  rw [hk6]
  exact ⟨decide_eq_true lv5_b, ((hx45.trans hx52).trans hx53).trans hx59⟩

/-! ### a nil disk -/
section
variable (w : World)
theorem down_nil : Calls Try.prog 38 #[.pointer none] w (Ret r38 fun x w' => x = true ∧ w = w') := by
  apply s38_calls
  refine jn_of fun k hk => ?_
  refine ⟨fun _ => ?_, fun h => absurd h (by simp)⟩
  rw [hk]; exact ⟨rfl, rfl⟩
theorem has_nil (i : Int) : Calls Try.prog 59 #[.pointer none, .int .i64 i] w (Ret r59 fun x w' => x = 6 ∧ w = w') := by
  apply s59_calls
  refine cR_of (down_nil w) ?_
  rintro x w' ⟨rfl, rfl⟩
  exact ⟨fun _ => ⟨rfl, rfl⟩, fun h => absurd h (by simp)⟩
theorem read_nil (i : Int) : Calls Try.prog 28 #[.pointer none, .int .i64 i] w (Ret r28 fun x w' => x = (nilSl, 6) ∧ w = w') := by
  apply s28_calls
  refine cR_of (has_nil w i) ?_
  rintro x w' ⟨rfl, rfl⟩
  exact ⟨fun _ => ⟨rfl, rfl⟩, fun h => absurd h (by simp)⟩
theorem write_nil (i : Int) (p : Sl) : Calls Try.prog 33 #[.pointer none, .int .i64 i, p.v] w (Ret r33 fun x w' => x = 6 ∧ w = w') := by
  apply s33_calls
  refine cR_of (has_nil w i) ?_
  rintro x w' ⟨rfl, rfl⟩
  exact ⟨fun _ => ⟨rfl, rfl⟩, fun h => absurd h (by simp)⟩
theorem flush_nil : Calls Try.prog 34 #[.pointer none] w (Ret r34 fun x w' => x = 6 ∧ w = w') := by
  apply s34_calls
  refine cR_of (down_nil w) ?_
  rintro x w' ⟨rfl, rfl⟩
  exact ⟨fun _ => ⟨rfl, rfl⟩, fun h => absurd h (by simp)⟩
theorem up_nil : Calls Try.prog 27 #[.pointer none] w (Ret r27 fun x w' => x = false ∧ w = w') := by
  apply s27_calls
  refine jn_of fun k hk => ?_
  refine ⟨fun _ => ?_, fun h => absurd h (by simp)⟩
  rw [hk]
  exact ⟨fun _ => ⟨rfl, rfl⟩, fun h => absurd h (by simp)⟩
theorem pending_nil : Calls Try.prog 23 #[.pointer none] w (Ret r23 fun x w' => x = 0 ∧ w = w') := by
  apply s23_calls
  exact ⟨fun _ => ⟨rfl, rfl⟩, fun h => absurd h (by simp)⟩
theorem changes_nil : Calls Try.prog 19 #[.pointer none] w (Ret r19 fun x w' => x = 0 ∧ w = w') := by
  apply s19_calls
  exact ⟨fun _ => ⟨rfl, rfl⟩, fun h => absurd h (by simp)⟩
theorem blocks_nil : Calls Try.prog 39 #[.pointer none] w (Ret r39 fun x w' => x = 0 ∧ w = w') := by
  apply s39_calls
  exact ⟨fun _ => ⟨rfl, rfl⟩, fun h => absurd h (by simp)⟩
theorem clone_nil : Calls Try.prog 36 #[.pointer none] w (Ret r36 fun x w' => x = none ∧ w = w') := by
  apply s36_calls
  exact ⟨fun _ => ⟨rfl, rfl⟩, fun h => absurd h (by simp)⟩
theorem plan_nil (p : Sl) : Calls Try.prog 37 #[.pointer none, p.v] w (Ret r37 fun _ w' => w = w') := by
  apply s37_calls
  exact ⟨fun h => absurd h (by simp), fun _ => rfl⟩
theorem crash_nil (f : Fall) : Calls Try.prog 35 #[.pointer none, aggv (fallOf f)] w (Ret r35 fun _ w' => Ext w w') := by
  apply s35_calls
  intro b1 w2 hb1 hw2
  refine cR_of (down_nil w2) ?_
  rintro x w' ⟨rfl, rfl⟩
  exact ⟨fun _ => Ext.new hw2, fun h => absurd h (by simp)⟩
end
end Go.Proofs.Ytagkcbbbdlmcjaa
end
section
/- The typed readings of the functions, and that the program meets each: written by gen.py (a program of this session). -/
set_option linter.unusedVariables false
set_option linter.unusedSimpArgs false
namespace Go.Proofs.Ytagkcbbbdlmcjaa
open Go.Lift
set_option maxRecDepth 100000 in
set_option maxHeartbeats 4000000 in
theorem s31_calls (K : Bool → World → Prop) (p0 : Int) (p1 : Sl) (w : World) (h : s31 K p0 p1 w) :
    Calls Try.prog 31 #[.int .i64 p0, Sl.v p1] w (Ret r31 K) := by
  unfold s31 at h
  refine calls_of_CW (n := 35) Try.func31 rfl rfl rfl ?_
  refine CW.seq ?_
  refine CW.region ?_
  refine RL.opS trivial rfl (OpW.assign (v := .bool false) rfl ?_)
  refine RL.nil ?_
  refine CW.seq ?_
  refine CW.seq ?_
  refine CW.region ?_
  refine RL.opS trivial rfl (OpW.move (v := .int .i64 p0) rfl ?_)
  refine RL.opS trivial rfl (OpW.bin (k := .i64) (a := p0) (b := 1) (v := .bool (decide (p0 < 1))) rfl rfl rfl ?_)
  refine RL.opS trivial rfl (OpW.move (v := .bool (decide (p0 < 1))) rfl ?_)
  refine jn_elim h ?_; clear h; intro k43 hk44 h
  refine RL.joinAt (A := Bool) 3 (fun s3 ρ => ρ 12 = .bool s3 ∧ ρ 1 = Sl.v p1) k43 ?_ ?_
  · rintro s3 ρ w4 ⟨e5, e6⟩ h
    subst hk44
    dsimp only [List.drop]
    refine RL.opS trivial rfl (OpW.move (v := .bool s3) e5 ?_)
    refine jn_elim h ?_; clear h; intro k41 hk42 h
    refine RL.joinAt (A := Bool) 4 (fun s9 ρ => ρ 17 = .bool s9 ∧ ρ 1 = Sl.v p1) k41 ?_ ?_
    · rintro s9 ρ w10 ⟨e11, e12⟩ h
      subst hk42
      dsimp only [List.drop]
      refine RL.nil ?_
      obtain ⟨ha, hc⟩ := h
      refine CW.cond (b := s9) e11 (fun hb13 => ?_) (fun hb13 => ?_)
      · have h := ha hb13; clear ha hc
        refine CW.seq ?_
        refine CW.region ?_
        refine RL.opS trivial rfl (OpW.assign (v := .bool false) rfl ?_)
        refine RL.nil ?_
        refine CW.ret ?_
        exact ret_intro (res1 rfl rfl) ⟨false, rfl, h⟩
      · have h := hc hb13; clear ha hc
        refine CW.skip ?_
        refine CW.seq ?_
        refine CW.seq ?_
        refine CW.region ?_
        refine RL.opS trivial rfl (OpW.move (v := Sl.v p1) e12 ?_)
        refine RL.opS trivial rfl (OpW.len (s := p1) slice_61 rfl ?_)
        refine RL.opS trivial rfl (OpW.move (v := .int .i64 0) rfl ?_)
        refine RL.nil ?_
        refine CW.block ?_
        obtain ⟨I39, mu40, hI, hs⟩ := h
        refine CW.loop (σ := Int) (fun s14 ρ => ρ 20 = .int .i64 s14 ∧ ρ 18 = Sl.v p1 ∧ ρ 19 = .int .i64 (p1.len : Int)) I39 mu40 0 ⟨rfl, rfl, rfl⟩ hI ?_
        rintro s14 ρ w15 ⟨e17, e18, e19⟩ hI
        have h := hs s14 w15 hI
        clear hs hI
        refine CW.seq ?_
        refine CW.region ?_
        refine RL.opS trivial rfl (OpW.bin (k := .i64) (a := s14) (b := (p1.len : Int)) (v := .bool (decide (s14 < (p1.len : Int)))) e17 e19 rfl ?_)
        refine RL.nil ?_
        refine CW.seq ?_
        obtain ⟨ha, hc⟩ := h
        refine CW.cond (b := (decide (s14 < (p1.len : Int)))) rfl (fun hb20 => ?_) (fun hb20 => ?_)
        · have h := ha hb20; clear ha hc
          refine CW.skip ?_
          refine CW.seq ?_
          refine CW.block ?_
          refine CW.seq ?_
          refine CW.region ?_
          obtain ⟨a21_, a21, h1, h2, h3, h4, h⟩ := h
          refine RL.opS trivial rfl (OpW.indexE (a' := a21) slice_61 e18 e17 h1 h2 h3 h4 ?_)
          obtain ⟨x23, h1, h2, h⟩ := h
          refine RL.opS trivial rfl (OpW.loadA agg_65 rfl h1 h2 ?_)
          obtain ⟨hl_b24, ho_b24, h⟩ := h
          obtain ⟨b24, hb24_⟩ : ∃ b_, b_ = w15.heap.size := ⟨_, rfl⟩
          obtain ⟨w25, hw25_⟩ : ∃ w_, w_ = w15.alloc (.cells (List.toArray x23) 65) := ⟨_, rfl⟩
          have h := h b24 w25 hb24_ hw25_
          refine RL.opS trivial rfl (OpW.allocZ (b := b24) zero_65 hb24_ ?_)
          refine RL.opN trivial (OpW.storeF (zs := [Value.int .i64 0, Value.int .i64 0, Value.int .u8 0, str [], Value.bool false, Value.int .i64 0, Value.int .u64 0, Value.int .i64 0, Value.slice none 0 0]) (cs := x23) size_65 rfl rfl hl_b24 (by decide) ho_b24 hb24_ hw25_ ?_)
          refine RL.nil ?_
          refine CW.seq ?_
          refine CW.region ?_
          refine RL.opS trivial rfl (OpW.fieldAddr field_65_3 rfl ?_)
          obtain ⟨x26, h1, h⟩ := h
          refine RL.opS trivial rfl (OpW.load1 (v := str x26) one_9 rfl h1 ?_)
          refine RL.opS trivial rfl (OpW.lenStr us_9 rfl ?_)
          refine RL.opS trivial rfl (OpW.bin (k := .i64) (a := (x26.length : Int)) (b := 600) (v := .bool (decide (600 < (x26.length : Int)))) rfl rfl rfl ?_)
          refine RL.opS trivial rfl (OpW.move (v := .bool (decide (600 < (x26.length : Int)))) rfl ?_)
          refine jn_elim h ?_; clear h; intro k37 hk38 h
          refine RL.joinAt (A := Bool) 5 (fun s30 ρ => ρ 33 = .bool s30 ∧ ρ 18 = Sl.v p1 ∧ ρ 19 = .int .i64 (p1.len : Int) ∧ ρ 20 = .int .i64 s14) k37 ?_ ?_
          · rintro s30 ρ w31 ⟨e32, e33, e34, e35⟩ h
            subst hk38
            dsimp only [List.drop]
            refine RL.nil ?_
            obtain ⟨ha, hc⟩ := h
            refine CW.cond (b := s30) e32 (fun hb36 => ?_) (fun hb36 => ?_)
            · have h := ha hb36; clear ha hc
              refine CW.seq ?_
              refine CW.region ?_
              refine RL.opS trivial rfl (OpW.assign (v := .bool false) rfl ?_)
              refine RL.nil ?_
              refine CW.ret ?_
              exact ret_intro (res1 rfl rfl) ⟨false, rfl, h⟩
            · have h := hc hb36; clear ha hc
              refine CW.skip ?_
              refine CW.region ?_
              refine RL.opS trivial rfl (OpW.bin (k := .i64) (a := s14) (b := 1) (v := .int .i64 (IntKind.i64.wrap (s14 + 1))) e35 rfl rfl ?_)
              refine RL.opS trivial rfl (OpW.move (v := .int .i64 (IntKind.i64.wrap (s14 + 1))) rfl ?_)
              refine RL.nil ?_
              exact ⟨(IntKind.i64.wrap (s14 + 1)), ⟨rfl, e33, e34⟩, h⟩
          · clear hk38
            dsimp only [List.take]
            obtain ⟨ha, hc⟩ := h
            rcases Bool.eq_false_or_eq_true (decide (600 < (x26.length : Int))) with hb27 | hb27
            · have h := ha hb27; clear ha hc
              refine RL.skipS (notWanted_of rfl rfl hb27) rfl ?_
              refine RL.skipS (notWanted_of rfl rfl hb27) rfl ?_
              refine RL.skipS (notWanted_of rfl rfl hb27) rfl ?_
              refine RL.skipS (notWanted_of rfl rfl hb27) rfl ?_
              refine RL.opS trivial rfl (OpW.pick (b := true) (v := .bool true) (congrArg Value.bool hb27) rfl ?_)
              refine RL.nil ?_
              exact ⟨true, ⟨rfl, e18, e19, e17⟩, h⟩
            · have h := hc hb27; clear ha hc
              refine RL.opS (wanted_of rfl rfl hb27) rfl (OpW.fieldAddr field_65_6 rfl ?_)
              obtain ⟨x29, h1, h⟩ := h
              refine RL.opS (wanted_of rfl rfl hb27) rfl (OpW.load1 (v := Sl.v x29) one_47 rfl h1 ?_)
              refine RL.opS (wanted_of rfl rfl hb27) rfl (OpW.len (s := x29) slice_47 rfl ?_)
              refine RL.opS (wanted_of rfl rfl hb27) rfl (OpW.bin (k := .i64) (a := (x29.len : Int)) (b := 20) (v := .bool (decide (20 < (x29.len : Int)))) rfl rfl rfl ?_)
              refine RL.opS trivial rfl (OpW.pick (b := false) (v := .bool (decide (20 < (x29.len : Int)))) (congrArg Value.bool hb27) rfl ?_)
              refine RL.nil ?_
              exact ⟨(decide (20 < (x29.len : Int))), ⟨rfl, e18, e19, e17⟩, h⟩
        · have h := hc hb20; clear ha hc
          refine CW.exit ?_
          refine CW.seq ?_
          refine CW.region ?_
          refine RL.opS trivial rfl (OpW.assign (v := .bool true) rfl ?_)
          refine RL.nil ?_
          refine CW.ret ?_
          exact ret_intro (res1 rfl rfl) ⟨true, rfl, h⟩
    · clear hk42
      dsimp only [List.take]
      obtain ⟨ha, hc⟩ := h
      rcases Bool.eq_false_or_eq_true s3 with hb7 | hb7
      · have h := ha hb7; clear ha hc
        refine RL.skipS (notWanted_of rfl rfl hb7) rfl ?_
        refine RL.skipS (notWanted_of rfl rfl hb7) rfl ?_
        refine RL.skipS (notWanted_of rfl rfl hb7) rfl ?_
        refine RL.opS trivial rfl (OpW.pick (b := true) (v := .bool true) (congrArg Value.bool hb7) rfl ?_)
        refine RL.nil ?_
        exact ⟨true, ⟨rfl, e6⟩, h⟩
      · have h := hc hb7; clear ha hc
        refine RL.opS (wanted_of rfl rfl hb7) rfl (OpW.move (v := Sl.v p1) e6 ?_)
        refine RL.opS (wanted_of rfl rfl hb7) rfl (OpW.len (s := p1) slice_61 rfl ?_)
        refine RL.opS (wanted_of rfl rfl hb7) rfl (OpW.bin (k := .i64) (a := (p1.len : Int)) (b := 60) (v := .bool (decide (60 < (p1.len : Int)))) rfl rfl rfl ?_)
        refine RL.opS trivial rfl (OpW.pick (b := false) (v := .bool (decide (60 < (p1.len : Int)))) (congrArg Value.bool hb7) rfl ?_)
        refine RL.nil ?_
        exact ⟨(decide (60 < (p1.len : Int))), ⟨rfl, e6⟩, h⟩
  · clear hk44
    dsimp only [List.take]
    obtain ⟨ha, hc⟩ := h
    rcases Bool.eq_false_or_eq_true (decide (p0 < 1)) with hb1 | hb1
    · have h := ha hb1; clear ha hc
      refine RL.skipS (notWanted_of rfl rfl hb1) rfl ?_
      refine RL.skipS (notWanted_of rfl rfl hb1) rfl ?_
      refine RL.opS trivial rfl (OpW.pick (b := true) (v := .bool true) (congrArg Value.bool hb1) rfl ?_)
      refine RL.nil ?_
      exact ⟨true, ⟨rfl, rfl⟩, h⟩
    · have h := hc hb1; clear ha hc
      refine RL.opS (wanted_of rfl rfl hb1) rfl (OpW.move (v := .int .i64 p0) rfl ?_)
      refine RL.opS (wanted_of rfl rfl hb1) rfl (OpW.bin (k := .i64) (a := p0) (b := 12) (v := .bool (decide (12 < p0))) rfl rfl rfl ?_)
      refine RL.opS trivial rfl (OpW.pick (b := false) (v := .bool (decide (12 < p0))) (congrArg Value.bool hb1) rfl ?_)
      refine RL.nil ?_
      exact ⟨(decide (12 < p0)), ⟨rfl, rfl⟩, h⟩
end Go.Proofs.Ytagkcbbbdlmcjaa
end
section
/- Scripts: which fit; and what a disk has behind writes, a flush and a loss of power. -/
set_option linter.unusedVariables false
set_option linter.unusedSimpArgs false
namespace Go.Proofs.Ytagkcbbbdlmcjaa
open Go.Lift Go.Lift.Disk Go.RowKit
def Fits (n : Int) (l : List OpA) : Prop := 1 ≤ n ∧ n ≤ 12 ∧ l.length ≤ 60 ∧ ∀ o ∈ l, o.s.length ≤ 600 ∧ o.falls.length ≤ 20
theorem opCells_one (o : OpA) : ∀ v ∈ o.cells, v.oneCell' = true := by
  intro v hv
  simp only [OpA.cells, List.mem_cons, List.not_mem_nil, or_false] at hv
  rcases hv with rfl | rfl | rfl | rfl | rfl | rfl | rfl | rfl | rfl <;> rfl
theorem fits_ok (w : World) (n : Int) (p : Sl) (l : List OpA) (h : OpsAt w p l) (hm : p.len ≤ maxLen) : Calls Try.prog 31 #[.int .i64 n, p.v] w (Ret r31 fun x w' => (x = true → Fits n l) ∧ Ext w w') := by
  apply s31_calls
  have hpl := h.len
  simp only [maxLen] at hm
  refine jn_of fun k1 hk1 => ?_
  have key1 : ∀ b : Bool, (b = false → 1 ≤ n ∧ n ≤ 12) → k1 b w := by
    intro b hb
    rw [hk1]
    refine jn_of fun k2 hk2 => ?_
    have key2 : ∀ b2 : Bool, (b2 = false → 1 ≤ n ∧ n ≤ 12 ∧ l.length ≤ 60) → k2 b2 w := by
      intro b2 hb2
      rw [hk2]
      refine ⟨fun _ => ⟨fun h => absurd h (by decide), Ext.refl _⟩, fun hf => ?_⟩
      obtain ⟨h1, h2, h3⟩ := hb2 hf
      refine ⟨fun st w' => ∃ k : Nat, k ≤ l.length ∧ st = (k : Int) ∧ Ext w w' ∧ ∀ o ∈ l.take k, o.s.length ≤ 600 ∧ o.falls.length ≤ 20, fun st _ => l.length - st.toNat, ⟨0, Nat.zero_le _, rfl, Ext.refl _, by simp⟩, ?_⟩
      rintro st w15 ⟨k, hk, rfl, hx, hall⟩
      refine ⟨fun hlt => ?_, fun hge => ?_⟩
      · have hkl : k < l.length := by have := of_decide_eq_true hlt; omega
        obtain ⟨a, ha, hat⟩ := (h.ext hx).get hkl
        refine ⟨a, _, ha, by omega, by omega, rfl, ?_⟩
        rw [Int.toNat_natCast]
        refine ⟨_, rfl, hat, rfl, opCells_one _, fun b24 w25 hb24 hw25 => ?_⟩
        have hx25 : Ext w15 w25 := Ext.new hw25
        have hB : Blk w25 b24 65 l[k].cells := Blk.new hb24 hw25
        refine ⟨l[k].s, by rw [add_plain]; exact hB.cell rfl, ?_⟩
        refine jn_of fun k3 hk3 => ?_
        have key3 : ∀ b3 : Bool, (b3 = false → l[k].s.length ≤ 600 ∧ l[k].falls.length ≤ 20) → k3 b3 w25 := by
          intro b3 hb3
          rw [hk3]
          refine ⟨fun _ => ⟨fun h => absurd h (by decide), hx.trans hx25⟩, fun hf => ?_⟩
          obtain ⟨h5, h6⟩ := hb3 hf
          rw [w64_eq (by omega) (by omega)]
          refine ⟨⟨k + 1, by omega, by omega, hx.trans hx25, ?_⟩, by simp only; omega⟩
          intro o ho
          rw [List.take_succ_eq_append_getElem hkl, List.mem_append] at ho
          rcases ho with ho | ho
          · exact hall o ho
          · rw [List.mem_singleton.1 ho]; exact ⟨h5, h6⟩
        have hfl := (h.ok _ (List.getElem_mem hkl)).falls.len
        refine ⟨fun _ => key3 true fun h => absurd h (by decide), fun hs => ?_⟩
        have hs := of_decide_eq_false hs
        refine ⟨l[k].fs, by rw [add_plain]; exact hB.cell rfl, key3 _ fun h => ?_⟩
        have := of_decide_eq_false h
        omega
      · have hge : k = l.length := by have := of_decide_eq_false hge; omega
        subst hge
        rw [List.take_length] at hall
        exact ⟨fun _ => ⟨h1, h2, h3, hall⟩, hx⟩
    refine ⟨fun h => key2 true fun h => absurd h (by decide), fun h => key2 _ fun h6 => ?_⟩
    have := of_decide_eq_false h6
    obtain ⟨h1, h2⟩ := hb h
    exact ⟨h1, h2, by omega⟩
  refine ⟨fun h => key1 true fun h => absurd h (by decide), fun h => key1 _ fun h2 => ?_⟩
  have := of_decide_eq_false h
  have := of_decide_eq_false h2
  omega

/-! ### the plain law -/
def lastOf (ps : List (Nat × List UInt8)) (i : Nat) (d : List UInt8) : List UInt8 := ps.foldl (fun acc p => if p.1 = i then p.2 else acc) d
theorem lastOf_append (ps : List (Nat × List UInt8)) (p : Nat × List UInt8) (i : Nat) (d : List UInt8) : lastOf (ps ++ [p]) i d = if p.1 = i then p.2 else lastOf ps i d := by simp [lastOf, List.foldl_append]
theorem lastOf_none : ∀ (ps : List (Nat × List UInt8)) (i : Nat) (d : List UInt8), (∀ p ∈ ps, p.1 ≠ i) → lastOf ps i d = d
  | [], _, _, _ => rfl
  | p :: ps, i, d, h => by
    have := lastOf_none ps i d fun q hq => h q (by simp [hq])
    unfold lastOf at this ⊢
    rw [List.foldl_cons, if_neg (h p (by simp))]
    exact this
theorem bAt_setSure {l : List Bl} {j : Nat} (b : List UInt8) {i : Nat} (hi : i < l.length) : bAt (setSure l j b) i = if j = i then ((bAt l i).1, b) else bAt l i := by
  unfold setSure
  rw [bAt_lt (by simpa using hi), List.getElem_set]
  by_cases h : j = i
  · subst h; simp
  · rw [if_neg h, if_neg h, bAt_lt hi]
theorem bAt_setNow {l : List Bl} {j : Nat} (b : List UInt8) {i : Nat} (hi : i < l.length) : bAt (setNow l j b) i = if j = i then (b, (bAt l i).2) else bAt l i := by
  unfold setNow
  rw [bAt_lt (by simpa using hi), List.getElem_set]
  by_cases h : j = i
  · subst h; simp
  · rw [if_neg h, if_neg h, bAt_lt hi]
theorem flushL_at : ∀ (ps : List (Nat × List UInt8)) (l : List Bl) (i : Nat), i < l.length → bAt (flushL l ps) i = ((bAt l i).1, lastOf ps i (bAt l i).2)
  | [], l, i, _ => rfl
  | p :: ps, l, i, hi => by
    have := flushL_at ps (setSure l p.1 p.2) i (by rw [setSure_len]; exact hi)
    unfold flushL lastOf at this ⊢
    rw [List.foldl_cons, List.foldl_cons, this, bAt_setSure _ hi]
    by_cases h : p.1 = i <;> simp [h]
theorem crashStep_at {f : Fall} {last : Int} {l : List Bl} {k : Nat} {p : Nat × List UInt8} {i : Nat} (hi : i < l.length) (h : p.1 ≠ i) : bAt (crashStep f last l k p) i = bAt l i := by
  unfold crashStep
  split
  · rw [bAt_setSure _ hi, if_neg h]
  · split
    · rw [bAt_setSure _ hi, if_neg h]
    · rfl
theorem crashL_at (f : Fall) (last : Int) : ∀ (ps : List (Nat × List UInt8)) (k : Nat) (l : List Bl) (i : Nat), i < l.length → (∀ p ∈ ps, p.1 ≠ i) → bAt (crashL f last k ps l) i = bAt l i
  | [], _, _, _, _, _ => rfl
  | p :: ps, k, l, i, hi, h => by
    rw [crashL, crashL_at f last ps (k + 1) _ i (by rw [crashStep_len]; exact hi) fun q hq => h q (by simp [hq]), crashStep_at hi (h p (by simp))]
theorem crashL_len' (f : Fall) (last : Int) : ∀ (ps : List (Nat × List UInt8)) (k : Nat) (l : List Bl), (crashL f last k ps l).length = l.length
  | [], _, _ => rfl
  | p :: ps, k, l => by rw [crashL, crashL_len' f last ps, crashStep_len]
theorem flushL_len' : ∀ (ps : List (Nat × List UInt8)) (l : List Bl), (flushL l ps).length = l.length
  | [], _ => rfl
  | p :: ps, l => by
    have := flushL_len' ps (setSure l p.1 p.2)
    unfold flushL at this ⊢
    rw [List.foldl_cons, this, setSure_len]
theorem crash_up {D : Dk} (hd : D.down = false) (f : Fall) : D.crash f = { D with bl := (crashL f ((D.pend.length : Int) - 1) 0 D.pend D.bl).map fun p => (p.2, p.2), pend := [], down := true } := by
  unfold Dk.crash
  rw [if_neg (by rw [hd]; simp)]
theorem bAt_map {l : List Bl} {g : Bl → Bl} {i : Nat} (hi : i < l.length) : bAt (l.map g) i = g (bAt l i) := by
  rw [bAt_lt (by simpa using hi), bAt_lt hi]; simp
/-- a disk that is up, of which no fall is planned, and whose blocks are what was written last -/
structure Run (n m k : Nat) (D : Dk) : Prop where
  down : D.down = false
  falls : D.falls = []
  len : D.bl.length = n
  pend : D.pend.length ≤ m
  ch : D.changes ≤ k
  now : ∀ i, i < n → (bAt D.bl i).1 = lastOf D.pend i (bAt D.bl i).2
theorem strike_bare {D : Dk} (h : D.falls = []) : D.strike = (Dk.tick D, 0) := strike_none (by rw [h]; rfl)
theorem run_write {n m k : Nat} {D : Dk} (h : Run n m k D) {i : Nat} (hi : i < n) {b : List UInt8} (hb : b.length = 512) : D.write (i : Int) b = (Dk.tick (D.put i b), 0) ∧ Run n (m + 1) (k + 1) (Dk.tick (D.put i b)) := by
  have hw : D.why (i : Int) = 0 := by
    unfold Dk.why
    rw [if_neg (by rw [h.down]; simp), if_neg (by rw [h.len]; omega)]
  refine ⟨?_, ⟨h.down, h.falls, by show (setNow _ _ _).length = n; rw [setNow_len]; exact h.len, ?_, by show D.changes + 1 ≤ k + 1; have := h.ch; omega, ?_⟩⟩
  · unfold Dk.write
    rw [if_neg (by rw [hw]; simp), if_neg (by rw [hb]; simp), Int.toNat_natCast]
    exact strike_bare (D := D.put i b) h.falls
  · show (D.pend ++ [(i, b)]).length ≤ m + 1
    rw [List.length_append]
    have := h.pend
    simp only [List.length_cons, List.length_nil]
    omega
  · intro j hj
    show (bAt (setNow D.bl i b) j).1 = lastOf (D.pend ++ [(i, b)]) j (bAt (setNow D.bl i b) j).2
    rw [bAt_setNow _ (by rw [h.len]; exact hj), lastOf_append]
    by_cases he : i = j
    · simp [he]
    · simp only [he, if_false]
      exact h.now j hj
def Dk.flushed (D : Dk) : Dk := { Dk.tick D with bl := flushL D.bl D.pend, pend := [] }
theorem run_flush {n m k : Nat} {D : Dk} (h : Run n m k D) : D.flush = (Dk.flushed D, 0) ∧ Run n 0 (k + 1) (Dk.flushed D) ∧ ∀ i, i < n → bAt (Dk.flushed D).bl i = ((bAt D.bl i).1, (bAt D.bl i).1) := by
  have hat : ∀ i, i < n → bAt (Dk.flushed D).bl i = ((bAt D.bl i).1, (bAt D.bl i).1) := by
    intro i hi
    show bAt (flushL D.bl D.pend) i = _
    rw [flushL_at _ _ _ (by rw [h.len]; exact hi), ← h.now i hi]
  refine ⟨?_, ⟨h.down, h.falls, by show (flushL _ _).length = n; rw [flushL_len']; exact h.len, Nat.le_refl _, by show D.changes + 1 ≤ k + 1; have := h.ch; omega, ?_⟩, hat⟩
  · unfold Dk.flush
    rw [if_neg (by rw [h.down]; simp), strike_bare h.falls, if_neg (by simp)]
    rfl
  · intro i hi
    rw [hat i hi]
    rfl
theorem run_fresh (n : Nat) : Run n 0 0 (fresh n) := by
  refine ⟨rfl, rfl, by simp [fresh], by simp [fresh], by simp [fresh], fun i hi => ?_⟩
  have : bAt (fresh n).bl i = (zero512, zero512) := by
    rw [bAt_lt (by simp [fresh]; exact hi)]
    simp [fresh]
  rw [this]; rfl
end Go.Proofs.Ytagkcbbbdlmcjaa
end
section
/- The typed readings of the functions, and that the program meets each: written by gen.py (a program of this session). -/
set_option linter.unusedVariables false
set_option linter.unusedSimpArgs false
namespace Go.Proofs.Ytagkcbbbdlmcjaa
open Go.Lift
set_option maxRecDepth 100000 in
set_option maxHeartbeats 4000000 in
theorem s24_calls (K : List Value → World → Prop) (p0 : Int) (w : World) (h : s24 K p0 w) :
    Calls Try.prog 24 #[.int .i64 p0] w (Ret r24 K) := by
  unfold s24 at h
  refine calls_of_CW (n := 19) Try.func24 rfl rfl rfl ?_
  refine CW.seq ?_
  refine CW.region ?_
  obtain ⟨b1, hb1_⟩ : ∃ b_, b_ = w.heap.size := ⟨_, rfl⟩
  obtain ⟨w2, hw2_⟩ : ∃ w_, w_ = w.alloc (.cells (List.toArray [Value.slice none 0 0, Value.slice none 0 0, Value.slice none 0 0, Value.int .i64 0, Value.bool false]) 49) := ⟨_, rfl⟩
  have h := h b1 w2 hb1_ hw2_
  refine RL.opS trivial rfl (OpW.allocE (b := b1) zero_49 hb1_ hw2_ ?_)
  refine RL.nil ?_
  refine CW.seq ?_
  refine CW.region ?_
  obtain ⟨h1, h2, h3, h4, h⟩ := h
  obtain ⟨b3, hb3_⟩ : ∃ b_, b_ = w2.heap.size := ⟨_, rfl⟩
  obtain ⟨w4, hw4_⟩ : ∃ w_, w_ = w2.alloc (.cells (List.replicate (Int.toNat 512 * 1) (Value.int .u8 0)).toArray 5) := ⟨_, rfl⟩
  have h := h b3 w4 hb3_ hw4_
  obtain ⟨x5, hx5_⟩ : ∃ s_ : Sl, s_ = ⟨some ⟨b3, 0, none⟩, Int.toNat 512, Int.toNat 512⟩ := ⟨_, rfl⟩
  rw [← hx5_] at h
  refine RL.opS trivial rfl (OpW.makeSliceE mk_39 (by decide) rfl rfl h1 h2 h3 h4 hb3_ hw4_ hx5_ ?_)
  obtain ⟨x6, h1, h2, h⟩ := h
  refine RL.opS trivial rfl (OpW.b2s bsl_39 str_9 rfl h1 h2 ?_)
  refine RL.opS trivial rfl (OpW.assign (v := str x6) rfl ?_)
  refine RL.nil ?_
  refine CW.seq ?_
  refine CW.region ?_
  refine RL.opS trivial rfl (OpW.assign (v := Sl.v nilSl) rfl ?_)
  refine RL.nil ?_
  refine CW.seq ?_
  refine CW.seq ?_
  refine CW.region ?_
  refine RL.opS trivial rfl (OpW.assign (v := .int .i64 0) rfl ?_)
  refine RL.nil ?_
  refine CW.block ?_
  obtain ⟨I22, mu23, hI, hs⟩ := h
  refine CW.loop (σ := Sl × Int) (fun s7 ρ => ρ 4 = Sl.v s7.1 ∧ ρ 5 = .int .i64 s7.2 ∧ ρ 0 = .int .i64 p0 ∧ ρ 2 = .pointer (some ⟨b1, 0, none⟩) ∧ ρ 3 = str x6) I22 mu23 (nilSl, 0) ⟨rfl, rfl, rfl, rfl, rfl⟩ hI ?_
  rintro s7 ρ w8 ⟨e10, e11, e12, e13, e14⟩ hI
  have h := hs s7 w8 hI
  clear hs hI
  refine CW.seq ?_
  refine CW.seq ?_
  refine CW.region ?_
  refine RL.opS trivial rfl (OpW.move (v := .int .i64 s7.2) e11 ?_)
  refine RL.opS trivial rfl (OpW.move (v := .int .i64 p0) e12 ?_)
  refine RL.opS trivial rfl (OpW.bin (k := .i64) (a := s7.2) (b := p0) (v := .bool (decide (s7.2 < p0))) rfl rfl rfl ?_)
  refine RL.nil ?_
  obtain ⟨ha, hc⟩ := h
  refine CW.cond (b := (decide (s7.2 < p0))) rfl (fun hb15 => ?_) (fun hb15 => ?_)
  · have h := ha hb15; clear ha hc
    refine CW.skip ?_
    refine CW.seq ?_
    refine CW.block ?_
    refine CW.region ?_
    refine RL.opS trivial rfl (OpW.move (v := Sl.v s7.1) e10 ?_)
    refine RL.opS trivial rfl (OpW.move (v := str x6) e14 ?_)
    obtain ⟨b16, hb16_⟩ : ∃ b_, b_ = w8.heap.size := ⟨_, rfl⟩
    obtain ⟨w17, hw17_⟩ : ∃ w_, w_ = w8.alloc (.cells (List.toArray [str x6]) 9) := ⟨_, rfl⟩
    have h := h b16 w17 hb16_ hw17_
    refine RL.opS trivial rfl (OpW.buildSliceE (vs := [(0, str x6)]) (cs := [str x6]) (by rfl) (by kernel_rfl) hb16_ hw17_ ?_)
    obtain ⟨x18, w19, hr_, h⟩ := h
    refine RL.opS trivial rfl (OpW.appendL (v := Sl.v x18) rfl hr_ ?_)
    refine RL.opS trivial rfl (OpW.assign (v := Sl.v x18) rfl ?_)
    refine RL.nil ?_
    refine CW.region ?_
    refine RL.opS trivial rfl (OpW.move (v := .int .i64 s7.2) e11 ?_)
    refine RL.opS trivial rfl (OpW.bin (k := .i64) (a := s7.2) (b := 1) (v := .int .i64 (IntKind.i64.wrap (s7.2 + 1))) rfl rfl rfl ?_)
    refine RL.opS trivial rfl (OpW.assign (v := .int .i64 (IntKind.i64.wrap (s7.2 + 1))) rfl ?_)
    refine RL.nil ?_
    exact ⟨(x18, (IntKind.i64.wrap (s7.2 + 1))), ⟨rfl, rfl, e12, e13, e14⟩, h⟩
  · have h := hc hb15; clear ha hc
    refine CW.exit ?_
    refine CW.seq ?_
    refine CW.region ?_
    refine RL.opS trivial rfl (OpW.move (v := Sl.v s7.1) e10 ?_)
    refine RL.opS trivial rfl (OpW.buildL (vs := [(0, Sl.v s7.1)]) (cs := [Sl.v s7.1, Value.slice none 0 0, Value.slice none 0 0, Value.int .i64 0, Value.bool false]) (by rfl) (fun _ => by kernel_rfl) ?_)
    obtain ⟨g_, o_, e_, cur_, ha_, h1, h2, h3, h4, h⟩ := h
    obtain ⟨w20, hw20_⟩ : ∃ w_, w_ = w8.setRow g_ (cur_.toList.take o_ ++ [Sl.v s7.1, Value.slice none 0 0, Value.slice none 0 0, Value.int .i64 0, Value.bool false] ++ cur_.toList.drop (o_ + List.length [Sl.v s7.1, Value.slice none 0 0, Value.slice none 0 0, Value.int .i64 0, Value.bool false])).toArray := ⟨_, rfl⟩
    have h := h w20 hw20_
    refine RL.opN trivial (OpW.storeAE (cs := [Sl.v s7.1, Value.slice none 0 0, Value.slice none 0 0, Value.int .i64 0, Value.bool false]) size_49 e13 rfl ha_ h1 h2 h3 h4 hw20_ ?_)
    refine RL.nil ?_
    refine CW.ret ?_
    obtain ⟨x21, hc1, hc2, h⟩ := h
    exact ret_intro (res1c rfl agg_49 e13 hc1 hc2) ⟨x21, rfl, h⟩
end Go.Proofs.Ytagkcbbbdlmcjaa
end
section
/- The typed readings of the functions, and that the program meets each: written by gen.py (a program of this session). -/
set_option linter.unusedVariables false
set_option linter.unusedSimpArgs false
namespace Go.Proofs.Ytagkcbbbdlmcjaa
open Go.Lift
set_option maxRecDepth 100000 in
set_option maxHeartbeats 4000000 in
theorem s29_calls (K : List UInt8 → World → Prop) (p0 : List Value) (p1 : Int) (w : World) (h : s29 K p0 p1 w) :
    Calls Try.prog 29 #[aggv p0, .int .i64 p1] w (Ret r29 K) := by
  unfold s29 at h
  refine calls_of_CW (n := 34) Try.func29 rfl rfl rfl ?_
  refine CW.seq ?_
  refine CW.region ?_
  obtain ⟨b1, hb1_⟩ : ∃ b_, b_ = w.heap.size := ⟨_, rfl⟩
  obtain ⟨w2, hw2_⟩ : ∃ w_, w_ = w.alloc (.cells (List.toArray p0) 49) := ⟨_, rfl⟩
  have h := h b1 w2 hb1_ hw2_
  refine RL.opS trivial rfl (OpW.boxE (cs := p0) (rfl) hb1_ hw2_ ?_)
  refine RL.opS trivial rfl (OpW.assign (v := str []) rfl ?_)
  refine RL.nil ?_
  refine CW.seq ?_
  refine CW.region ?_
  refine RL.opS trivial rfl (OpW.fieldAddr (off := 0) field_49_0 rfl ?_)
  obtain ⟨x3, h1, h⟩ := h
  refine RL.opS trivial rfl (OpW.load1 (v := Sl.v x3) one_45 rfl h1 ?_)
  refine RL.opS trivial rfl (OpW.move (v := .int .i64 p1) rfl ?_)
  obtain ⟨a4_, a4, h1, h2, h3, h4, h⟩ := h
  refine RL.opS trivial rfl (OpW.indexE (a' := a4) slice_45 rfl rfl h1 h2 h3 h4 ?_)
  obtain ⟨x6, h1, h⟩ := h
  refine RL.opS trivial rfl (OpW.load1 (v := str x6) one_9 rfl h1 ?_)
  refine RL.opS trivial rfl (OpW.assign (v := str x6) rfl ?_)
  refine RL.nil ?_
  refine CW.seq ?_
  refine CW.seq ?_
  refine CW.region ?_
  refine RL.opS trivial rfl (OpW.assign (v := .int .i64 0) rfl ?_)
  refine RL.nil ?_
  refine CW.block ?_
  obtain ⟨I34, mu35, hI, hs⟩ := h
  refine CW.loop (σ := List UInt8 × Int) (fun s7 ρ => ρ 5 = str s7.1 ∧ ρ 6 = .int .i64 s7.2 ∧ ρ 1 = .int .i64 p1 ∧ ρ 2 = .pointer (some ⟨b1, 0, none⟩)) I34 mu35 (x6, 0) ⟨rfl, rfl, rfl, rfl⟩ hI ?_
  rintro s7 ρ w8 ⟨e10, e11, e12, e13⟩ hI
  have h := hs s7 w8 hI
  clear hs hI
  refine CW.seq ?_
  refine CW.seq ?_
  refine CW.region ?_
  refine RL.opS trivial rfl (OpW.move (v := .int .i64 s7.2) e11 ?_)
  refine RL.opS trivial rfl (OpW.fieldAddr field_49_1 e13 ?_)
  obtain ⟨x14, h1, h⟩ := h
  refine RL.opS trivial rfl (OpW.load1 (v := Sl.v x14) one_46 rfl h1 ?_)
  refine RL.opS trivial rfl (OpW.len (s := x14) slice_46 rfl ?_)
  refine RL.opS trivial rfl (OpW.bin (k := .i64) (a := s7.2) (b := (x14.len : Int)) (v := .bool (decide (s7.2 < (x14.len : Int)))) rfl rfl rfl ?_)
  refine RL.nil ?_
  obtain ⟨ha, hc⟩ := h
  refine CW.cond (b := (decide (s7.2 < (x14.len : Int)))) rfl (fun hb15 => ?_) (fun hb15 => ?_)
  · have h := ha hb15; clear ha hc
    refine CW.skip ?_
    refine jn_elim h ?_; clear h; intro k32 hk33 h
    refine CW.seqJ (A := List UInt8) (fun s26 ρ => ρ 5 = str s26 ∧ ρ 1 = .int .i64 p1 ∧ ρ 2 = .pointer (some ⟨b1, 0, none⟩) ∧ ρ 6 = .int .i64 s7.2) k32 ?_ ?_
    · rintro s26 ρ w27 ⟨e28, e29, e30, e31⟩ h
      subst hk33
      refine CW.region ?_
      refine RL.opS trivial rfl (OpW.move (v := .int .i64 s7.2) e31 ?_)
      refine RL.opS trivial rfl (OpW.bin (k := .i64) (a := s7.2) (b := 1) (v := .int .i64 (IntKind.i64.wrap (s7.2 + 1))) rfl rfl rfl ?_)
      refine RL.opS trivial rfl (OpW.assign (v := .int .i64 (IntKind.i64.wrap (s7.2 + 1))) rfl ?_)
      refine RL.nil ?_
      exact ⟨(s26, (IntKind.i64.wrap (s7.2 + 1))), ⟨e28, rfl, e29, e30⟩, h⟩
    · clear hk33
      refine CW.block ?_
      refine CW.seq ?_
      refine CW.region ?_
      refine RL.opS trivial rfl (OpW.fieldAddr field_49_1 e13 ?_)
      obtain ⟨x17, h1, h⟩ := h
      refine RL.opS trivial rfl (OpW.load1 (v := Sl.v x17) one_46 rfl h1 ?_)
      refine RL.opS trivial rfl (OpW.move (v := .int .i64 s7.2) e11 ?_)
      obtain ⟨a18_, a18, h1, h2, h3, h4, h⟩ := h
      refine RL.opS trivial rfl (OpW.indexE (a' := a18) slice_46 rfl rfl h1 h2 h3 h4 ?_)
      refine RL.opS trivial rfl (OpW.fieldAddr (off := 0) field_114_0 rfl ?_)
      obtain ⟨x20, h1, h⟩ := h
      refine RL.opS trivial rfl (OpW.load1 (v := .int .i64 x20) one_3 rfl h1 ?_)
      refine RL.opS trivial rfl (OpW.move (v := .int .i64 p1) e12 ?_)
      refine RL.opS trivial rfl (OpW.bin (k := .i64) (a := x20) (b := p1) (v := .bool (decide (x20 = p1))) rfl rfl rfl ?_)
      refine RL.nil ?_
      obtain ⟨ha, hc⟩ := h
      refine CW.cond (b := (decide (x20 = p1))) rfl (fun hb21 => ?_) (fun hb21 => ?_)
      · have h := ha hb21; clear ha hc
        refine CW.region ?_
        refine RL.opS trivial rfl (OpW.fieldAddr field_49_1 e13 ?_)
        obtain ⟨x22, h1, h⟩ := h
        refine RL.opS trivial rfl (OpW.load1 (v := Sl.v x22) one_46 rfl h1 ?_)
        refine RL.opS trivial rfl (OpW.move (v := .int .i64 s7.2) e11 ?_)
        obtain ⟨a23_, a23, h1, h2, h3, h4, h⟩ := h
        refine RL.opS trivial rfl (OpW.indexE (a' := a23) slice_46 rfl rfl h1 h2 h3 h4 ?_)
        refine RL.opS trivial rfl (OpW.fieldAddr field_114_1 rfl ?_)
        obtain ⟨x25, h1, h⟩ := h
        refine RL.opS trivial rfl (OpW.load1 (v := str x25) one_9 rfl h1 ?_)
        refine RL.opS trivial rfl (OpW.assign (v := str x25) rfl ?_)
        refine RL.nil ?_
        exact ⟨x25, ⟨rfl, e12, e13, e11⟩, h⟩
      · have h := hc hb21; clear ha hc
        refine CW.skip ?_
        exact ⟨s7.1, ⟨e10, e12, e13, e11⟩, h⟩
  · have h := hc hb15; clear ha hc
    refine CW.exit ?_
    refine CW.seq ?_
    refine CW.region ?_
    refine RL.opS trivial rfl (OpW.move (v := str s7.1) e10 ?_)
    refine RL.opS trivial rfl (OpW.assign (v := str s7.1) rfl ?_)
    refine RL.nil ?_
    refine CW.ret ?_
    exact ret_intro (res1 rfl rfl) ⟨s7.1, rfl, h⟩
end Go.Proofs.Ytagkcbbbdlmcjaa
end
section
/- The typed readings of the functions, and that the program meets each: written by gen.py (a program of this session). -/
set_option linter.unusedVariables false
set_option linter.unusedSimpArgs false
namespace Go.Proofs.Ytagkcbbbdlmcjaa
open Go.Lift
set_option maxRecDepth 100000 in
set_option maxHeartbeats 4000000 in
theorem s42_calls (K : List Value × Int → World → Prop) (p0 : List Value) (p1 : Int) (p2 : List UInt8) (w : World) (h : s42 K p0 p1 p2 w) :
    Calls Try.prog 42 #[aggv p0, .int .i64 p1, str p2] w (Ret r42 K) := by
  unfold s42 at h
  refine calls_of_CW (n := 34) Try.func42 rfl rfl rfl ?_
  refine CW.seq ?_
  refine CW.region ?_
  obtain ⟨b1, hb1_⟩ : ∃ b_, b_ = w.heap.size := ⟨_, rfl⟩
  obtain ⟨w2, hw2_⟩ : ∃ w_, w_ = w.alloc (.cells (List.toArray p0) 49) := ⟨_, rfl⟩
  have h := h b1 w2 hb1_ hw2_
  refine RL.opS trivial rfl (OpW.boxE (cs := p0) (rfl) hb1_ hw2_ ?_)
  obtain ⟨b3, hb3_⟩ : ∃ b_, b_ = w2.heap.size := ⟨_, rfl⟩
  obtain ⟨w4, hw4_⟩ : ∃ w_, w_ = w2.alloc (.cells (List.toArray [Value.slice none 0 0, Value.slice none 0 0, Value.slice none 0 0, Value.int .i64 0, Value.bool false]) 49) := ⟨_, rfl⟩
  have h := h b3 w4 hb3_ hw4_
  refine RL.opS trivial rfl (OpW.allocE (b := b3) zero_49 hb3_ hw4_ ?_)
  refine RL.opS trivial rfl (OpW.assign (v := .int .i64 0) rfl ?_)
  refine RL.nil ?_
  refine CW.seq ?_
  refine CW.seq ?_
  refine CW.region ?_
  obtain ⟨x5, h1, h2, h⟩ := h
  refine RL.opS trivial rfl (OpW.loadA agg_49 rfl h1 h2 ?_)
  refine RL.opS trivial rfl (OpW.move (v := .int .i64 p1) rfl ?_)
  refine RL.opS trivial rfl (OpW.callR (al := [aggv x5, .int .i64 p1]) Try.func66 fb_66 fn_66 rfl h (fun x6 w7 h => ?_))
  refine RL.opS trivial rfl (OpW.assign (v := .int .i64 x6) rfl ?_)
  refine RL.nil ?_
  refine CW.seq ?_
  refine CW.region ?_
  refine RL.opS trivial rfl (OpW.move (v := .int .i64 x6) rfl ?_)
  refine RL.opS trivial rfl (OpW.bin (k := .i64) (a := x6) (b := 0) (v := .bool (!decide (x6 = 0))) rfl rfl rfl ?_)
  refine RL.nil ?_
  obtain ⟨ha, hc⟩ := h
  refine CW.cond (b := (!decide (x6 = 0))) rfl (fun hb8 => ?_) (fun hb8 => ?_)
  · have h := ha hb8; clear ha hc
    refine CW.seq ?_
    refine CW.region ?_
    obtain ⟨x9, h1, h2, h⟩ := h
    refine RL.opS trivial rfl (OpW.loadA agg_49 rfl h1 h2 ?_)
    refine RL.opS trivial rfl (OpW.move (v := .int .i64 x6) rfl ?_)
    obtain ⟨g_, o_, e_, cur_, ha_, h1, h2, h3, h4, h⟩ := h
    obtain ⟨w10, hw10_⟩ : ∃ w_, w_ = w7.setRow g_ (cur_.toList.take o_ ++ x9 ++ cur_.toList.drop (o_ + List.length x9)).toArray := ⟨_, rfl⟩
    have h := h w10 hw10_
    refine RL.opN trivial (OpW.storeAE (cs := x9) size_49 rfl rfl ha_ h1 h2 h3 h4 hw10_ ?_)
    refine RL.opS trivial rfl (OpW.assign (v := .int .i64 x6) rfl ?_)
    refine RL.nil ?_
    refine CW.ret ?_
    obtain ⟨x11, hc1, hc2, h⟩ := h
    exact ret_intro (res2c rfl agg_49 rfl hc1 hc2 rfl) ⟨(x11, x6), rfl, h⟩
  · have h := hc hb8; clear ha hc
    refine CW.skip ?_
    refine CW.seq ?_
    refine CW.seq ?_
    refine CW.region ?_
    refine RL.opS trivial rfl (OpW.move (v := str p2) rfl ?_)
    refine RL.opS trivial rfl (OpW.lenStr us_9 rfl ?_)
    refine RL.opS trivial rfl (OpW.bin (k := .i64) (a := (p2.length : Int)) (b := 512) (v := .bool (!decide ((p2.length : Int) = 512))) rfl rfl rfl ?_)
    refine RL.nil ?_
    obtain ⟨ha, hc⟩ := h
    refine CW.cond (b := (!decide ((p2.length : Int) = 512))) rfl (fun hb12 => ?_) (fun hb12 => ?_)
    · have h := ha hb12; clear ha hc
      refine CW.seq ?_
      refine CW.region ?_
      obtain ⟨x13, h1, h2, h⟩ := h
      refine RL.opS trivial rfl (OpW.loadA agg_49 rfl h1 h2 ?_)
      obtain ⟨g_, o_, e_, cur_, ha_, h1, h2, h3, h4, h⟩ := h
      obtain ⟨w14, hw14_⟩ : ∃ w_, w_ = w7.setRow g_ (cur_.toList.take o_ ++ x13 ++ cur_.toList.drop (o_ + List.length x13)).toArray := ⟨_, rfl⟩
      have h := h w14 hw14_
      refine RL.opN trivial (OpW.storeAE (cs := x13) size_49 rfl rfl ha_ h1 h2 h3 h4 hw14_ ?_)
      refine RL.opS trivial rfl (OpW.assign (v := .int .i64 1) rfl ?_)
      refine RL.nil ?_
      refine CW.ret ?_
      obtain ⟨x15, hc1, hc2, h⟩ := h
      exact ret_intro (res2c rfl agg_49 rfl hc1 hc2 rfl) ⟨(x15, 1), rfl, h⟩
    · have h := hc hb12; clear ha hc
      refine CW.skip ?_
      refine CW.seq ?_
      refine CW.region ?_
      obtain ⟨b16, hb16_⟩ : ∃ b_, b_ = w7.heap.size := ⟨_, rfl⟩
      obtain ⟨w17, hw17_⟩ : ∃ w_, w_ = w7.alloc (.cells (List.toArray []) 114) := ⟨_, rfl⟩
      have h := h b16 w17 hb16_ hw17_
      refine RL.opS trivial rfl (OpW.buildSliceE (vs := []) (cs := []) (by rfl) (by kernel_rfl) hb16_ hw17_ ?_)
      refine RL.opS trivial rfl (OpW.fieldAddr field_49_1 rfl ?_)
      obtain ⟨x18, h1, h⟩ := h
      refine RL.opS trivial rfl (OpW.load1 (v := Sl.v x18) one_46 rfl h1 ?_)
      obtain ⟨x19, w20, hr_, h⟩ := h
      refine RL.opS trivial rfl (OpW.appendL (v := Sl.v x19) rfl hr_ ?_)
      refine RL.opS trivial rfl (OpW.move (v := .int .i64 p1) rfl ?_)
      refine RL.opS trivial rfl (OpW.move (v := str p2) rfl ?_)
      refine RL.opS trivial rfl (OpW.buildL (vs := [(0, .int .i64 p1), (1, str p2)]) (cs := [.int .i64 p1, str p2]) (by rfl) (fun _ => by kernel_rfl) ?_)
      obtain ⟨hl_, ho_, h⟩ := h
      obtain ⟨b21, hb21_⟩ : ∃ b_, b_ = w20.heap.size := ⟨_, rfl⟩
      obtain ⟨w22, hw22_⟩ : ∃ w_, w_ = w20.alloc (.cells (List.toArray [.int .i64 p1, str p2]) 114) := ⟨_, rfl⟩
      have h := h b21 w22 hb21_ hw22_
      refine RL.opS trivial rfl (OpW.buildSliceE (vs := [(0, aggv [.int .i64 p1, str p2])]) (cs := [.int .i64 p1, str p2]) (by rfl) (fillOne mkz_46 (by simp) (by decide) (by decide) hl_) hb21_ hw22_ ?_)
      obtain ⟨x23, w24, hr_, h⟩ := h
      refine RL.opS trivial rfl (OpW.appendL (v := Sl.v x23) rfl hr_ ?_)
      refine RL.opS trivial rfl (OpW.fieldAddr field_49_1 rfl ?_)
      obtain ⟨u_, h1, h2, h⟩ := h
      obtain ⟨w25, hw25_⟩ : ∃ w_, w_ = w24.setCell (Addr.add ⟨b1, 0, none⟩ 1) (Sl.v x23) := ⟨_, rfl⟩
      have h := h w25 hw25_
      refine RL.opN trivial (OpW.store1E (v := Sl.v x23) size_46 rfl rfl rfl h1 h2 hw25_ ?_)
      refine RL.nil ?_
      refine CW.seq ?_
      refine CW.region ?_
      obtain ⟨x26, h1, h2, h⟩ := h
      refine RL.opS trivial rfl (OpW.loadA agg_49 rfl h1 h2 ?_)
      refine RL.opS trivial rfl (OpW.callR (al := [aggv x26]) Try.func68 fb_68 fn_68 rfl h (fun x27 w28 h => ?_))
      refine RL.opS trivial rfl (OpW.extract (v := aggv x27.1) rfl rfl ?_)
      refine RL.opS trivial rfl (OpW.extract (v := .int .i64 x27.2) rfl rfl ?_)
      obtain ⟨g_, o_, e_, cur_, ha_, h1, h2, h3, h4, h⟩ := h
      obtain ⟨w29, hw29_⟩ : ∃ w_, w_ = w28.setRow g_ (cur_.toList.take o_ ++ x27.1 ++ cur_.toList.drop (o_ + List.length x27.1)).toArray := ⟨_, rfl⟩
      have h := h w29 hw29_
      refine RL.opN trivial (OpW.storeAE (cs := x27.1) size_49 rfl rfl ha_ h1 h2 h3 h4 hw29_ ?_)
      refine RL.opS trivial rfl (OpW.assign (v := .int .i64 x27.2) rfl ?_)
      refine RL.nil ?_
      refine CW.ret ?_
      obtain ⟨x30, hc1, hc2, h⟩ := h
      exact ret_intro (res2c rfl agg_49 rfl hc1 hc2 rfl) ⟨(x30, x27.2), rfl, h⟩
end Go.Proofs.Ytagkcbbbdlmcjaa
end
section
/- The typed readings of the functions, and that the program meets each: written by gen.py (a program of this session). -/
set_option linter.unusedVariables false
set_option linter.unusedSimpArgs false
namespace Go.Proofs.Ytagkcbbbdlmcjaa
open Go.Lift
set_option maxRecDepth 100000 in
set_option maxHeartbeats 4000000 in
theorem s58_calls (K : List Value → World → Prop) (p0 : List Value) (p1 : List Value) (w : World) (h : s58 K p0 p1 w) :
    Calls Try.prog 58 #[aggv p0, aggv p1] w (Ret r58 K) := by
  unfold s58 at h
  refine calls_of_CW (n := 67) Try.func58 rfl rfl rfl ?_
  refine CW.seq ?_
  refine CW.region ?_
  obtain ⟨b1, hb1_⟩ : ∃ b_, b_ = w.heap.size := ⟨_, rfl⟩
  obtain ⟨w2, hw2_⟩ : ∃ w_, w_ = w.alloc (.cells (List.toArray p0) 49) := ⟨_, rfl⟩
  have h := h b1 w2 hb1_ hw2_
  refine RL.opS trivial rfl (OpW.boxE (cs := p0) (rfl) hb1_ hw2_ ?_)
  obtain ⟨b3, hb3_⟩ : ∃ b_, b_ = w2.heap.size := ⟨_, rfl⟩
  obtain ⟨w4, hw4_⟩ : ∃ w_, w_ = w2.alloc (.cells (List.toArray p1) 27) := ⟨_, rfl⟩
  have h := h b3 w4 hb3_ hw4_
  refine RL.opS trivial rfl (OpW.boxE (cs := p1) (rfl) hb3_ hw4_ ?_)
  obtain ⟨b5, hb5_⟩ : ∃ b_, b_ = w4.heap.size := ⟨_, rfl⟩
  obtain ⟨w6, hw6_⟩ : ∃ w_, w_ = w4.alloc (.cells (List.toArray [Value.slice none 0 0, Value.slice none 0 0, Value.slice none 0 0, Value.int .i64 0, Value.bool false]) 49) := ⟨_, rfl⟩
  have h := h b5 w6 hb5_ hw6_
  refine RL.opS trivial rfl (OpW.allocE (b := b5) zero_49 hb5_ hw6_ ?_)
  refine RL.nil ?_
  refine CW.seq ?_
  refine CW.seq ?_
  refine CW.region ?_
  refine RL.opS trivial rfl (OpW.fieldAddr field_49_4 rfl ?_)
  obtain ⟨x7, h1, h⟩ := h
  refine RL.opS trivial rfl (OpW.load1 (v := .bool x7) one_4 rfl h1 ?_)
  refine RL.nil ?_
  obtain ⟨ha, hc⟩ := h
  refine CW.cond (b := x7) rfl (fun hb8 => ?_) (fun hb8 => ?_)
  · have h := ha hb8; clear ha hc
    refine CW.seq ?_
    refine CW.region ?_
    obtain ⟨x9, h1, h2, h⟩ := h
    refine RL.opS trivial rfl (OpW.loadA agg_49 rfl h1 h2 ?_)
    obtain ⟨g_, o_, e_, cur_, ha_, h1, h2, h3, h4, h⟩ := h
    obtain ⟨w10, hw10_⟩ : ∃ w_, w_ = w6.setRow g_ (cur_.toList.take o_ ++ x9 ++ cur_.toList.drop (o_ + List.length x9)).toArray := ⟨_, rfl⟩
    have h := h w10 hw10_
    refine RL.opN trivial (OpW.storeAE (cs := x9) size_49 rfl rfl ha_ h1 h2 h3 h4 hw10_ ?_)
    refine RL.nil ?_
    refine CW.ret ?_
    obtain ⟨x11, hc1, hc2, h⟩ := h
    exact ret_intro (res1c rfl agg_49 rfl hc1 hc2) ⟨x11, rfl, h⟩
  · have h := hc hb8; clear ha hc
    refine CW.skip ?_
    refine CW.seq ?_
    refine CW.region ?_
    refine RL.opS trivial rfl (OpW.fieldAddr field_27_1 rfl ?_)
    obtain ⟨x12, h1, h⟩ := h
    refine RL.opS trivial rfl (OpW.load1 (v := .int .u64 x12) one_25 rfl h1 ?_)
    refine RL.opS trivial rfl (OpW.assign (v := .int .u64 x12) rfl ?_)
    refine RL.nil ?_
    refine CW.seq ?_
    refine CW.seq ?_
    refine CW.region ?_
    refine RL.opS trivial rfl (OpW.assign (v := .int .i64 0) rfl ?_)
    refine RL.nil ?_
    refine CW.block ?_
    obtain ⟨I63, mu64, hI, hs⟩ := h
    refine CW.loop (σ := Int × Int) (fun s13 ρ => ρ 5 = .int .u64 s13.1 ∧ ρ 6 = .int .i64 s13.2 ∧ ρ 2 = .pointer (some ⟨b1, 0, none⟩) ∧ ρ 3 = .pointer (some ⟨b3, 0, none⟩) ∧ ρ 4 = .pointer (some ⟨b5, 0, none⟩)) I63 mu64 (x12, 0) ⟨rfl, rfl, rfl, rfl, rfl⟩ hI ?_
    rintro s13 ρ w14 ⟨e16, e17, e18, e19, e20⟩ hI
    have h := hs s13 w14 hI
    clear hs hI
    refine CW.seq ?_
    refine CW.seq ?_
    refine CW.region ?_
    refine RL.opS trivial rfl (OpW.move (v := .int .i64 s13.2) e17 ?_)
    refine RL.opS trivial rfl (OpW.fieldAddr field_49_1 e18 ?_)
    obtain ⟨x21, h1, h⟩ := h
    refine RL.opS trivial rfl (OpW.load1 (v := Sl.v x21) one_46 rfl h1 ?_)
    refine RL.opS trivial rfl (OpW.len (s := x21) slice_46 rfl ?_)
    refine RL.opS trivial rfl (OpW.bin (k := .i64) (a := s13.2) (b := (x21.len : Int)) (v := .bool (decide (s13.2 < (x21.len : Int)))) rfl rfl rfl ?_)
    refine RL.nil ?_
    obtain ⟨ha, hc⟩ := h
    refine CW.cond (b := (decide (s13.2 < (x21.len : Int)))) rfl (fun hb22 => ?_) (fun hb22 => ?_)
    · have h := ha hb22; clear ha hc
      refine CW.skip ?_
      refine CW.seq ?_
      refine CW.block ?_
      refine CW.seq ?_
      refine CW.region ?_
      refine RL.opS trivial rfl (OpW.fieldAddr field_49_1 e18 ?_)
      obtain ⟨x23, h1, h⟩ := h
      refine RL.opS trivial rfl (OpW.load1 (v := Sl.v x23) one_46 rfl h1 ?_)
      refine RL.opS trivial rfl (OpW.move (v := .int .i64 s13.2) e17 ?_)
      obtain ⟨a24_, a24, h1, h2, h3, h4, h⟩ := h
      refine RL.opS trivial rfl (OpW.indexE (a' := a24) slice_46 rfl rfl h1 h2 h3 h4 ?_)
      obtain ⟨x26, h1, h2, h⟩ := h
      refine RL.opS trivial rfl (OpW.loadA agg_114 rfl h1 h2 ?_)
      obtain ⟨hl_b27, ho_b27, h⟩ := h
      obtain ⟨b27, hb27_⟩ : ∃ b_, b_ = w14.heap.size := ⟨_, rfl⟩
      obtain ⟨w28, hw28_⟩ : ∃ w_, w_ = w14.alloc (.cells (List.toArray x26) 114) := ⟨_, rfl⟩
      have h := h b27 w28 hb27_ hw28_
      refine RL.opS trivial rfl (OpW.allocZ (b := b27) zero_114 hb27_ ?_)
      refine RL.opN trivial (OpW.storeF (zs := [Value.int .i64 0, str []]) (cs := x26) size_114 rfl rfl hl_b27 (by decide) ho_b27 hb27_ hw28_ ?_)
      refine RL.nil ?_
      refine CW.seq ?_
      refine CW.region ?_
      refine RL.opS trivial rfl (OpW.assign (v := .int .i64 0) rfl ?_)
      refine RL.nil ?_
      refine jn_elim h ?_; clear h; intro k56 hk57 h
      refine CW.seqJ (A := Int) (fun s34 ρ => ρ 8 = .int .i64 s34 ∧ ρ 2 = .pointer (some ⟨b1, 0, none⟩) ∧ ρ 3 = .pointer (some ⟨b3, 0, none⟩) ∧ ρ 4 = .pointer (some ⟨b5, 0, none⟩) ∧ ρ 5 = .int .u64 s13.1 ∧ ρ 6 = .int .i64 s13.2 ∧ ρ 7 = .pointer (some ⟨b27, 0, none⟩)) k56 ?_ ?_
      · rintro s34 ρ w35 ⟨e36, e37, e38, e39, e40, e41, e42⟩ h
        subst hk57
        refine CW.seq ?_
        refine CW.region ?_
        refine RL.opS trivial rfl (OpW.move (v := .int .u64 s13.1) e40 ?_)
        refine RL.opS trivial rfl (OpW.quo (a := s13.1) (b := 2) (v := .int .u64 (IntKind.u64.wrap (Int.tdiv s13.1 2))) rfl rfl (by decide) rfl ?_)
        refine RL.opS trivial rfl (OpW.assign (v := .int .u64 (IntKind.u64.wrap (Int.tdiv s13.1 2))) rfl ?_)
        refine RL.nil ?_
        obtain ⟨w43, hw43_⟩ : ∃ w_, w_ = w35.drew := ⟨_, rfl⟩
        have h := h w43 hw43_
        have hx44 : Ext w35 w43 := by rw [hw43_]; exact Ext.drew _
        refine CW.draws (m := 20) (listed := #[false, false, false, false, false, false, false, false, false, false, false, false, false, false, false, false, false, false, false, false]) mixed [0, 1, 2, 3, 4, 5, 6, 7, 8, 9, 10, 11, 12, 13, 14, 15, 16, 18] (Ext w35) rfl rfl ?_
        rw [← hw43_]
        refine DL.takeP (listed' := #[true, false, false, false, false, false, false, false, false, false, false, false, false, false, false, false, false, false, false, false]) (v := .pointer (some (Addr.add ⟨b1, 0, none⟩ 0))) 0 rfl rfl (by kernel_rfl) rfl trivial rfl (fun w_ K_ h_ => OpW.fieldAddr (off := 0) field_49_0 e37 h_) ?_
        obtain ⟨x45, h1, h⟩ := h
        refine DL.takeK (listed' := #[true, true, false, false, false, false, false, false, false, false, false, false, false, false, false, false, false, false, false, false]) (v := Sl.v x45) 1 rfl rfl (by kernel_rfl) (by kernel_rfl) rfl trivial rfl hx44 (fun w_ hS_ K_ h_ => OpW.load1 (v := Sl.v x45) one_45 rfl (hS_.cell h1) h_) ?_
        refine DL.takeP (listed' := #[true, true, true, false, false, false, false, false, false, false, false, false, false, false, false, false, false, false, false, false]) (v := .pointer (some (Addr.add ⟨b27, 0, none⟩ 0))) 2 rfl rfl (by kernel_rfl) rfl trivial rfl (fun w_ K_ h_ => OpW.fieldAddr (off := 0) field_114_0 e42 h_) ?_
        obtain ⟨x46, h1, h⟩ := h
        refine DL.takeK (listed' := #[true, true, true, true, false, false, false, false, false, false, false, false, false, false, false, false, false, false, false, false]) (v := .int .i64 x46) 3 rfl rfl (by kernel_rfl) (by kernel_rfl) rfl trivial rfl hx44 (fun w_ hS_ K_ h_ => OpW.load1 (v := .int .i64 x46) one_3 rfl (hS_.cell h1) h_) ?_
        refine DL.takeP (listed' := #[true, true, true, true, true, false, false, false, false, false, false, false, false, false, false, false, false, false, false, false]) (v := .pointer (some (Addr.add ⟨b27, 0, none⟩ 1))) 4 rfl rfl (by kernel_rfl) rfl trivial rfl (fun w_ K_ h_ => OpW.fieldAddr field_114_1 e42 h_) ?_
        obtain ⟨x47, h1, h⟩ := h
        refine DL.takeK (listed' := #[true, true, true, true, true, true, false, false, false, false, false, false, false, false, false, false, false, false, false, false]) (v := str x47) 5 rfl rfl (by kernel_rfl) (by kernel_rfl) rfl trivial rfl hx44 (fun w_ hS_ K_ h_ => OpW.load1 (v := str x47) one_9 rfl (hS_.cell h1) h_) ?_
        refine DL.takeP (listed' := #[true, true, true, true, true, true, true, false, false, false, false, false, false, false, false, false, false, false, false, false]) (v := .int .i64 s34) 6 rfl rfl (by kernel_rfl) rfl trivial rfl (fun w_ K_ h_ => OpW.move (v := .int .i64 s34) e36 h_) ?_
        obtain ⟨⟨h1, h2, h3⟩, h⟩ := h
        refine DL.takeP (listed' := #[true, true, true, true, true, true, true, true, false, false, false, false, false, false, false, false, false, false, false, false]) (v := str ((x47.take (Int.toNat s34)).drop (Int.toNat 0))) 7 rfl rfl (by kernel_rfl) rfl trivial rfl (fun w_ K_ h_ => OpW.sliceStr (l := 0) (h := s34) str_9 rfl rfl ⟨_, rfl⟩ h1 h2 h3 h_) ?_
        refine DL.takeP (listed' := #[true, true, true, true, true, true, true, true, true, false, false, false, false, false, false, false, false, false, false, false]) (v := .pointer (some (Addr.add ⟨b1, 0, none⟩ 0))) 8 rfl rfl (by kernel_rfl) rfl trivial rfl (fun w_ K_ h_ => OpW.fieldAddr (off := 0) field_49_0 e37 h_) ?_
        obtain ⟨x48, h1, h⟩ := h
        refine DL.takeK (listed' := #[true, true, true, true, true, true, true, true, true, true, false, false, false, false, false, false, false, false, false, false]) (v := Sl.v x48) 9 rfl rfl (by kernel_rfl) (by kernel_rfl) rfl trivial rfl hx44 (fun w_ hS_ K_ h_ => OpW.load1 (v := Sl.v x48) one_45 rfl (hS_.cell h1) h_) ?_
        refine DL.takeP (listed' := #[true, true, true, true, true, true, true, true, true, true, true, false, false, false, false, false, false, false, false, false]) (v := .pointer (some (Addr.add ⟨b27, 0, none⟩ 0))) 10 rfl rfl (by kernel_rfl) rfl trivial rfl (fun w_ K_ h_ => OpW.fieldAddr (off := 0) field_114_0 e42 h_) ?_
        obtain ⟨x49, h1, h⟩ := h
        refine DL.takeK (listed' := #[true, true, true, true, true, true, true, true, true, true, true, true, false, false, false, false, false, false, false, false]) (v := .int .i64 x49) 11 rfl rfl (by kernel_rfl) (by kernel_rfl) rfl trivial rfl hx44 (fun w_ hS_ K_ h_ => OpW.load1 (v := .int .i64 x49) one_3 rfl (hS_.cell h1) h_) ?_
        obtain ⟨a50_, a50, h1, h2, h3, h4, h⟩ := h
        refine DL.takeP (listed' := #[true, true, true, true, true, true, true, true, true, true, true, true, true, false, false, false, false, false, false, false]) (v := .pointer (some a50)) 12 rfl rfl (by kernel_rfl) rfl trivial rfl (fun w_ K_ h_ => OpW.indexE (a' := a50) slice_45 rfl rfl h1 h2 h3 h4 h_) ?_
        obtain ⟨x52, h1, h⟩ := h
        refine DL.takeK (listed' := #[true, true, true, true, true, true, true, true, true, true, true, true, true, true, false, false, false, false, false, false]) (v := str x52) 13 rfl rfl (by kernel_rfl) (by kernel_rfl) rfl trivial rfl hx44 (fun w_ hS_ K_ h_ => OpW.load1 (v := str x52) one_9 rfl (hS_.cell h1) h_) ?_
        refine DL.takeP (listed' := #[true, true, true, true, true, true, true, true, true, true, true, true, true, true, true, false, false, false, false, false]) (v := .int .i64 s34) 14 rfl rfl (by kernel_rfl) rfl trivial rfl (fun w_ K_ h_ => OpW.move (v := .int .i64 s34) e36 h_) ?_
        obtain ⟨⟨h1, h2, h3⟩, h⟩ := h
        refine DL.takeP (listed' := #[true, true, true, true, true, true, true, true, true, true, true, true, true, true, true, true, false, false, false, false]) (v := str ((x52.take (Int.toNat (x52.length : Int))).drop (Int.toNat s34))) 15 rfl rfl (by kernel_rfl) rfl trivial rfl (fun w_ K_ h_ => OpW.sliceStr (l := s34) (h := (x52.length : Int)) str_9 rfl ⟨_, rfl⟩ rfl h1 h2 h3 h_) ?_
        obtain ⟨hq_, h⟩ := h
        refine DL.takeP (listed' := #[true, true, true, true, true, true, true, true, true, true, true, true, true, true, true, true, true, false, false, false]) (v := str (((x47.take (Int.toNat s34)).drop (Int.toNat 0)) ++ ((x52.take (Int.toNat (x52.length : Int))).drop (Int.toNat s34)))) 16 rfl rfl (by kernel_rfl) rfl trivial rfl (fun w_ K_ h_ => OpW.strAdd rfl rfl hq_ h_) ?_
        refine DL.execS (listed' := #[true, true, true, true, true, true, true, true, true, true, true, true, true, true, true, true, true, true, false, false]) 17 rfl (by kernel_rfl) rfl trivial rfl (OpW.callR (al := [Sl.v x45, .int .i64 x46, str (((x47.take (Int.toNat s34)).drop (Int.toNat 0)) ++ ((x52.take (Int.toNat (x52.length : Int))).drop (Int.toNat s34)))]) Try.func82 fb_82 fn_82 rfl h (fun x53 w54 h => ?_))
        refine ⟨(fun h_ => absurd h_ (by decide)), ?_⟩
        refine DL.takeP (listed' := #[true, true, true, true, true, true, true, true, true, true, true, true, true, true, true, true, true, true, true, false]) (v := .pointer (some (Addr.add ⟨b1, 0, none⟩ 0))) 18 rfl rfl (by kernel_rfl) rfl trivial rfl (fun w_ K_ h_ => OpW.fieldAddr (off := 0) field_49_0 e37 h_) ?_
        obtain ⟨u_, h1, h2, h⟩ := h
        obtain ⟨w55, hw55_⟩ : ∃ w_, w_ = w54.setCell (Addr.add ⟨b1, 0, none⟩ 0) (Sl.v x53) := ⟨_, rfl⟩
        have h := h w55 hw55_
        refine DL.execN (listed' := #[true, true, true, true, true, true, true, true, true, true, true, true, true, true, true, true, true, true, true, true]) 19 rfl (by kernel_rfl) rfl trivial (OpW.store1E (v := Sl.v x53) size_45 rfl rfl rfl h1 h2 hw55_ ?_)
        refine ⟨(fun h_ => absurd h_ (by decide)), ?_⟩
        refine DL.done (by kernel_rfl) ?_
        refine CW.region ?_
        refine RL.opS trivial rfl (OpW.move (v := .int .i64 s13.2) e41 ?_)
        refine RL.opS trivial rfl (OpW.bin (k := .i64) (a := s13.2) (b := 1) (v := .int .i64 (IntKind.i64.wrap (s13.2 + 1))) rfl rfl rfl ?_)
        refine RL.opS trivial rfl (OpW.assign (v := .int .i64 (IntKind.i64.wrap (s13.2 + 1))) rfl ?_)
        refine RL.nil ?_
        exact ⟨((IntKind.u64.wrap (Int.tdiv s13.1 2)), (IntKind.i64.wrap (s13.2 + 1))), ⟨rfl, rfl, e37, e38, e39⟩, h⟩
      · clear hk57
        refine CW.seq ?_
        refine CW.region ?_
        refine RL.opS trivial rfl (OpW.move (v := .int .u64 s13.1) e16 ?_)
        refine RL.opS trivial rfl (OpW.quo (a := s13.1) (b := 2) (v := .int .u64 (Int.tmod s13.1 2)) rfl rfl (by decide) rfl ?_)
        refine RL.opS trivial rfl (OpW.bin (k := .u64) (a := (Int.tmod s13.1 2)) (b := 1) (v := .bool (decide ((Int.tmod s13.1 2) = 1))) rfl rfl rfl ?_)
        refine RL.nil ?_
        obtain ⟨ha, hc⟩ := h
        refine CW.cond (b := (decide ((Int.tmod s13.1 2) = 1))) rfl (fun hb30 => ?_) (fun hb30 => ?_)
        · have h := ha hb30; clear ha hc
          refine CW.region ?_
          refine RL.opS trivial rfl (OpW.assign (v := .int .i64 512) rfl ?_)
          refine RL.nil ?_
          exact ⟨512, ⟨rfl, e18, e19, e20, e16, e17, rfl⟩, h⟩
        · have h := hc hb30; clear ha hc
          refine CW.seq ?_
          refine CW.region ?_
          refine RL.opS trivial rfl (OpW.move (v := .int .i64 s13.2) e17 ?_)
          refine RL.opS trivial rfl (OpW.fieldAddr field_49_1 e18 ?_)
          obtain ⟨x31, h1, h⟩ := h
          refine RL.opS trivial rfl (OpW.load1 (v := Sl.v x31) one_46 rfl h1 ?_)
          refine RL.opS trivial rfl (OpW.len (s := x31) slice_46 rfl ?_)
          refine RL.opS trivial rfl (OpW.bin (k := .i64) (a := (x31.len : Int)) (b := 1) (v := .int .i64 (IntKind.i64.wrap ((x31.len : Int) - 1))) rfl rfl rfl ?_)
          refine RL.opS trivial rfl (OpW.bin (k := .i64) (a := s13.2) (b := (IntKind.i64.wrap ((x31.len : Int) - 1))) (v := .bool (decide (s13.2 = (IntKind.i64.wrap ((x31.len : Int) - 1))))) rfl rfl rfl ?_)
          refine RL.nil ?_
          obtain ⟨ha, hc⟩ := h
          refine CW.cond (b := (decide (s13.2 = (IntKind.i64.wrap ((x31.len : Int) - 1))))) rfl (fun hb32 => ?_) (fun hb32 => ?_)
          · have h := ha hb32; clear ha hc
            refine CW.region ?_
            refine RL.opS trivial rfl (OpW.fieldAddr field_27_2 e19 ?_)
            obtain ⟨x33, h1, h⟩ := h
            refine RL.opS trivial rfl (OpW.load1 (v := .int .i64 x33) one_3 rfl h1 ?_)
            refine RL.opS trivial rfl (OpW.min2 (a := x33) (b := 512) rfl rfl ?_)
            refine RL.opS trivial rfl (OpW.max2 (a := 0) (b := (mn x33 512)) rfl rfl ?_)
            refine RL.opS trivial rfl (OpW.assign (v := .int .i64 (mx 0 (mn x33 512))) rfl ?_)
            refine RL.nil ?_
            exact ⟨(mx 0 (mn x33 512)), ⟨rfl, e18, e19, e20, e16, e17, rfl⟩, h⟩
          · have h := hc hb32; clear ha hc
            refine CW.skip ?_
            exact ⟨0, ⟨rfl, e18, e19, e20, e16, e17, rfl⟩, h⟩
    · have h := hc hb22; clear ha hc
      refine CW.exit ?_
      refine CW.seq ?_
      refine CW.region ?_
      refine RL.opS trivial rfl (OpW.fieldAddr (off := 0) field_49_0 e18 ?_)
      obtain ⟨x58, h1, h⟩ := h
      refine RL.opS trivial rfl (OpW.load1 (v := Sl.v x58) one_45 rfl h1 ?_)
      refine RL.opS trivial rfl (OpW.fieldAddr field_49_2 e18 ?_)
      obtain ⟨x59, h1, h⟩ := h
      refine RL.opS trivial rfl (OpW.load1 (v := Sl.v x59) one_47 rfl h1 ?_)
      refine RL.opS trivial rfl (OpW.fieldAddr field_49_3 e18 ?_)
      obtain ⟨x60, h1, h⟩ := h
      refine RL.opS trivial rfl (OpW.load1 (v := .int .i64 x60) one_3 rfl h1 ?_)
      refine RL.opS trivial rfl (OpW.buildL (vs := [(0, Sl.v x58), (2, Sl.v x59), (3, .int .i64 x60), (4, .bool true)]) (cs := [Sl.v x58, Value.slice none 0 0, Sl.v x59, .int .i64 x60, .bool true]) (by rfl) (fun _ => by kernel_rfl) ?_)
      obtain ⟨g_, o_, e_, cur_, ha_, h1, h2, h3, h4, h⟩ := h
      obtain ⟨w61, hw61_⟩ : ∃ w_, w_ = w14.setRow g_ (cur_.toList.take o_ ++ [Sl.v x58, Value.slice none 0 0, Sl.v x59, .int .i64 x60, .bool true] ++ cur_.toList.drop (o_ + List.length [Sl.v x58, Value.slice none 0 0, Sl.v x59, .int .i64 x60, .bool true])).toArray := ⟨_, rfl⟩
      have h := h w61 hw61_
      refine RL.opN trivial (OpW.storeAE (cs := [Sl.v x58, Value.slice none 0 0, Sl.v x59, .int .i64 x60, .bool true]) size_49 e20 rfl ha_ h1 h2 h3 h4 hw61_ ?_)
      refine RL.nil ?_
      refine CW.ret ?_
      obtain ⟨x62, hc1, hc2, h⟩ := h
      exact ret_intro (res1c rfl agg_49 e20 hc1 hc2) ⟨x62, rfl, h⟩
end Go.Proofs.Ytagkcbbbdlmcjaa
end
section
/- The typed readings of the functions, and that the program meets each: written by gen.py (a program of this session). -/
set_option linter.unusedVariables false
set_option linter.unusedSimpArgs false
namespace Go.Proofs.Ytagkcbbbdlmcjaa
open Go.Lift
set_option maxRecDepth 100000 in
set_option maxHeartbeats 4000000 in
theorem s65_calls (K : List Value × Int → World → Prop) (p0 : List Value) (w : World) (h : s65 K p0 w) :
    Calls Try.prog 65 #[aggv p0] w (Ret r65 K) := by
  unfold s65 at h
  refine calls_of_CW (n := 44) Try.func65 rfl rfl rfl ?_
  refine CW.seq ?_
  refine CW.region ?_
  obtain ⟨b1, hb1_⟩ : ∃ b_, b_ = w.heap.size := ⟨_, rfl⟩
  obtain ⟨w2, hw2_⟩ : ∃ w_, w_ = w.alloc (.cells (List.toArray p0) 49) := ⟨_, rfl⟩
  have h := h b1 w2 hb1_ hw2_
  refine RL.opS trivial rfl (OpW.boxE (cs := p0) (rfl) hb1_ hw2_ ?_)
  obtain ⟨b3, hb3_⟩ : ∃ b_, b_ = w2.heap.size := ⟨_, rfl⟩
  obtain ⟨w4, hw4_⟩ : ∃ w_, w_ = w2.alloc (.cells (List.toArray [Value.slice none 0 0, Value.slice none 0 0, Value.slice none 0 0, Value.int .i64 0, Value.bool false]) 49) := ⟨_, rfl⟩
  have h := h b3 w4 hb3_ hw4_
  refine RL.opS trivial rfl (OpW.allocE (b := b3) zero_49 hb3_ hw4_ ?_)
  refine RL.opS trivial rfl (OpW.assign (v := .int .i64 0) rfl ?_)
  refine RL.nil ?_
  refine CW.seq ?_
  refine CW.seq ?_
  refine CW.region ?_
  refine RL.opS trivial rfl (OpW.fieldAddr field_49_4 rfl ?_)
  obtain ⟨x5, h1, h⟩ := h
  refine RL.opS trivial rfl (OpW.load1 (v := .bool x5) one_4 rfl h1 ?_)
  refine RL.nil ?_
  obtain ⟨ha, hc⟩ := h
  refine CW.cond (b := x5) rfl (fun hb6 => ?_) (fun hb6 => ?_)
  · have h := ha hb6; clear ha hc
    refine CW.seq ?_
    refine CW.region ?_
    obtain ⟨x7, h1, h2, h⟩ := h
    refine RL.opS trivial rfl (OpW.loadA agg_49 rfl h1 h2 ?_)
    obtain ⟨g_, o_, e_, cur_, ha_, h1, h2, h3, h4, h⟩ := h
    obtain ⟨w8, hw8_⟩ : ∃ w_, w_ = w4.setRow g_ (cur_.toList.take o_ ++ x7 ++ cur_.toList.drop (o_ + List.length x7)).toArray := ⟨_, rfl⟩
    have h := h w8 hw8_
    refine RL.opN trivial (OpW.storeAE (cs := x7) size_49 rfl rfl ha_ h1 h2 h3 h4 hw8_ ?_)
    refine RL.opS trivial rfl (OpW.assign (v := .int .i64 6) rfl ?_)
    refine RL.nil ?_
    refine CW.ret ?_
    obtain ⟨x9, hc1, hc2, h⟩ := h
    exact ret_intro (res2c rfl agg_49 rfl hc1 hc2 rfl) ⟨(x9, 6), rfl, h⟩
  · have h := hc hb6; clear ha hc
    refine CW.skip ?_
    refine CW.seq ?_
    refine CW.region ?_
    obtain ⟨x10, h1, h2, h⟩ := h
    refine RL.opS trivial rfl (OpW.loadA agg_49 rfl h1 h2 ?_)
    refine RL.opS trivial rfl (OpW.callR (al := [aggv x10]) Try.func68 fb_68 fn_68 rfl h (fun x11 w12 h => ?_))
    refine RL.opS trivial rfl (OpW.move (v := .tuple #[aggv x11.1, .int .i64 x11.2]) rfl ?_)
    refine RL.opS trivial rfl (OpW.extract (v := aggv x11.1) rfl rfl ?_)
    refine RL.opS trivial rfl (OpW.extract (v := .int .i64 x11.2) rfl rfl ?_)
    obtain ⟨hl_b13, ho_b13, h⟩ := h
    obtain ⟨b13, hb13_⟩ : ∃ b_, b_ = w12.heap.size := ⟨_, rfl⟩
    obtain ⟨w14, hw14_⟩ : ∃ w_, w_ = w12.alloc (.cells (List.toArray x11.1) 49) := ⟨_, rfl⟩
    have h := h b13 w14 hb13_ hw14_
    refine RL.opS trivial rfl (OpW.allocZ (b := b13) zero_49 hb13_ ?_)
    refine RL.opN trivial (OpW.storeF (zs := [Value.slice none 0 0, Value.slice none 0 0, Value.slice none 0 0, Value.int .i64 0, Value.bool false]) (cs := x11.1) size_49 rfl rfl hl_b13 (by decide) ho_b13 hb13_ hw14_ ?_)
    refine RL.opS trivial rfl (OpW.assign (v := .int .i64 x11.2) rfl ?_)
    refine RL.nil ?_
    refine CW.seq ?_
    refine CW.seq ?_
    refine CW.region ?_
    refine RL.opS trivial rfl (OpW.move (v := .int .i64 x11.2) rfl ?_)
    refine RL.opS trivial rfl (OpW.bin (k := .i64) (a := x11.2) (b := 0) (v := .bool (!decide (x11.2 = 0))) rfl rfl rfl ?_)
    refine RL.nil ?_
    obtain ⟨ha, hc⟩ := h
    refine CW.cond (b := (!decide (x11.2 = 0))) rfl (fun hb15 => ?_) (fun hb15 => ?_)
    · have h := ha hb15; clear ha hc
      refine CW.seq ?_
      refine CW.region ?_
      obtain ⟨x16, h1, h2, h⟩ := h
      refine RL.opS trivial rfl (OpW.loadA agg_49 rfl h1 h2 ?_)
      refine RL.opS trivial rfl (OpW.move (v := .int .i64 x11.2) rfl ?_)
      obtain ⟨g_, o_, e_, cur_, ha_, h1, h2, h3, h4, h⟩ := h
      obtain ⟨w17, hw17_⟩ : ∃ w_, w_ = w14.setRow g_ (cur_.toList.take o_ ++ x16 ++ cur_.toList.drop (o_ + List.length x16)).toArray := ⟨_, rfl⟩
      have h := h w17 hw17_
      refine RL.opN trivial (OpW.storeAE (cs := x16) size_49 rfl rfl ha_ h1 h2 h3 h4 hw17_ ?_)
      refine RL.opS trivial rfl (OpW.assign (v := .int .i64 x11.2) rfl ?_)
      refine RL.nil ?_
      refine CW.ret ?_
      obtain ⟨x18, hc1, hc2, h⟩ := h
      exact ret_intro (res2c rfl agg_49 rfl hc1 hc2 rfl) ⟨(x18, x11.2), rfl, h⟩
    · have h := hc hb15; clear ha hc
      refine CW.skip ?_
      refine CW.seq ?_
      refine CW.seq ?_
      refine CW.region ?_
      refine RL.opS trivial rfl (OpW.assign (v := .int .i64 0) rfl ?_)
      refine RL.nil ?_
      refine CW.block ?_
      obtain ⟨I45, mu46, hI, hs⟩ := h
      refine CW.loop (σ := Int) (fun s19 ρ => ρ 6 = .int .i64 s19 ∧ ρ 2 = .pointer (some ⟨b3, 0, none⟩) ∧ ρ 4 = .pointer (some ⟨b13, 0, none⟩)) I45 mu46 0 ⟨rfl, rfl, rfl⟩ hI ?_
      rintro s19 ρ w20 ⟨e22, e23, e24⟩ hI
      have h := hs s19 w20 hI
      clear hs hI
      refine CW.seq ?_
      refine CW.seq ?_
      refine CW.region ?_
      refine RL.opS trivial rfl (OpW.move (v := .int .i64 s19) e22 ?_)
      refine RL.opS trivial rfl (OpW.fieldAddr field_49_1 e24 ?_)
      obtain ⟨x25, h1, h⟩ := h
      refine RL.opS trivial rfl (OpW.load1 (v := Sl.v x25) one_46 rfl h1 ?_)
      refine RL.opS trivial rfl (OpW.len (s := x25) slice_46 rfl ?_)
      refine RL.opS trivial rfl (OpW.bin (k := .i64) (a := s19) (b := (x25.len : Int)) (v := .bool (decide (s19 < (x25.len : Int)))) rfl rfl rfl ?_)
      refine RL.nil ?_
      obtain ⟨ha, hc⟩ := h
      refine CW.cond (b := (decide (s19 < (x25.len : Int)))) rfl (fun hb26 => ?_) (fun hb26 => ?_)
      · have h := ha hb26; clear ha hc
        refine CW.skip ?_
        refine CW.seq ?_
        refine CW.block ?_
        obtain ⟨w27, hw27_⟩ : ∃ w_, w_ = w20.drew := ⟨_, rfl⟩
        have h := h w27 hw27_
        have hx28 : Ext w20 w27 := by rw [hw27_]; exact Ext.drew _
        refine CW.draws (m := 17) (listed := #[false, false, false, false, false, false, false, false, false, false, false, false, false, false, false, false, false]) mixed [0, 1, 2, 3, 4, 5, 6, 7, 8, 9, 10, 11, 12, 13, 15] (Ext w20) rfl rfl ?_
        rw [← hw27_]
        refine DL.takeP (listed' := #[true, false, false, false, false, false, false, false, false, false, false, false, false, false, false, false, false]) (v := .pointer (some (Addr.add ⟨b13, 0, none⟩ 0))) 0 rfl rfl (by kernel_rfl) rfl trivial rfl (fun w_ K_ h_ => OpW.fieldAddr (off := 0) field_49_0 e24 h_) ?_
        obtain ⟨x29, h1, h⟩ := h
        refine DL.takeK (listed' := #[true, true, false, false, false, false, false, false, false, false, false, false, false, false, false, false, false]) (v := Sl.v x29) 1 rfl rfl (by kernel_rfl) (by kernel_rfl) rfl trivial rfl hx28 (fun w_ hS_ K_ h_ => OpW.load1 (v := Sl.v x29) one_45 rfl (hS_.cell h1) h_) ?_
        refine DL.takeP (listed' := #[true, true, true, false, false, false, false, false, false, false, false, false, false, false, false, false, false]) (v := .pointer (some (Addr.add ⟨b13, 0, none⟩ 1))) 2 rfl rfl (by kernel_rfl) rfl trivial rfl (fun w_ K_ h_ => OpW.fieldAddr field_49_1 e24 h_) ?_
        obtain ⟨x30, h1, h⟩ := h
        refine DL.takeK (listed' := #[true, true, true, true, false, false, false, false, false, false, false, false, false, false, false, false, false]) (v := Sl.v x30) 3 rfl rfl (by kernel_rfl) (by kernel_rfl) rfl trivial rfl hx28 (fun w_ hS_ K_ h_ => OpW.load1 (v := Sl.v x30) one_46 rfl (hS_.cell h1) h_) ?_
        refine DL.takeP (listed' := #[true, true, true, true, true, false, false, false, false, false, false, false, false, false, false, false, false]) (v := .int .i64 s19) 4 rfl rfl (by kernel_rfl) rfl trivial rfl (fun w_ K_ h_ => OpW.move (v := .int .i64 s19) e22 h_) ?_
        obtain ⟨a31_, a31, h1, h2, h3, h4, h⟩ := h
        refine DL.takeP (listed' := #[true, true, true, true, true, true, false, false, false, false, false, false, false, false, false, false, false]) (v := .pointer (some a31)) 5 rfl rfl (by kernel_rfl) rfl trivial rfl (fun w_ K_ h_ => OpW.indexE (a' := a31) slice_46 rfl rfl h1 h2 h3 h4 h_) ?_
        refine DL.takeP (listed' := #[true, true, true, true, true, true, true, false, false, false, false, false, false, false, false, false, false]) (v := .pointer (some (Addr.add a31 0))) 6 rfl rfl (by kernel_rfl) rfl trivial rfl (fun w_ K_ h_ => OpW.fieldAddr (off := 0) field_114_0 rfl h_) ?_
        obtain ⟨x33, h1, h⟩ := h
        refine DL.takeK (listed' := #[true, true, true, true, true, true, true, true, false, false, false, false, false, false, false, false, false]) (v := .int .i64 x33) 7 rfl rfl (by kernel_rfl) (by kernel_rfl) rfl trivial rfl hx28 (fun w_ hS_ K_ h_ => OpW.load1 (v := .int .i64 x33) one_3 rfl (hS_.cell h1) h_) ?_
        refine DL.takeP (listed' := #[true, true, true, true, true, true, true, true, true, false, false, false, false, false, false, false, false]) (v := .pointer (some (Addr.add ⟨b13, 0, none⟩ 1))) 8 rfl rfl (by kernel_rfl) rfl trivial rfl (fun w_ K_ h_ => OpW.fieldAddr field_49_1 e24 h_) ?_
        obtain ⟨x34, h1, h⟩ := h
        refine DL.takeK (listed' := #[true, true, true, true, true, true, true, true, true, true, false, false, false, false, false, false, false]) (v := Sl.v x34) 9 rfl rfl (by kernel_rfl) (by kernel_rfl) rfl trivial rfl hx28 (fun w_ hS_ K_ h_ => OpW.load1 (v := Sl.v x34) one_46 rfl (hS_.cell h1) h_) ?_
        refine DL.takeP (listed' := #[true, true, true, true, true, true, true, true, true, true, true, false, false, false, false, false, false]) (v := .int .i64 s19) 10 rfl rfl (by kernel_rfl) rfl trivial rfl (fun w_ K_ h_ => OpW.move (v := .int .i64 s19) e22 h_) ?_
        obtain ⟨a35_, a35, h1, h2, h3, h4, h⟩ := h
        refine DL.takeP (listed' := #[true, true, true, true, true, true, true, true, true, true, true, true, false, false, false, false, false]) (v := .pointer (some a35)) 11 rfl rfl (by kernel_rfl) rfl trivial rfl (fun w_ K_ h_ => OpW.indexE (a' := a35) slice_46 rfl rfl h1 h2 h3 h4 h_) ?_
        refine DL.takeP (listed' := #[true, true, true, true, true, true, true, true, true, true, true, true, true, false, false, false, false]) (v := .pointer (some (Addr.add a35 1))) 12 rfl rfl (by kernel_rfl) rfl trivial rfl (fun w_ K_ h_ => OpW.fieldAddr field_114_1 rfl h_) ?_
        obtain ⟨x37, h1, h⟩ := h
        refine DL.takeK (listed' := #[true, true, true, true, true, true, true, true, true, true, true, true, true, true, false, false, false]) (v := str x37) 13 rfl rfl (by kernel_rfl) (by kernel_rfl) rfl trivial rfl hx28 (fun w_ hS_ K_ h_ => OpW.load1 (v := str x37) one_9 rfl (hS_.cell h1) h_) ?_
        refine DL.execS (listed' := #[true, true, true, true, true, true, true, true, true, true, true, true, true, true, true, false, false]) 14 rfl (by kernel_rfl) rfl trivial rfl (OpW.callR (al := [Sl.v x29, .int .i64 x33, str x37]) Try.func82 fb_82 fn_82 rfl h (fun x38 w39 h => ?_))
        refine ⟨(fun h_ => absurd h_ (by decide)), ?_⟩
        refine DL.takeP (listed' := #[true, true, true, true, true, true, true, true, true, true, true, true, true, true, true, true, false]) (v := .pointer (some (Addr.add ⟨b13, 0, none⟩ 0))) 15 rfl rfl (by kernel_rfl) rfl trivial rfl (fun w_ K_ h_ => OpW.fieldAddr (off := 0) field_49_0 e24 h_) ?_
        obtain ⟨u_, h1, h2, h⟩ := h
        obtain ⟨w40, hw40_⟩ : ∃ w_, w_ = w39.setCell (Addr.add ⟨b13, 0, none⟩ 0) (Sl.v x38) := ⟨_, rfl⟩
        have h := h w40 hw40_
        refine DL.execN (listed' := #[true, true, true, true, true, true, true, true, true, true, true, true, true, true, true, true, true]) 16 rfl (by kernel_rfl) rfl trivial (OpW.store1E (v := Sl.v x38) size_45 rfl rfl rfl h1 h2 hw40_ ?_)
        refine ⟨(fun h_ => absurd h_ (by decide)), ?_⟩
        refine DL.done (by kernel_rfl) ?_
        refine CW.region ?_
        refine RL.opS trivial rfl (OpW.move (v := .int .i64 s19) e22 ?_)
        refine RL.opS trivial rfl (OpW.bin (k := .i64) (a := s19) (b := 1) (v := .int .i64 (IntKind.i64.wrap (s19 + 1))) rfl rfl rfl ?_)
        refine RL.opS trivial rfl (OpW.assign (v := .int .i64 (IntKind.i64.wrap (s19 + 1))) rfl ?_)
        refine RL.nil ?_
        exact ⟨(IntKind.i64.wrap (s19 + 1)), ⟨rfl, e23, e24⟩, h⟩
      · have h := hc hb26; clear ha hc
        refine CW.exit ?_
        refine CW.seq ?_
        refine CW.region ?_
        refine RL.opS trivial rfl (OpW.fieldAddr field_49_1 e24 ?_)
        obtain ⟨u_, h1, h2, h⟩ := h
        obtain ⟨w41, hw41_⟩ : ∃ w_, w_ = w20.setCell (Addr.add ⟨b13, 0, none⟩ 1) (Sl.v nilSl) := ⟨_, rfl⟩
        have h := h w41 hw41_
        refine RL.opN trivial (OpW.store1E (v := Sl.v nilSl) size_46 rfl rfl rfl h1 h2 hw41_ ?_)
        refine RL.nil ?_
        refine CW.seq ?_
        refine CW.region ?_
        obtain ⟨x42, h1, h2, h⟩ := h
        refine RL.opS trivial rfl (OpW.loadA agg_49 e24 h1 h2 ?_)
        obtain ⟨g_, o_, e_, cur_, ha_, h1, h2, h3, h4, h⟩ := h
        obtain ⟨w43, hw43_⟩ : ∃ w_, w_ = w41.setRow g_ (cur_.toList.take o_ ++ x42 ++ cur_.toList.drop (o_ + List.length x42)).toArray := ⟨_, rfl⟩
        have h := h w43 hw43_
        refine RL.opN trivial (OpW.storeAE (cs := x42) size_49 e23 rfl ha_ h1 h2 h3 h4 hw43_ ?_)
        refine RL.opS trivial rfl (OpW.assign (v := .int .i64 0) rfl ?_)
        refine RL.nil ?_
        refine CW.ret ?_
        obtain ⟨x44, hc1, hc2, h⟩ := h
        exact ret_intro (res2c rfl agg_49 e23 hc1 hc2 rfl) ⟨(x44, 0), rfl, h⟩
end Go.Proofs.Ytagkcbbbdlmcjaa
end
section
/- The typed readings of the functions, and that the program meets each: written by gen.py (a program of this session). -/
set_option linter.unusedVariables false
set_option linter.unusedSimpArgs false
namespace Go.Proofs.Ytagkcbbbdlmcjaa
open Go.Lift
set_option maxRecDepth 100000 in
set_option maxHeartbeats 4000000 in
theorem s66_calls (K : Int → World → Prop) (p0 : List Value) (p1 : Int) (w : World) (h : s66 K p0 p1 w) :
    Calls Try.prog 66 #[aggv p0, .int .i64 p1] w (Ret r66 K) := by
  unfold s66 at h
  refine calls_of_CW (n := 16) Try.func66 rfl rfl rfl ?_
  refine CW.seq ?_
  refine CW.region ?_
  obtain ⟨b1, hb1_⟩ : ∃ b_, b_ = w.heap.size := ⟨_, rfl⟩
  obtain ⟨w2, hw2_⟩ : ∃ w_, w_ = w.alloc (.cells (List.toArray p0) 49) := ⟨_, rfl⟩
  have h := h b1 w2 hb1_ hw2_
  refine RL.opS trivial rfl (OpW.boxE (cs := p0) (rfl) hb1_ hw2_ ?_)
  refine RL.opS trivial rfl (OpW.assign (v := .int .i64 0) rfl ?_)
  refine RL.nil ?_
  refine CW.seq ?_
  refine CW.seq ?_
  refine CW.region ?_
  refine RL.opS trivial rfl (OpW.fieldAddr field_49_4 rfl ?_)
  obtain ⟨x3, h1, h⟩ := h
  refine RL.opS trivial rfl (OpW.load1 (v := .bool x3) one_4 rfl h1 ?_)
  refine RL.nil ?_
  obtain ⟨ha, hc⟩ := h
  refine CW.cond (b := x3) rfl (fun hb4 => ?_) (fun hb4 => ?_)
  · have h := ha hb4; clear ha hc
    refine CW.seq ?_
    refine CW.region ?_
    refine RL.opS trivial rfl (OpW.assign (v := .int .i64 6) rfl ?_)
    refine RL.nil ?_
    refine CW.ret ?_
    exact ret_intro (res1 rfl rfl) ⟨6, rfl, h⟩
  · have h := hc hb4; clear ha hc
    refine CW.skip ?_
    refine CW.seq ?_
    refine CW.seq ?_
    refine CW.region ?_
    refine RL.opS trivial rfl (OpW.move (v := .int .i64 p1) rfl ?_)
    refine RL.opS trivial rfl (OpW.bin (k := .i64) (a := p1) (b := 0) (v := .bool (decide (p1 < 0))) rfl rfl rfl ?_)
    refine RL.opS trivial rfl (OpW.move (v := .bool (decide (p1 < 0))) rfl ?_)
    refine jn_elim h ?_; clear h; intro k12 hk13 h
    refine RL.joinAt (A := Bool) 6 (fun s8 ρ => ρ 15 = .bool s8) k12 ?_ ?_
    · rintro s8 ρ w9 e10 h
      subst hk13
      dsimp only [List.drop]
      refine RL.nil ?_
      obtain ⟨ha, hc⟩ := h
      refine CW.cond (b := s8) e10 (fun hb11 => ?_) (fun hb11 => ?_)
      · have h := ha hb11; clear ha hc
        refine CW.seq ?_
        refine CW.region ?_
        refine RL.opS trivial rfl (OpW.assign (v := .int .i64 2) rfl ?_)
        refine RL.nil ?_
        refine CW.ret ?_
        exact ret_intro (res1 rfl rfl) ⟨2, rfl, h⟩
      · have h := hc hb11; clear ha hc
        refine CW.skip ?_
        refine CW.seq ?_
        refine CW.region ?_
        refine RL.opS trivial rfl (OpW.assign (v := .int .i64 0) rfl ?_)
        refine RL.nil ?_
        refine CW.ret ?_
        exact ret_intro (res1 rfl rfl) ⟨0, rfl, h⟩
    · clear hk13
      dsimp only [List.take]
      obtain ⟨ha, hc⟩ := h
      rcases Bool.eq_false_or_eq_true (decide (p1 < 0)) with hb5 | hb5
      · have h := ha hb5; clear ha hc
        refine RL.skipS (notWanted_of rfl rfl hb5) rfl ?_
        refine RL.skipS (notWanted_of rfl rfl hb5) rfl ?_
        refine RL.skipS (notWanted_of rfl rfl hb5) rfl ?_
        refine RL.skipS (notWanted_of rfl rfl hb5) rfl ?_
        refine RL.skipS (notWanted_of rfl rfl hb5) rfl ?_
        refine RL.opS trivial rfl (OpW.pick (b := true) (v := .bool true) (congrArg Value.bool hb5) rfl ?_)
        refine RL.nil ?_
        exact ⟨true, rfl, h⟩
      · have h := hc hb5; clear ha hc
        refine RL.opS (wanted_of rfl rfl hb5) rfl (OpW.move (v := .int .i64 p1) rfl ?_)
        refine RL.opS (wanted_of rfl rfl hb5) rfl (OpW.fieldAddr (off := 0) field_49_0 rfl ?_)
        obtain ⟨x7, h1, h⟩ := h
        refine RL.opS (wanted_of rfl rfl hb5) rfl (OpW.load1 (v := Sl.v x7) one_45 rfl h1 ?_)
        refine RL.opS (wanted_of rfl rfl hb5) rfl (OpW.len (s := x7) slice_45 rfl ?_)
        refine RL.opS (wanted_of rfl rfl hb5) rfl (OpW.bin (k := .i64) (a := p1) (b := (x7.len : Int)) (v := .bool (decide ((x7.len : Int) ≤ p1))) rfl rfl rfl ?_)
        refine RL.opS trivial rfl (OpW.pick (b := false) (v := .bool (decide ((x7.len : Int) ≤ p1))) (congrArg Value.bool hb5) rfl ?_)
        refine RL.nil ?_
        exact ⟨(decide ((x7.len : Int) ≤ p1)), rfl, h⟩
end Go.Proofs.Ytagkcbbbdlmcjaa
end
