/- How disks come to be: new ones, clones; a plan; a block to write; and a nil disk. -/
import Derived.Test.YtagkcbbbdlmcjaaDiskOps
set_option linter.unusedVariables false
set_option linter.unusedSimpArgs false
namespace Go.Proofs.Ytagkcbbbdlmcjaa
open Go.Lift Go.Lift.Disk Go.RowKit
def zero512 : List UInt8 := List.replicate 512 0
def fresh (n : Nat) : Dk := ⟨List.replicate n (zero512, zero512), [], [], 0, false⟩
theorem zeros_u8' (m : Nat) : List.replicate m (Value.int .u8 0) = u8s (List.replicate m 0) := by simp [u8s]
theorem flat_zeros (n : Nat) : flatB (List.replicate n (zero512, zero512)) = List.replicate (1024 * n) 0 := by
  induction n with
  | zero => rfl
  | succ n ih =>
    rw [List.replicate_succ]
    unfold flatB at ih ⊢
    rw [List.flatMap_cons, ih]
    unfold zero512
    simp only [List.replicate_append_replicate]
    congr 1
    omega
theorem fresh_wf {n : Nat} (h0 : 0 < n) (h1 : n ≤ 4096) : (fresh n).Wf := by
  refine ⟨by simp [fresh]; exact h0, by simp [fresh]; exact h1, ?_, by simp [fresh], by simp [fresh], by simp [fresh], by simp [fresh], by simp [fresh]⟩
  intro p hp
  rw [List.eq_of_mem_replicate hp]
  exact ⟨List.length_replicate .., List.length_replicate ..⟩
theorem new_ok (w : World) (n : Nat) (h0 : 0 < n) (h1 : n ≤ 4096) : Calls Try.prog 15 #[.int .i64 (n : Int)] w (Ret r15 fun x w' => ∃ pd bb, x = (dp pd, 0) ∧ DAt w' (Up w.heap.size) pd bb (fresh n) ∧ Ext w w') := by
  apply s15_calls
  refine jn_of fun k hk => ?_
  have key : k false w := by
    rw [hk]
    refine ⟨fun h => absurd h (by decide), fun _ => ?_⟩
    refine ⟨by omega, by omega, by omega, by omega, fun b9 w9 hb9 hw9 => ?_⟩
    rw [Int.toNat_natCast] at hw9 ⊢
    intro b11 w12 hb11 hw12
    have hx9 : Ext w w9 := Ext.new hw9
    have hx12 : Ext w9 w12 := Ext.new hw12
    rw [zeros_u8'] at hw9
    have hB := (Blk.new hb9 hw9).ext hx12
    have hD : Blk w12 b11 93 _ := Blk.new hb11 hw12
    have hlt := (Blk.new hb9 hw9).lt
    refine ⟨b11, b9, rfl, ⟨n, [], nilSl, nilSl, ?_⟩, hx9.trans hx12⟩
    have hfl : flatB (fresh n).bl = List.replicate (n * 1024) 0 := by
      show flatB (List.replicate n (zero512, zero512)) = _
      rw [flat_zeros, Nat.mul_comm]
    refine ⟨fresh_wf h0 h1, (by show w.heap.size ≤ b11; have := hx9.size; omega), (by show w.heap.size ≤ b9; omega), by omega, by simp [fresh], ?_, by rw [hfl, List.append_nil]; exact hB, SlAt.nilAt _ _ _ _ _, SlAt.nilAt _ _ _ _ _⟩
    have hbl : (fresh n).bl.length = n := by simp [fresh]
    rw [hbl]
    exact hD
  refine ⟨fun h => absurd (of_decide_eq_true h) (by omega), fun _ => ?_⟩
  have : (decide (4096 < (n : Int))) = false := decide_eq_false (by omega)
  rw [this]; exact key
theorem new_bad (w : World) (n : Int) (h : n < 1 ∨ 4096 < n) : Calls Try.prog 15 #[.int .i64 n] w (Ret r15 fun x w' => x = (none, 1) ∧ w = w') := by
  apply s15_calls
  refine jn_of fun k hk => ?_
  have key : k true w := by
    rw [hk]
    exact ⟨fun _ => ⟨rfl, rfl⟩, fun h => absurd h (by decide)⟩
  refine ⟨fun _ => key, fun h1 => ?_⟩
  have h1 := of_decide_eq_false h1
  rw [decide_eq_true (show 4096 < n by omega)]; exact key

/-! ### a block to write -/
def fillOf (c : UInt8) (s : List UInt8) : List UInt8 := s.take 512 ++ List.replicate (512 - s.length) c
theorem fillOf_len (c : UInt8) (s : List UInt8) : (fillOf c s).length = 512 := by unfold fillOf; simp; omega
theorem Own.ofBlk {w : World} {base g n e size : Nat} {xs : List Value} (h : Blk w g e xs) (hl : xs.length = n * size) (hb : base ≤ g) (hm : n ≤ maxLen) : Own w base e size ⟨some ⟨g, 0, none⟩, n, n⟩ xs :=
  ⟨hl, .inr ⟨g, n, xs.toArray, rfl, hb, h, Nat.le_refl _, hm, by simpa using hl, by simp [← hl]⟩⟩
theorem fill_ok (w : World) (c : UInt8) (s : List UInt8) : Calls Try.prog 32 #[.int .u8 (c.toNat : Int), str s] w (Ret r32 fun x w' => Own w' w.heap.size 5 1 x (u8s (fillOf c s)) ∧ Ext w w') := by
  apply s32_calls
  refine ⟨by decide, by decide, by decide, by decide, fun b2 w2 hb2 hw2 => ?_⟩
  have hx2 : Ext w w2 := Ext.new hw2
  have hB2 : Blk w2 b2 5 (u8s (List.replicate 512 0)) := by
    rw [← zeros_u8']
    exact Blk.new hb2 hw2
  show LoopS _ _ _
  refine ⟨fun st w' => ∃ i : Nat, i ≤ 512 ∧ st = (i : Int) ∧ Blk w' b2 5 (u8s (List.replicate i c ++ List.replicate (512 - i) 0)) ∧ Ext w w', fun st _ => 512 - st.toNat, ⟨0, by omega, rfl, by rw [List.replicate_zero, List.nil_append]; exact hB2, hx2⟩, ?_⟩
  rintro st w5 ⟨i, hi, rfl, hB, hx⟩
  refine ⟨fun hlt => ?_, fun hge => ?_⟩
  · have hlt : i < 512 := by
      have := of_decide_eq_true hlt
      have h2 : (i : Int) < ((512 : Nat) : Int) := this
      omega
    refine ⟨⟨b2, 0, none⟩, _, rfl, by omega, ?_, rfl, ?_⟩
    · show (i : Int) < ((512 : Nat) : Int); omega
    show st1 _ _ _ _
    rw [add_plain, Nat.zero_add, Int.toNat_natCast, Nat.mul_one]
    refine st1_blk hB (by rw [u8s_len, List.length_append, List.length_replicate, List.length_replicate]; omega) fun w' hB' hf' => ?_
    rw [w64_eq (by omega) (by omega)]
    refine ⟨⟨i + 1, by omega, by omega, ?_, hf'.ext hx fun k _ e => by rw [e, hb2]; exact Nat.le_refl _⟩, by simp only; omega⟩
    have e : (u8s (List.replicate i c ++ List.replicate (512 - i) 0)).set i (.int .u8 (c.toNat : Int)) = u8s (List.replicate (i + 1) c ++ List.replicate (512 - (i + 1)) 0) := by
      rw [show 512 - i = (512 - (i + 1)) + 1 by omega, List.replicate_succ, u8s_append, List.set_append_right _ _ (by rw [u8s_len, List.length_replicate]; exact Nat.le_refl _), u8s_len, List.length_replicate, Nat.sub_self, List.replicate_succ', u8s_append, u8s_append]
      simp [u8s]
    rw [← e]; exact hB'
  · have hge : i = 512 := by
      have := of_decide_eq_false hge
      have h2 : ¬ ((i : Int) < ((512 : Nat) : Int)) := this
      omega
    subst hge
    rw [Nat.sub_self, List.replicate_zero, List.append_nil] at hB
    refine cpy_blk_str (g := b2) (o := 0) (dLen := 512) (dCap := 512) mk_39 hB (by rw [u8s_len, List.length_replicate]; omega) fun w' hB' hf' => ?_
    have hx' : Ext w w' := hf'.ext hx fun k _ e => by rw [e, hb2]; exact Nat.le_refl _
    refine ⟨?_, hx'⟩
    have e : splice (u8s (List.replicate 512 c)) 0 (u8s (s.take (min s.length 512))) = u8s (fillOf c s) := by
      have hm : s.take (min s.length 512) = s.take 512 := by
        rcases Nat.le_total s.length 512 with h | h
        · rw [Nat.min_eq_left h, List.take_of_length_le (Nat.le_refl _), List.take_of_length_le h]
        · rw [Nat.min_eq_right h]
      rw [hm]
      unfold splice fillOf
      rw [List.take_zero, List.nil_append, u8s_len, Nat.zero_add, u8s_drop, u8s_append, List.drop_replicate, List.length_take]
      congr 3
      omega
    rw [e] at hB'
    exact Own.ofBlk hB' (by rw [u8s_len, fillOf_len]; rfl) (by rw [hb2]; exact Nat.le_refl _) (by decide)

/-! ### a plan -/
theorem cloneF_ok (w : World) (p : Sl) (l : List Fall) (hl : p.len = l.length) (hp : AtO w p.a (fallC l)) (hn : p.a = none → p = nilSl) (hle : l.length ≤ 1000000) :
    Calls Try.prog 64 #[p.v] w (Ret r64 fun x w' => Own w' w.heap.size 27 3 x (fallC l) ∧ Ext w w') := by
  apply s64_calls
  refine ⟨fun h => ?_, fun _ => ?_⟩
  · have hna := Option.isNone_iff_eq_none.1 h
    have h0 := hn hna
    have : l = [] := by
      have h1 : p.len = 0 := by rw [h0]
      exact List.eq_nil_of_length_eq_zero (by omega)
    subst this
    exact ⟨Own.nil _ _ _ _, Ext.refl _⟩
  intro b2 w3 hb2 hw3
  have hx3 : Ext w w3 := Ext.new hw3
  have hone : ∀ u ∈ fallC l, u.oneCell' = true := by
    intro u hu
    obtain ⟨f, _, hf⟩ := List.mem_flatMap.1 hu
    exact fall_one f u hf
  refine app_ok (base := w.heap.size) mkz_47 rfl (by decide) (Own.made (e := 27) (size := 3) (c := 0) hb2 hw3 (Nat.le_refl _) rfl (by simp [maxLen])) (news := fallC l)
    (by rw [fallC_len, hl]) (Ext.atO hx3 hp) hone (by simp only [maxLen]; omega) (by simp only; omega) hx3.size ?_
  intro s' w' hl' ho' _ hB'
  exact ⟨by simpa using ho', hB' _ _ hx3 (Nat.le_refl _) hx3.size⟩
def Dk.plan (D : Dk) (l : List Fall) : Dk := { D with falls := l }
theorem plan_ok {w : World} {base : Nat → Prop} {pd bb : Nat} {D : Dk} (h : DAt w base pd bb D) (p : Sl) (l : List Fall) (hl : p.len = l.length) (hp : AtO w p.a (fallC l)) (hn : p.a = none → p = nilSl) (hle : l.length ≤ 1000000) (hB : ∀ k, w.heap.size ≤ k → base k)
    (hk : ∀ f ∈ l, 0 ≤ f.2.1 ∧ f.2.1 < 18446744073709551616) : Calls Try.prog 37 #[.pointer (dp pd), p.v] w (Ret r37 fun _ w' => DAt w' base pd bb (Dk.plan D l) ∧ Fr (Foot pd bb) w w') := by
  obtain ⟨c, r, sp, sf, h⟩ := h
  apply s37_calls
  refine ⟨fun _ => ?_, fun h => absurd h (by simp)⟩
  refine cR_of (cloneF_ok w p l hl hp hn hle) ?_
  rintro x w3 ⟨ho, hx⟩
  have h3 := h.ext hx
  refine ⟨_, rfl, ?_⟩
  show st1 _ _ _ _
  rw [add_plain]
  refine st1_blk h3.disk (Nat.succ_lt_succ (Nat.succ_lt_succ (Nat.zero_lt_succ _))) fun w6 hb hf => ?_
  refine ⟨⟨c, r, sp, x, ?_⟩, (Fr.of hx).trans (footFr_pd hf)⟩
  have hz := h.wf
  have hsl := Own.slAt ho (base := base) (pd := pd) (bb := bb) hB h.disk.lt h.rows.lt
  exact ⟨⟨hz.pos, hz.few, hz.bl, hz.pend, hz.plen, hk, hle, hz.ch⟩, h.hpd, h.hbb, h.hne, h.hcap, hb, h3.rows.fr hf h.hne.symm, h3.pend.fr hf fun k _ hk e => hk (.inl e), hsl.fr hf fun k _ hk e => hk (.inl e)⟩

/-! ### a clone -/
theorem oneCells_pend {l : List (Nat × List UInt8)} : ∀ u ∈ pendC l, u.oneCell' = true := by
  intro u hu
  obtain ⟨p, _, hp⟩ := List.mem_flatMap.1 hu
  exact one_pend u hp
def Dk.bare (D : Dk) : Dk := { D with falls := [] }
theorem clone_ok {w : World} {base : Nat → Prop} {pd bb : Nat} {D : Dk} (h : DAt w base pd bb D) : Calls Try.prog 36 #[.pointer (dp pd)] w (Ret r36 fun x w' => ∃ pd' bb', x = dp pd' ∧ DAt w' (Up w.heap.size) pd' bb' (Dk.bare D) ∧ Ext w w') := by
  obtain ⟨c, r, sp, sf, h⟩ := h
  have hwf := h.wf
  apply s36_calls
  refine ⟨fun h => absurd h (by simp), fun _ => ?_⟩
  refine ⟨_, rfl, [(⟨some ⟨bb, 0, none⟩, D.bl.length, c⟩ : Sl).v, sp.v, sf.v, .int .i64 D.changes, .bool D.down], rfl, h.disk.at rfl, rfl, ?_, ?_⟩
  · intro v hv
    simp only [List.mem_cons, List.not_mem_nil, or_false] at hv
    rcases hv with rfl | rfl | rfl | rfl | rfl <;> rfl
  intro b5 w6 hb5 hw6
  have hx6 : Ext w w6 := Ext.new hw6
  have h6 := h.ext hx6
  have hC6 : Blk w6 b5 93 _ := Blk.new hb5 hw6
  intro w7 hw7
  have hx7 : Ext w6 w7 := by subst hw7; exact Ext.drew _
  refine ⟨_, rfl, ⟨some ⟨bb, 0, none⟩, D.bl.length, c⟩, by rw [add_plain]; exact h6.disk.cell rfl, _, rfl, sp, by rw [add_plain]; exact h6.disk.cell rfl, ?_⟩
  -- the blocks
  have hbl : Calls Try.prog 62 #[(⟨some ⟨bb, 0, none⟩, D.bl.length, c⟩ : Sl).v] w7 (Ret r62 fun x w' => Own w' w7.heap.size 112 1024 x (u8s (flatB D.bl)) ∧ x.len = D.bl.length ∧ Ext w7 w') := by
    apply s62_calls
    refine ⟨fun h => absurd h (by simp), fun _ => ?_⟩
    intro b2 w3 hb2 hw3
    have hx3 : Ext w7 w3 := Ext.new hw3
    have hfl := flat_len hwf.bl
    have hfew := hwf.few
    refine app_ok (base := w7.heap.size) mk_90 (List.length_replicate ..) (by decide) (Own.made (e := 112) (size := 1024) (c := 0) hb2 hw3 (Nat.le_refl _) rfl (by simp [maxLen])) (news := u8s (flatB D.bl))
      (by rw [u8s_len, hfl, Nat.mul_comm]) (Blk.at ((h6.rows.ext hx7).ext hx3) (by rw [List.drop_zero, List.take_left])) (u8s_one _) (by simp only [maxLen]; omega) (by simp only; omega) hx3.size ?_
    intro s' w' hl' ho' _ hB'
    exact ⟨by simpa using ho', by simpa using hl', hB' _ _ hx3 (Nat.le_refl _) hx3.size⟩
  refine cR_of hbl ?_
  rintro x15 w16 ⟨ho15, hl15, hx16⟩
  refine ⟨hx7.trans hx16, ?_⟩
  have hpl := pend_len h.pend fun p hp => (hwf.pend p hp).2
  have hpe : Calls Try.prog 63 #[sp.v] w16 (Ret r63 fun x w' => Own w' w16.heap.size 116 513 x (pendC D.pend) ∧ Ext w16 w') := by
    have hat := Ext.atO (hx7.trans hx16) h6.pend.cells
    apply s63_calls
    refine ⟨fun hn => ?_, fun _ => ?_⟩
    · have h0 := h.pend.nil (Option.isNone_iff_eq_none.1 hn)
      have : D.pend = [] := by
        have h1 : sp.len = 0 := by rw [h0]
        exact List.eq_nil_of_length_eq_zero (by omega)
      rw [this]
      exact ⟨Own.nil _ _ _ _, Ext.refl _⟩
    intro b2 w3 hb2 hw3
    have hx3 : Ext w16 w3 := Ext.new hw3
    have hple := hwf.plen
    refine app_ok (base := w16.heap.size) mkz_91 (by rw [List.length_append, List.length_replicate, List.length_singleton]) (by decide) (Own.made (e := 116) (size := 513) (c := 0) hb2 hw3 (Nat.le_refl _) rfl (by simp [maxLen])) (news := pendC D.pend)
      h.pend.len (Ext.atO hx3 hat) oneCells_pend (by simp only [maxLen]; omega) (by simp only; omega) hx3.size ?_
    intro s' w' hl' ho' _ hB'
    exact ⟨by simpa using ho', hB' _ _ hx3 (Nat.le_refl _) hx3.size⟩
  refine cR_of hpe ?_
  rintro x18 w19 ⟨ho18, hx19⟩
  have hC19 := ((hC6.ext hx7).ext hx16).ext hx19
  rw [add_plain]
  refine st1_blk hC19 (Nat.zero_lt_succ _) fun w20 hb20 hf20 => ?_
  rw [add_plain]
  refine st1_blk hb20 (Nat.succ_lt_succ (Nat.zero_lt_succ _)) fun w21 hb21 hf21 => ?_
  rw [add_plain]
  refine st1_blk hb21 (Nat.succ_lt_succ (Nat.succ_lt_succ (Nat.zero_lt_succ _))) fun w22 hb22 hf22 => ?_
  have hf := (hf20.trans hf21).trans hf22
  obtain ⟨g, rest, hg, hgb, hgB, hgc⟩ := ho15.blk (by rw [hl15]; exact hwf.pos)
  have hsz6 : b5 < w7.heap.size := Nat.lt_of_lt_of_le hC6.lt hx7.size
  have hgne : g ≠ b5 := by omega
  have hx : Ext w w22 := hf.ext (((hx6.trans hx7).trans hx16).trans hx19) fun k _ e => by rw [e, hb5]; exact Nat.le_refl _
  refine ⟨b5, g, rfl, ⟨x15.cap, rest, x18, nilSl, ?_⟩, hx⟩
  have hw6s : w.heap.size ≤ w7.heap.size := (hx6.trans hx7).size
  have hg16 : g < w16.heap.size := hgB.lt
  refine ⟨⟨hwf.pos, hwf.few, hwf.bl, hwf.pend, hwf.plen, by simp [Dk.bare], by simp [Dk.bare], hwf.ch⟩, (by show w.heap.size ≤ b5; omega), (by show w.heap.size ≤ g; omega), fun e => hgne e.symm, by show D.bl.length ≤ _; rw [← hl15]; exact hgc, ?_, (hgB.ext hx19).fr hf (fun e => hgne e), ?_, SlAt.nilAt _ _ _ _ _⟩
  · have e15 : (⟨some ⟨g, 0, none⟩, D.bl.length, x15.cap⟩ : Sl) = x15 := by rw [← hg, ← hl15]
    show Blk w22 b5 93 [(⟨some ⟨g, 0, none⟩, D.bl.length, x15.cap⟩ : Sl).v, _, _, _, _]
    rw [e15]
    exact hb22
  · have hsl := Own.slAt ho18 (base := Up w.heap.size) (pd := b5) (bb := g) (fun k hk => by show w.heap.size ≤ k; have := hx16.size; omega) (by have := hx16.size; omega) hg16
    exact hsl.fr hf fun k _ hk e => hk (.inl e)
end Go.Proofs.Ytagkcbbbdlmcjaa
