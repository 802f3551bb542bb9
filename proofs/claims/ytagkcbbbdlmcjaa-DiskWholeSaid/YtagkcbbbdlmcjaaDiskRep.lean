/- The disk in memory, and what its functions do that change little. -/
import Derived.Test.YtagkcbbbdlmcjaaDiskPlain
import Derived.Test.YtagkcbbbdlmcjaaS15
import Derived.Test.YtagkcbbbdlmcjaaS19
import Derived.Test.YtagkcbbbdlmcjaaS23
import Derived.Test.YtagkcbbbdlmcjaaS27
import Derived.Test.YtagkcbbbdlmcjaaS28
import Derived.Test.YtagkcbbbdlmcjaaS37
import Derived.Test.YtagkcbbbdlmcjaaS38
import Derived.Test.YtagkcbbbdlmcjaaS39
import Derived.Test.YtagkcbbbdlmcjaaS53
import Derived.Test.YtagkcbbbdlmcjaaS59
import Derived.Test.YtagkcbbbdlmcjaaS64
import Derived.Test.YtagkcbbbdlmcjaaS32
set_option linter.unusedVariables false
set_option linter.unusedSimpArgs false
namespace Go.Proofs.Ytagkcbbbdlmcjaa
open Go.Lift Go.Lift.Disk Go.RowKit
def Foot (pd bb : Nat) : Nat → Prop := fun k => k = pd ∨ k = bb
structure SlAt (w : World) (base : Nat → Prop) (pd bb sz : Nat) (s : Sl) (cs : List Value) : Prop where
  len : cs.length = s.len * sz
  cap : s.len ≤ s.cap
  nil : s.a = none → s = nilSl
  cells : AtO w s.a cs
  far : ∀ a, s.a = some a → base a.block ∧ a.block < w.heap.size ∧ ¬ Foot pd bb a.block
structure DX (w : World) (base : Nat → Prop) (pd bb cap : Nat) (rest : List Value) (sp sf : Sl) (D : Dk) : Prop where
  wf : D.Wf
  hpd : base pd
  hbb : base bb
  hne : pd ≠ bb
  hcap : D.bl.length ≤ cap
  disk : Blk w pd 93 [(⟨some ⟨bb, 0, none⟩, D.bl.length, cap⟩ : Sl).v, sp.v, sf.v, .int .i64 D.changes, .bool D.down]
  rows : Blk w bb 112 (u8s (flatB D.bl) ++ rest)
  pend : SlAt w base pd bb 513 sp (pendC D.pend)
  falls : SlAt w base pd bb 3 sf (fallC D.falls)
/-- A disk at a place. -/
def DAt (w : World) (base : Nat → Prop) (pd bb : Nat) (D : Dk) : Prop := ∃ cap rest sp sf, DX w base pd bb cap rest sp sf D
abbrev dp (pd : Nat) : Option Addr := some ⟨pd, 0, none⟩

theorem SlAt.nilAt (w : World) (base : Nat → Prop) (pd bb sz : Nat) : SlAt w base pd bb sz nilSl [] := ⟨by simp, Nat.le_refl _, fun _ => rfl, rfl, fun a h => by cases h⟩
theorem SlAt.fr {X : Nat → Prop} {w w' : World} {base : Nat → Prop} {pd bb sz : Nat} {s : Sl} {cs : List Value} (h : SlAt w base pd bb sz s cs) (hf : Fr X w w') (hX : ∀ k, base k → ¬ Foot pd bb k → ¬ X k) : SlAt w' base pd bb sz s cs :=
  ⟨h.len, h.cap, h.nil, hf.atO (fun b hb => hX _ (h.far b hb).1 (h.far b hb).2.2) h.cells, fun a ha => ⟨(h.far a ha).1, Nat.lt_of_lt_of_le (h.far a ha).2.1 hf.size, (h.far a ha).2.2⟩⟩
theorem DX.fr {X : Nat → Prop} {w w' : World} {base : Nat → Prop} {pd bb cap : Nat} {rest : List Value} {sp sf : Sl} {D : Dk} (h : DX w base pd bb cap rest sp sf D) (hf : Fr X w w') (hX : ∀ k, base k → ¬ X k) : DX w' base pd bb cap rest sp sf D :=
  ⟨h.wf, h.hpd, h.hbb, h.hne, h.hcap, h.disk.fr hf (hX _ h.hpd), h.rows.fr hf (hX _ h.hbb), h.pend.fr hf fun k hk _ => hX k hk, h.falls.fr hf fun k hk _ => hX k hk⟩
theorem DX.ext {w w' : World} {base : Nat → Prop} {pd bb cap : Nat} {rest : List Value} {sp sf : Sl} {D : Dk} (h : DX w base pd bb cap rest sp sf D) (hf : Ext w w') : DX w' base pd bb cap rest sp sf D :=
  h.fr (X := fun _ => False) (Fr.of hf) fun _ _ h => h
theorem DAt.fr {X : Nat → Prop} {w w' : World} {base : Nat → Prop} {pd bb : Nat} {D : Dk} (h : DAt w base pd bb D) (hf : Fr X w w') (hX : ∀ k, base k → ¬ X k) : DAt w' base pd bb D := by
  obtain ⟨c, r, sp, sf, h⟩ := h
  exact ⟨c, r, sp, sf, h.fr hf hX⟩
theorem DAt.ext {w w' : World} {base : Nat → Prop} {pd bb : Nat} {D : Dk} (h : DAt w base pd bb D) (hf : Ext w w') : DAt w' base pd bb D := h.fr (X := fun _ => False) (Fr.of hf) fun _ _ h => h
theorem DAt.wf {w : World} {base : Nat → Prop} {pd bb : Nat} {D : Dk} (h : DAt w base pd bb D) : D.Wf := by obtain ⟨_, _, _, _, h⟩ := h; exact h.wf
theorem DAt.lt {w : World} {base : Nat → Prop} {pd bb : Nat} {D : Dk} (h : DAt w base pd bb D) : base pd ∧ base bb ∧ pd < w.heap.size ∧ bb < w.heap.size := by obtain ⟨_, _, _, _, h⟩ := h; exact ⟨h.hpd, h.hbb, h.disk.lt, h.rows.lt⟩
/-- other blocks that may be its own -/
theorem DAt.mono {w : World} {base base' : Nat → Prop} {pd bb : Nat} {D : Dk} (h : DAt w base pd bb D) (hB : ∀ k, k < w.heap.size → base k → base' k) : DAt w base' pd bb D := by
  obtain ⟨c, r, sp, sf, h⟩ := h
  exact ⟨c, r, sp, sf, h.wf, hB _ h.disk.lt h.hpd, hB _ h.rows.lt h.hbb, h.hne, h.hcap, h.disk, h.rows, ⟨h.pend.len, h.pend.cap, h.pend.nil, h.pend.cells, fun a ha => ⟨hB _ (h.pend.far a ha).2.1 (h.pend.far a ha).1, (h.pend.far a ha).2⟩⟩,
    ⟨h.falls.len, h.falls.cap, h.falls.nil, h.falls.cells, fun a ha => ⟨hB _ (h.falls.far a ha).2.1 (h.falls.far a ha).1, (h.falls.far a ha).2⟩⟩⟩
/-- the blocks from one on -/
def Up (n : Nat) : Nat → Prop := fun k => n ≤ k
theorem upB {w0 w : World} (h : w0.heap.size ≤ w.heap.size) : ∀ k, w.heap.size ≤ k → Up w0.heap.size k := fun k hk => Nat.le_trans h hk
/-- a write into the rows -/
theorem DX.setRows {w w' : World} {base : Nat → Prop} {pd bb cap : Nat} {rest : List Value} {sp sf : Sl} {D : Dk} (h : DX w base pd bb cap rest sp sf D) {l : List Bl} (hb : Blk w' bb 112 (u8s (flatB l) ++ rest)) (hf : Fr (· = bb) w w') (hl : l.length = D.bl.length) (hw : WfB l) :
    DX w' base pd bb cap rest sp sf { D with bl := l } := by
  have hwf := h.wf
  refine ⟨⟨by simp only [hl]; exact hwf.pos, by simp only [hl]; exact hwf.few, hw, by simp only [hl]; exact hwf.pend, hwf.plen, hwf.keep, hwf.flen, hwf.ch⟩, h.hpd, h.hbb, h.hne, by simp only [hl]; exact h.hcap, ?_, hb, ?_, ?_⟩
  · simp only [hl]; exact h.disk.fr hf h.hne
  · exact h.pend.fr hf fun k _ hk e => hk (.inr e)
  · exact h.falls.fr hf fun k _ hk e => hk (.inr e)
theorem footFr_bb {pd bb : Nat} {w w' : World} (h : Fr (· = bb) w w') : Fr (Foot pd bb) w w' := h.mono fun k _ e => .inr e
theorem footFr_pd {pd bb : Nat} {w w' : World} (h : Fr (· = pd) w w') : Fr (Foot pd bb) w w' := h.mono fun k _ e => .inl e

/-! ### what only looks -/
section
variable {w : World} {base : Nat → Prop} {pd bb : Nat} {D : Dk}
theorem down_ok (h : DAt w base pd bb D) : Calls Try.prog 38 #[.pointer (dp pd)] w (Ret r38 fun x w' => x = D.down ∧ w = w') := by
  obtain ⟨c, r, sp, sf, h⟩ := h
  apply s38_calls
  refine jn_of fun k hk => ?_
  refine ⟨fun h => absurd h (by simp), fun _ => ?_⟩
  refine ⟨_, rfl, D.down, by rw [add_plain]; exact h.disk.cell rfl, ?_⟩
  rw [hk]
  exact ⟨rfl, rfl⟩
theorem changes_ok (h : DAt w base pd bb D) : Calls Try.prog 19 #[.pointer (dp pd)] w (Ret r19 fun x w' => x = (D.changes : Int) ∧ w = w') := by
  obtain ⟨c, r, sp, sf, h⟩ := h
  apply s19_calls
  refine ⟨fun h => absurd h (by simp), fun _ => ?_⟩
  exact ⟨_, rfl, _, by rw [add_plain]; exact h.disk.cell rfl, rfl, rfl⟩
theorem pend_len {sp : Sl} {l : List (Nat × List UInt8)} (hs : SlAt w base pd bb 513 sp (pendC l)) (hl : ∀ p ∈ l, p.2.length = 512) : sp.len = l.length := by
  have h1 := hs.len
  rw [pendC_len hl] at h1
  omega
theorem fall_len {sf : Sl} {l : List Fall} (hs : SlAt w base pd bb 3 sf (fallC l)) : sf.len = l.length := by
  have h1 := hs.len
  rw [fallC_len] at h1
  omega
theorem pending_ok (h : DAt w base pd bb D) : Calls Try.prog 23 #[.pointer (dp pd)] w (Ret r23 fun x w' => x = (D.pend.length : Int) ∧ w = w') := by
  obtain ⟨c, r, sp, sf, h⟩ := h
  apply s23_calls
  refine ⟨fun h => absurd h (by simp), fun _ => ?_⟩
  have := pend_len h.pend fun p hp => (h.wf.pend p hp).2
  exact ⟨_, rfl, sp, by rw [add_plain]; exact h.disk.cell rfl, by rw [this], rfl⟩
theorem blocks_ok (h : DAt w base pd bb D) : Calls Try.prog 39 #[.pointer (dp pd)] w (Ret r39 fun x w' => x = (D.bl.length : Int) ∧ w = w') := by
  obtain ⟨c, r, sp, sf, h⟩ := h
  apply s39_calls
  refine ⟨fun h => absurd h (by simp), fun _ => ?_⟩
  exact ⟨_, rfl, _, by rw [add_plain]; exact h.disk.cell rfl, rfl, rfl⟩
theorem has_ok (h : DAt w base pd bb D) (i : Int) : Calls Try.prog 59 #[.pointer (dp pd), .int .i64 i] w (Ret r59 fun x w' => x = D.why i ∧ w = w') := by
  apply s59_calls
  refine cR_of (down_ok h) ?_
  rintro x w' ⟨rfl, rfl⟩
  obtain ⟨c, r, sp, sf, h⟩ := h
  unfold Dk.why
  refine ⟨fun hd => ?_, fun hd => ?_⟩
  · rw [if_pos hd]; exact ⟨rfl, rfl⟩
  · rw [if_neg (by rw [hd]; simp)]
    refine jn_of fun k hk => ?_
    have key : ∀ b : Bool, (b = true ↔ (i < 0 ∨ (D.bl.length : Int) ≤ i)) → k b w := by
      intro b hb
      rw [hk]
      refine ⟨fun ht => ?_, fun hf => ?_⟩
      · rw [if_pos (hb.1 ht)]; exact ⟨rfl, rfl⟩
      · rw [if_neg fun h => by rw [hb.2 h] at hf; cases hf]; exact ⟨rfl, rfl⟩
    refine ⟨fun h0 => key _ ?_, fun h0 => ?_⟩
    · have := of_decide_eq_true h0; simp [this]
    · have h0 := of_decide_eq_false h0
      refine ⟨_, rfl, ⟨some ⟨bb, 0, none⟩, D.bl.length, c⟩, by rw [add_plain]; exact h.disk.cell rfl, key _ ?_⟩
      simp; omega
theorem up_ok (h : DAt w base pd bb D) : Calls Try.prog 27 #[.pointer (dp pd)] w (Ret r27 fun x w' => x = D.down ∧ DAt w' base pd bb D.up ∧ Fr (Foot pd bb) w w') := by
  obtain ⟨c, r, sp, sf, h⟩ := h
  apply s27_calls
  refine jn_of fun k hk => ?_
  refine ⟨fun h => absurd h (by simp), fun _ => ?_⟩
  refine ⟨_, rfl, D.down, by rw [add_plain]; exact h.disk.cell rfl, ?_⟩
  rw [hk]
  refine ⟨fun hd => ?_, fun hd => ?_⟩
  · have hd : D.down = false := by simpa using hd
    refine ⟨hd.symm, ⟨c, r, sp, sf, ?_⟩, Fr.refl w⟩
    unfold Dk.up
    rw [← hd]; exact h
  · have hd : D.down = true := by simpa using hd
    refine ⟨_, rfl, ?_⟩
    show st1 _ _ _ _
    rw [add_plain]
    refine st1_blk h.disk (Nat.lt_succ_self 4) fun w' hb hf => ?_
    refine ⟨hd.symm, ⟨c, r, sp, sf, ?_⟩, footFr_pd hf⟩
    exact ⟨⟨h.wf.pos, h.wf.few, h.wf.bl, h.wf.pend, h.wf.plen, h.wf.keep, h.wf.flen, h.wf.ch⟩, h.hpd, h.hbb, h.hne, h.hcap, hb, h.rows.fr hf h.hne.symm, h.pend.fr hf fun k _ hk e => hk (.inl e), h.falls.fr hf fun k _ hk e => hk (.inl e)⟩

/-! ### bytes -/
theorem cut_all (a : Addr) (n : Nat) (hn : 0 < n) : Sl.cut ⟨some (Addr.add a 0), n, n⟩ 1 0 n n = ⟨some a, n, n⟩ := by
  have : Addr.add a 0 = a := by simp [Addr.add]
  simp [Sl.cut, this]
theorem cloneB_ok (p : Sl) (bs : List UInt8) (hp : Bytes w p bs) (hne : p.a ≠ none) (hl : bs.length ≤ 70368744177664) :
    Calls Try.prog 53 #[p.v] w (Ret r53 fun x w' => Own w' w.heap.size 5 1 x (u8s bs) ∧ Ext w w') := by
  apply s53_calls
  have hpl := hp.1
  refine ⟨fun h => absurd (Option.isNone_iff_eq_none.1 h) hne, fun _ => ?_⟩
  intro b2 w3 hb2 hw3
  have hx3 : Ext w w3 := Ext.new hw3
  refine app_ok (base := w.heap.size) mk_39 rfl (by decide) (Own.made (e := 5) (size := 1) (c := 0) hb2 hw3 (Nat.le_refl _) rfl (by simp [maxLen])) (news := u8s bs)
    (by rw [u8s_length]; omega) (hp.ext hx3).2 (u8s_one _) (by simp only [maxLen]; omega) (by simp only; omega) hx3.size ?_
  intro s' w' hl' ho' _ hB'
  exact ⟨by simpa using ho', hB' _ _ hx3 (Nat.le_refl _) hx3.size⟩
theorem flatAt {c : Nat} {r : List Value} {sp sf : Sl} (h : DX w base pd bb c r sp sf D) {i : Nat} (hi : i < D.bl.length) : At w ⟨bb, 1024 * i, none⟩ (u8s (bAt D.bl i).1) ∧ At w ⟨bb, 1024 * i + 512, none⟩ (u8s (bAt D.bl i).2) := by
  have hl := bAt_len h.wf.bl hi
  have hf := flat_len h.wf.bl
  refine ⟨h.rows.at ?_, h.rows.at ?_⟩
  · rw [u8s_len, hl.1, List.drop_append_of_le_length (by rw [u8s_len]; omega), List.take_append_of_le_length (by rw [List.length_drop, u8s_len]; omega), u8s_drop, u8s_take, flat_now h.wf.bl hi]
  · rw [u8s_len, hl.2, List.drop_append_of_le_length (by rw [u8s_len]; omega), List.take_append_of_le_length (by rw [List.length_drop, u8s_len]; omega), u8s_drop, u8s_take, flat_sure h.wf.bl hi]
theorem why_zero {i : Int} (h : D.why i = 0) : D.down = false ∧ 0 ≤ i ∧ i < D.bl.length := by
  unfold Dk.why at h
  split at h
  · cases h
  · split at h
    · cases h
    · rename_i h1 h2
      exact ⟨by simpa using h1, by omega, by omega⟩
theorem read_ok (h : DAt w base pd bb D) (i : Int) : Calls Try.prog 28 #[.pointer (dp pd), .int .i64 i] w (Ret r28 fun x w' => Ext w w' ∧
    ((D.why i ≠ 0 ∧ x = (nilSl, D.why i)) ∨ (D.why i = 0 ∧ x.2 = 0 ∧ Own w' w.heap.size 5 1 x.1 (u8s (bAt D.bl i.toNat).1)))) := by
  apply s28_calls
  refine cR_of (has_ok h i) ?_
  rintro x w' ⟨rfl, rfl⟩
  obtain ⟨c, r, sp, sf, h⟩ := h
  refine ⟨fun hne => ?_, fun he => ?_⟩
  · exact ⟨Ext.refl _, .inl ⟨nd_t hne, rfl⟩⟩
  · have he := nd_f he
    obtain ⟨h1, h2, h3⟩ := why_zero he
    obtain ⟨n, rfl⟩ := Int.eq_ofNat_of_zero_le h2
    have hn : n < D.bl.length := by omega
    refine ⟨_, rfl, ⟨some ⟨bb, 0, none⟩, D.bl.length, c⟩, by rw [add_plain]; exact h.disk.cell rfl, ?_⟩
    refine ⟨⟨bb, 0, none⟩, _, rfl, by omega, by simpa using h3, rfl, ?_⟩
    show cR _ _ _ _ _ _
    rw [add_plain, Nat.zero_add, Int.toNat_natCast]
    have ec := cut_all ⟨bb, n * 1024, none⟩ 512 (by decide)
    have ec2 : Sl.cut ⟨some (Addr.add ⟨bb, n * 1024, none⟩ 0), 512, 512⟩ 1 0 512 512 = ⟨some ⟨bb, n * 1024, none⟩, 512, 512⟩ := ec
    rw [ec2]
    have hl := bAt_len h.wf.bl hn
    refine cR_of (cloneB_ok ⟨some ⟨bb, n * 1024, none⟩, 512, 512⟩ (bAt D.bl n).1 ⟨by rw [hl.1], ?_⟩ (by simp) (by omega)) ?_
    · rw [Nat.mul_comm]; exact (flatAt h hn).1
    rintro x w2 ⟨ho, hx⟩
    exact ⟨hx, .inr ⟨he, rfl, ho⟩⟩
end
end Go.Proofs.Ytagkcbbbdlmcjaa
