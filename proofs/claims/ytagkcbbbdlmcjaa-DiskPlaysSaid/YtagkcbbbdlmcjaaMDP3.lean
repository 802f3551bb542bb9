/- Parts of a proof, one behind the other: readings of functions, what they do, and what follows. -/
import Derived.Test.YtagkcbbbdlmcjaaMDP2
section
/- The document's disk: a flush, a write. -/
set_option linter.unusedVariables false
set_option linter.unusedSimpArgs false
namespace Go.Proofs.Ytagkcbbbdlmcjaa
open Go.Lift Go.Lift.Disk Go.RowKit
variable {B : Nat → Prop}
theorem crashL_wf (f : Fall) (last : Int) : ∀ (ps : List (Nat × List UInt8)) (k : Nat) (l : List Bl), WfB l → (∀ p ∈ ps, p.1 < l.length ∧ p.2.length = 512) → WfB (crashL f last k ps l)
  | [], _, _, h, _ => h
  | p :: ps, k, l, h, hp => by
    obtain ⟨h1, h2⟩ := hp p (by simp)
    rw [crashL]
    refine crashL_wf f last ps (k + 1) _ ?_ fun q hq => by rw [crashStep_len]; exact hp q (by simp [hq])
    have hb := (bAt_len h h1).2
    unfold crashStep
    split
    · exact setSure_wf h h1 h2
    · split
      · exact setSure_wf h h1 (by have := (torn_eq f).2; rw [List.length_append, List.length_take, List.length_drop, h2, hb]; omega)
      · exact h
theorem crash_wf {D : Dk} (h : D.Wf) (f : Fall) : (D.crash f).Wf := by
  unfold Dk.crash
  split
  · exact h
  · have hw := crashL_wf f ((D.pend.length : Int) - 1) D.pend 0 D.bl h.bl h.pend
    have hl := crashL_len' f ((D.pend.length : Int) - 1) D.pend 0 D.bl
    refine ⟨by simp only [List.length_map, hl]; exact h.pos, by simp only [List.length_map, hl]; exact h.few, ?_, by simp, by simp, h.keep, h.flen, h.ch⟩
    intro p hp
    obtain ⟨q, hq, rfl⟩ := List.mem_map.1 hp
    exact ⟨(hw q hq).2, (hw q hq).2⟩
theorem strike_wf {D : Dk} (h : D.Wf) (hc : D.changes < 1000000000) : D.strike.1.Wf := by
  cases hf : D.falls.find? (fun f => f.1 == (D.changes : Int)) with
  | none => rw [strike_none hf]; exact tick_wf h hc
  | some f => rw [strike_some hf]; exact crash_wf (tick_wf h hc) f
theorem put_wf {D : Dk} (h : D.Wf) (hp : D.pend.length < 1000000) {i : Nat} (hi : i < D.bl.length) {b : List UInt8} (hb : b.length = 512) : (D.put i b).Wf := by
  refine ⟨by show 0 < (setNow _ _ _).length; rw [setNow_len]; exact h.pos, by show (setNow _ _ _).length ≤ _; rw [setNow_len]; exact h.few, setNow_wf h.bl hi hb, ?_, ?_, h.keep, h.flen, h.ch⟩
  · intro p hp
    show p.1 < (setNow _ _ _).length ∧ _
    rw [setNow_len]
    rcases List.mem_append.1 (show p ∈ D.pend ++ [(i, b)] from hp) with hp | hp
    · exact h.pend p hp
    · rw [List.mem_singleton.1 hp]; exact ⟨hi, hb⟩
  · show (D.pend ++ [(i, b)]).length ≤ _
    rw [List.length_append]
    simp only [List.length_cons, List.length_nil]
    omega
theorem sures_now {l : List Bl} {i : Nat} (hi : i < l.length) (b : List UInt8) : (setNow l i b).map (·.2) = l.map (·.2) := by
  unfold setNow
  rw [List.map_set]
  have hs : i < (l.map (·.2)).length := by simpa using hi
  have := bAt_sure hi
  show (l.map (·.2)).set i (bAt l i).2 = _
  rw [← this, List.set_getElem_self hs]
theorem rflush_ok (w : World) (cs : List Value) (D : Dk) (h : RAt w B cs D) (hwf : D.Wf) (hch : D.changes < 1000000000) (hBn : ∀ k, w.heap.size ≤ k → B k) :
    Calls Try.prog 65 #[aggv cs] w (Ret r65 fun x w' => x.2 = D.flush.2 ∧ RAt w' B x.1 D.flush.1 ∧ Ext w w') := by
  obtain ⟨ss, sp, sf, rfl, h⟩ := h
  apply s65_calls
  intro b1 w2 hb1 hw2
  have hx2 : Ext w w2 := Ext.new hw2
  have hB2 : Blk w2 b1 49 (rc ss sp sf D.changes D.down) := Blk.new hb1 hw2
  intro b3 w4 hb3 hw4
  have hx4 : Ext w2 w4 := Ext.new hw4
  have hR4 : Blk w4 b3 49 (rc nilSl nilSl nilSl 0 false) := Blk.new hb3 hw4
  have hB4 := hB2.ext hx4
  have hxw4 := hx2.trans hx4
  have hwb3 : w.heap.size ≤ b3 := by rw [hb3]; exact hx2.size
  have hA4 : RAt w4 B (rc ss sp sf D.changes D.down) D := ⟨ss, sp, sf, rfl, h.ext hxw4⟩
  refine ⟨D.down, by rw [add_plain]; exact hB4.cell rfl, ?_⟩
  unfold Dk.flush
  refine ⟨fun hd => ?_, fun hd => ?_⟩
  · rw [if_pos hd]
    refine ⟨rc ss sp sf D.changes D.down, rfl, hB4.at rfl, ?_⟩
    refine put_ans hA4 hR4 fun w8 hA8 hB8 hf8 => ?_
    exact ⟨rc ss sp sf D.changes D.down, rfl, hB8.at rfl, rfl, hA8, hf8.ext hxw4 fun k _ e => by rw [e]; exact hwb3⟩
  rw [if_neg (by rw [hd]; simp)]
  refine ⟨rc ss sp sf D.changes D.down, rfl, hB4.at rfl, ?_⟩
  refine cR_of (rstrike_ok w4 _ D hA4 hwf hch (fun k hk => hBn k (Nat.le_trans hxw4.size hk))) ?_
  rintro ⟨cs2, e2⟩ w12 ⟨he2, hA12, hx12⟩
  simp only at he2 hA12
  subst he2
  have hEw := strike_wf hwf hch
  have hR12 := hR4.ext hx12
  refine ⟨hA12.len, hA12.one, fun b13 w14 hb13 hw14 => ?_⟩
  have hx14 : Ext w12 w14 := Ext.new hw14
  have hB14 : Blk w14 b13 49 cs2 := Blk.new hb13 hw14
  have hA14 := hA12.ext hx14
  have hR14 := hR12.ext hx14
  have h313 : b3 < b13 := by rw [hb13]; exact hR12.lt
  have hxw14 := (hxw4.trans hx12).trans hx14
  refine ⟨fun hne => ?_, fun he => ?_⟩
  · rw [if_pos (nd_t hne)]
    refine ⟨cs2, hA14.len, hB14.at (by rw [List.drop_zero, List.take_length]), ?_⟩
    refine put_ans hA14 hR14 fun w17 hA17 hB17 hf17 => ?_
    exact ⟨cs2, hA17.len, hB17.at (by rw [List.drop_zero, List.take_length]), rfl, hA17, hf17.ext hxw14 fun k _ e => by rw [e]; exact hwb3⟩
  have he := nd_f he
  rw [if_neg (by rw [he]; simp)]
  generalize D.strike.1 = E at hA12 hA14 hEw ⊢
  obtain ⟨s0, sp2, sf2, rfl, hE⟩ := hA12
  have hpl := hE.pend.len
  have hple := hEw.plen
  refine ⟨fun st w' => ∃ (k : Nat) (s' : Sl), k ≤ E.pend.length ∧ st = (k : Int) ∧ Blk w' b13 49 (rc s' sp2 sf2 E.changes E.down) ∧ Blk w' b3 49 (rc nilSl nilSl nilSl 0 false) ∧ StrsAt w' s' ((flushL E.bl (E.pend.take k)).map (·.2)) ∧ Far B s' ∧ Ext w12 w',
    fun st _ => E.pend.length - st.toNat, ⟨0, s0, Nat.zero_le _, rfl, hB14, hR14, hE.sure.ext hx14, hE.f1, hx14⟩, ?_⟩
  rintro st w20 ⟨k, s', hk, rfl, hB, hR, hS, hFs, hx⟩
  have hpe := hE.pend.ext hx
  refine ⟨sp2, by rw [add_plain]; exact hB.cell rfl, ?_⟩
  refine ⟨fun hlt => ?_, fun hge => ?_⟩
  · have hkl : k < E.pend.length := by have := of_decide_eq_true hlt; omega
    obtain ⟨hpi, hp512⟩ := hEw.pend _ (List.getElem_mem hkl)
    obtain ⟨a, ha, hat⟩ := hpe.get hkl
    have hc0 := hat 0 _ rfl
    have hc1 := hat 1 _ rfl
    have hll : (flushL E.bl (E.pend.take k)).length = E.bl.length := flushL_len' _ _
    intro w27 hw27
    have hx27 : Ext w20 w27 := by subst hw27; exact Ext.drew _
    refine ⟨s', by rw [add_plain]; exact hB.cell rfl, sp2, by rw [add_plain]; exact hB.cell rfl, a, _, ha, by omega, by omega, rfl, ?_⟩
    simp only [Int.toNat_natCast]
    refine ⟨(E.pend[k].1 : Int), hc0, sp2, by rw [add_plain]; exact hB.cell rfl, a, _, ha, by omega, by omega, rfl, ?_⟩
    simp only [Int.toNat_natCast]
    refine ⟨E.pend[k].2, hc1, ?_⟩
    have hfew := hEw.few
    refine cR_of (with_ok w27 s' _ (hS.ext hx27) E.pend[k].1 (by rw [List.length_map, hll]; exact hpi) (by rw [List.length_map, hll]; omega) _) ?_
    rintro x38 w39 ⟨hS39, hx39, hg39⟩
    have hxx := hx27.trans hx39
    rw [add_plain]
    refine st1_blk (hB.ext hxx) (by simp) fun w40 hB40 hf40 => ?_
    rw [w64_eq (by omega) (by omega)]
    have hfs : flushL E.bl (E.pend.take (k + 1)) = setSure (flushL E.bl (E.pend.take k)) E.pend[k].1 E.pend[k].2 := by
      unfold flushL
      rw [List.take_succ_eq_append_getElem hkl, List.foldl_append]
      rfl
    refine ⟨⟨k + 1, x38, by omega, by omega, hB40, (hR.ext hxx).fr hf40 (by omega), ?_, (fun _ a ha => hBn _ (Nat.le_trans (Nat.le_trans ((hxw4.trans hx12).trans hx).size hx27.size) (hg39 a ha))), hf40.ext (hx.trans hxx) fun k _ e => by rw [e, hb13]; exact Nat.le_refl _⟩, by first | omega | (simp only; omega)⟩
    rw [hfs, sures_set]
    exact hS39.fr (hB.ext hxx) hf40
  · have hge : k = E.pend.length := by have := of_decide_eq_false hge; omega
    subst hge
    rw [List.take_length] at hS
    rw [add_plain]
    refine st1_blk hB (by simp) fun w41 hB41 hf41 => ?_
    have hB41 : Blk w41 b13 49 (rc s' nilSl sf2 E.changes E.down) := hB41
    have hx41 : Ext w12 w41 := hf41.ext hx fun k _ e => by rw [e, hb13]; exact Nat.le_refl _
    refine ⟨rc s' nilSl sf2 E.changes E.down, rfl, hB41.at rfl, ?_⟩
    have hA41 : RAt w41 B (rc s' nilSl sf2 E.changes E.down) { E with bl := flushL E.bl E.pend, pend := [] } := ⟨s', nilSl, sf2, rfl, ⟨hS.fr hB hf41, ⟨rfl, rfl⟩, hE.falls.ext hx41, hFs, Far.nil, hE.f3⟩⟩
    refine put_ans hA41 (hR.fr hf41 (by omega)) fun w43 hA43 hB43 hf43 => ?_
    exact ⟨rc s' nilSl sf2 E.changes E.down, rfl, hB43.at rfl, rfl, hA43, hf43.ext ((hxw4.trans hx12).trans hx41) fun k _ e => by rw [e]; exact hwb3⟩
end Go.Proofs.Ytagkcbbbdlmcjaa
end
section
/- The document's disk: a write. -/
set_option linter.unusedVariables false
set_option linter.unusedSimpArgs false
namespace Go.Proofs.Ytagkcbbbdlmcjaa
open Go.Lift Go.Lift.Disk Go.RowKit
variable {B : Nat → Prop}
theorem mkz_46' : mkCells Try.prog 46 = some (114, 2, 24, [Value.int .i64 0, str []]) := mkz_46
theorem pairs_one (l : List (Nat × List UInt8)) : ∀ u ∈ l.flatMap pairC, u.oneCell' = true := by
  intro u hu
  obtain ⟨p, _, hp⟩ := List.mem_flatMap.1 hu
  simp only [pairC, List.mem_cons, List.not_mem_nil, or_false] at hp
  rcases hp with rfl | rfl <;> rfl
theorem Own.ge5 {w : World} {base : Nat} {e : TypeId} {size : Nat} {s : Sl} {xs : List Value} (h : Own w base e size s xs) : ∀ b, s.a = some b → base ≤ b.block := by
  intro b hb
  obtain ⟨sa, l, c⟩ := s
  simp only at hb
  subst hb
  rcases h.2 with ⟨h1, h2⟩ | ⟨g, cap, cur, h1, h3, _⟩
  · simp at h1
  · simp only [Value.slice.injEq, Option.some.injEq] at h1
    obtain ⟨rfl, _, _⟩ := h1
    exact h3
theorem rput_ok (w : World) (cs : List Value) (D : Dk) (h : RAt w B cs D) (hwf : D.Wf) (hch : D.changes < 1000000000) (hpn : D.pend.length < 1000000) (hBn : ∀ k, w.heap.size ≤ k → B k) (i : Int) (bs : List UInt8) :
    Calls Try.prog 42 #[aggv cs, .int .i64 i, str bs] w (Ret r42 fun x w' => x.2 = (D.write i bs).2 ∧ RAt w' B x.1 (D.write i bs).1 ∧ Ext w w') := by
  obtain ⟨ss, sp, sf, rfl, h⟩ := h
  apply s42_calls
  intro b1 w2 hb1 hw2
  have hx2 : Ext w w2 := Ext.new hw2
  have hB2 : Blk w2 b1 49 (rc ss sp sf D.changes D.down) := Blk.new hb1 hw2
  intro b3 w4 hb3 hw4
  have hx4 : Ext w2 w4 := Ext.new hw4
  have hR4 : Blk w4 b3 49 (rc nilSl nilSl nilSl 0 false) := Blk.new hb3 hw4
  have hB4 := hB2.ext hx4
  have hxw4 := hx2.trans hx4
  have h13 : b1 < b3 := by rw [hb3]; exact hB2.lt
  have hwb1 : w.heap.size ≤ b1 := by rw [hb1]; exact Nat.le_refl _
  have hwb3 : w.heap.size ≤ b3 := by omega
  have hA : ∀ {w'}, Ext w w' → RAt w' B (rc ss sp sf D.changes D.down) D := fun hx => ⟨ss, sp, sf, rfl, h.ext hx⟩
  refine ⟨rc ss sp sf D.changes D.down, rfl, hB4.at rfl, ?_⟩
  refine cR_of (why_ok w4 _ D (hA hxw4) i) ?_
  rintro x6 w7 ⟨rfl, hx7⟩
  have hxw7 := hxw4.trans hx7
  have hB7 := hB4.ext hx7
  have hR7 := hR4.ext hx7
  unfold Dk.write
  refine ⟨fun hne => ?_, fun he => ?_⟩
  · rw [if_pos (nd_t hne)]
    refine ⟨rc ss sp sf D.changes D.down, rfl, hB7.at rfl, ?_⟩
    refine put_ans (hA hxw7) hR7 fun w8 hA8 hB8 hf8 => ?_
    exact ⟨rc ss sp sf D.changes D.down, rfl, hB8.at rfl, rfl, hA8, hf8.ext hxw7 fun k _ e => by rw [e]; exact hwb3⟩
  have he := nd_f he
  rw [if_neg (by rw [he]; simp)]
  refine ⟨fun hne => ?_, fun hl => ?_⟩
  · have hne := nd_t hne
    rw [if_pos (by omega)]
    refine ⟨rc ss sp sf D.changes D.down, rfl, hB7.at rfl, ?_⟩
    refine put_ans (hA hxw7) hR7 fun w8 hA8 hB8 hf8 => ?_
    exact ⟨rc ss sp sf D.changes D.down, rfl, hB8.at rfl, rfl, hA8, hf8.ext hxw7 fun k _ e => by rw [e]; exact hwb3⟩
  have hl := nd_f hl
  rw [if_neg (by omega)]
  obtain ⟨hd, hi0, hi1⟩ := why_zero he
  obtain ⟨n, rfl⟩ := Int.eq_ofNat_of_zero_le hi0
  have hn : n < D.bl.length := by omega
  have h512 : bs.length = 512 := by omega
  rw [Int.toNat_natCast]
  intro b16 w17 hb16 hw17
  have hx17 : Ext w7 w17 := Ext.new hw17
  have hpl := h.pend.len
  have hfl : ∀ l : List (Nat × List UInt8), (l.flatMap pairC).length = l.length * 2 := fun l => flatMap_len pairC (n := 2) (fun _ => rfl) l
  refine ⟨sp, by rw [add_plain]; exact (hB7.ext hx17).cell rfl, ?_⟩
  refine app_ok (base := w7.heap.size) mkz_46' rfl (by decide) (Own.made (e := 114) (size := 2) (c := 0) hb16 hw17 (Nat.le_refl _) rfl (by simp [maxLen])) (news := D.pend.flatMap pairC)
    (by rw [hfl, hpl]) (Ext.atO (hxw7.trans hx17) h.pend.cells) (pairs_one _) (by simp only [maxLen]; omega) (by simp only; omega) hx17.size ?_
  intro s19 w20 hl19 ho19 _ hB20
  have hx20 : Ext w7 w20 := hB20 _ _ hx17 (Nat.le_refl _) hx17.size
  rw [List.nil_append] at ho19
  have hl19' : s19.len = D.pend.length := by rw [hl19]; simp [hpl]
  refine ⟨rfl, ?_, fun b21 w22 hb21 hw22 => ?_⟩
  · exact fun v hv => pairs_one [(n, bs)] v (by simpa [pairC] using hv)
  have hx22 : Ext w20 w22 := Ext.new hw22
  refine app_ok (base := w7.heap.size) mkz_46' rfl (by decide) (ho19.ext hx22) (news := pairC (n, bs)) rfl (At.new hb21 hw22) (fun u hu => pairs_one [(n, bs)] u (by simpa using hu)) (by simp only [maxLen]; omega) (by simp only; omega) (hx20.trans hx22).size ?_
  intro s23 w24 hl23 ho23 _ hB24
  have hx24 : Ext w7 w24 := hB24 _ _ (hx20.trans hx22) (Nat.le_refl _) (hx20.trans hx22).size
  have hxw24 := hxw7.trans hx24
  rw [add_plain]
  refine st1_blk (hB7.ext hx24) (by simp) fun w25 hB25 hf25 => ?_
  have hB25 : Blk w25 b1 49 (rc ss s23 sf D.changes D.down) := hB25
  have hx25 : Ext w w25 := hf25.ext hxw24 fun k _ e => by rw [e]; exact hwb1
  have hP25 : PairsAt w25 s23 (D.pend ++ [(n, bs)]) := by
    refine ⟨by rw [hl23, List.length_append]; show s19.len + 1 = _; rw [hl19']; rfl, ?_⟩
    have e : (D.pend ++ [(n, bs)]).flatMap pairC = D.pend.flatMap pairC ++ pairC (n, bs) := by simp [List.flatMap_append]
    rw [e]
    refine (hf25.own (fun b hb e => ?_) ho23).at
    have hb1w : b1 < w7.heap.size := hB7.lt
    have hge : w7.heap.size ≤ b.block := by
      obtain ⟨sa, l, c⟩ := s23
      simp only at hb
      subst hb
      rcases ho23.2 with ⟨h1, h2⟩ | ⟨g, cap, cur, h1, h3, _⟩
      · simp at h1
      · simp only [Value.slice.injEq, Option.some.injEq] at h1
        obtain ⟨rfl, _, _⟩ := h1
        exact h3
    have e : b.block = b1 := e
    omega
  have hA25 : RAt w25 B (rc ss s23 sf D.changes D.down) (D.put n bs) := by
    refine ⟨ss, s23, sf, rfl, ⟨?_, hP25, h.falls.ext hx25, h.f1, (fun _ b hb => hBn _ (Nat.le_trans hxw7.size (Own.ge5 ho23 b hb))), h.f3⟩⟩
    show StrsAt w25 ss ((setNow D.bl n bs).map (·.2))
    rw [sures_now hn]
    exact h.sure.ext hx25
  refine ⟨rc ss s23 sf D.changes D.down, rfl, hB25.at rfl, ?_⟩
  refine cR_of (rstrike_ok w25 _ _ hA25 (put_wf hwf hpn hn h512) hch (fun k hk => hBn k (Nat.le_trans hx25.size hk))) ?_
  rintro ⟨cs2, e2⟩ w28 ⟨he2, hA28, hx28⟩
  simp only at he2 hA28
  subst he2
  have hR28 := (((hR7.ext hx24).fr hf25 (by omega)).ext hx28)
  refine put_ans hA28 hR28 fun w29 hA29 hB29 hf29 => ?_
  exact ⟨cs2, hA29.len, hB29.at (by rw [List.drop_zero, List.take_length]), rfl, hA29, hf29.ext (hx25.trans hx28) fun k _ e => by rw [e]; exact hwb3⟩
end Go.Proofs.Ytagkcbbbdlmcjaa
end
section
/- What one thing done leaves of the plain disk; and the document's disk beside one that is written. -/
set_option linter.unusedVariables false
set_option linter.unusedSimpArgs false
namespace Go.Proofs.Ytagkcbbbdlmcjaa
open Go.Lift Go.Lift.Disk Go.RowKit
variable {B : Nat → Prop}
theorem atO_nil (w : World) (a : Option Addr) : AtO w a [] := by
  cases a with
  | none => rfl
  | some a => exact fun j v hj => by simp at hj
theorem RAt.foot {w w' : World} {X : Nat → Prop} {cs : List Value} {D : Dk} (h : RAt w B cs D) (hf : Fr X w w') (hX : ∀ k, B k → ¬ X k) : RAt w' B cs D := by
  obtain ⟨ss, sp, sf, h1, h2⟩ := h
  refine ⟨ss, sp, sf, h1, ⟨h2.sure.len, ?_⟩, ⟨h2.pend.len, ?_⟩, ⟨h2.falls.len, h2.falls.cap, ?_, h2.falls.nil, h2.falls.keep⟩, h2.f1, h2.f2, h2.f3⟩
  · by_cases h0 : ss.len = 0
    · have := h2.sure.len
      rw [List.eq_nil_of_length_eq_zero (this.symm.trans h0)]
      exact atO_nil _ _
    · exact hf.atO (fun a ha => hX _ (h2.f1 h0 a ha)) h2.sure.cells
  · by_cases h0 : sp.len = 0
    · have := h2.pend.len
      rw [List.eq_nil_of_length_eq_zero (this.symm.trans h0)]
      exact atO_nil _ _
    · exact hf.atO (fun a ha => hX _ (h2.f2 h0 a ha)) h2.pend.cells
  · by_cases h0 : sf.len = 0
    · have := h2.falls.len
      rw [List.eq_nil_of_length_eq_zero (this.symm.trans h0)]
      exact atO_nil _ _
    · exact hf.atO (fun a ha => hX _ (h2.f3 h0 a ha)) h2.falls.cells
/-- the disk while it is played with: so many blocks, so many things done; each block is what was written last -/
structure Play (n k : Nat) (D : Dk) : Prop where
  len : D.bl.length = n
  ch : D.changes ≤ k
  pend : D.pend.length ≤ k
  now : ∀ i, i < n → (bAt D.bl i).1 = lastOf D.pend i (bAt D.bl i).2
theorem play_fresh (n : Nat) : Play n 0 (fresh n) := by
  have h := run_fresh n
  exact ⟨h.len, h.ch, h.pend, h.now⟩
theorem play_mono {n k m : Nat} {D : Dk} (h : Play n k D) (hk : k ≤ m) : Play n m D := ⟨h.len, Nat.le_trans h.ch hk, Nat.le_trans h.pend hk, h.now⟩
theorem play_crash {n k : Nat} {D : Dk} (h : Play n k D) (f : Fall) : Play n k (D.crash f) := by
  unfold Dk.crash
  split
  · exact h
  · refine ⟨by simp only [List.length_map, crashL_len']; exact h.len, h.ch, Nat.zero_le _, fun i hi => ?_⟩
    show (bAt (List.map _ _) i).1 = lastOf [] i (bAt (List.map _ _) i).2
    rw [bAt_map (by rw [crashL_len', h.len]; exact hi)]
    rfl
theorem play_tick {n k : Nat} {D : Dk} (h : Play n k D) : Play n (k + 1) (Dk.tick D) := ⟨h.len, by show D.changes + 1 ≤ _; have := h.ch; omega, Nat.le_succ_of_le h.pend, h.now⟩
theorem play_strike {n k : Nat} {D : Dk} (h : Play n k D) : Play n (k + 1) D.strike.1 := by
  cases hf : D.falls.find? (fun f => f.1 == (D.changes : Int)) with
  | none => rw [strike_none hf]; exact play_tick h
  | some f => rw [strike_some hf]; exact play_crash (play_tick h) f
theorem play_put {n k : Nat} {D : Dk} (h : Play n k D) {i : Nat} (hi : i < n) {b : List UInt8} : (D.put i b).bl.length = n ∧ (D.put i b).changes ≤ k ∧ (D.put i b).pend.length ≤ k + 1 ∧ ∀ j, j < n → (bAt (D.put i b).bl j).1 = lastOf (D.put i b).pend j (bAt (D.put i b).bl j).2 := by
  refine ⟨by show (setNow _ _ _).length = n; rw [setNow_len]; exact h.len, h.ch, ?_, ?_⟩
  · show (D.pend ++ [(i, b)]).length ≤ _
    rw [List.length_append]
    have := h.pend
    simp only [List.length_cons, List.length_nil]
    omega
  · intro j hj
    show (bAt (setNow D.bl i b) j).1 = lastOf (D.pend ++ [(i, b)]) j (bAt (setNow D.bl i b) j).2
    rw [bAt_setNow _ (by rw [h.len]; exact hj), lastOf_append]
    by_cases he : i = j
    · simp [he]
    · simp only [he, if_false]
      exact h.now j hj
theorem play_write {n k : Nat} {D : Dk} (h : Play n k D) (i : Int) (b : List UInt8) : Play n (k + 1) (D.write i b).1 := by
  unfold Dk.write
  split
  · exact play_mono h (Nat.le_succ _)
  · rename_i hw
    split
    · exact play_mono h (Nat.le_succ _)
    · have hw : D.why i = 0 := by simpa using hw
      obtain ⟨_, h0, h1⟩ := why_zero hw
      obtain ⟨m, rfl⟩ := Int.eq_ofNat_of_zero_le h0
      rw [Int.toNat_natCast]
      have hm : m < n := by rw [← h.len]; omega
      obtain ⟨a1, a2, a3, a4⟩ := play_put h hm (b := b)
      -- what a change adds is counted apart from what is pending
      cases hf : (D.put m b).falls.find? (fun f => f.1 == ((D.put m b).changes : Int)) with
      | none =>
        rw [strike_none hf]
        exact ⟨a1, by show (D.put m b).changes + 1 ≤ _; omega, a3, a4⟩
      | some f =>
        rw [strike_some hf]
        exact play_crash (D := Dk.tick (D.put m b)) ⟨a1, by show (D.put m b).changes + 1 ≤ _; omega, a3, a4⟩ f
theorem play_flush {n k : Nat} {D : Dk} (h : Play n k D) : Play n (k + 1) D.flush.1 := by
  unfold Dk.flush
  split
  · exact play_mono h (Nat.le_succ _)
  · have hs := play_strike h
    split
    · exact hs
    · refine ⟨by show (flushL _ _).length = n; rw [flushL_len']; exact hs.len, hs.ch, Nat.zero_le _, fun i hi => ?_⟩
      show (bAt (flushL _ _) i).1 = lastOf [] i (bAt (flushL _ _) i).2
      rw [flushL_at _ _ _ (by rw [hs.len]; exact hi), ← hs.now i hi]
      rfl
end Go.Proofs.Ytagkcbbbdlmcjaa
end
section
/- The typed readings of the functions, and that the program meets each: written by gen.py (a program of this session). -/
set_option linter.unusedVariables false
set_option linter.unusedSimpArgs false
namespace Go.Proofs.Ytagkcbbbdlmcjaa
open Go.Lift
set_option maxRecDepth 100000 in
set_option maxHeartbeats 4000000 in
theorem s40_calls (K : List Value × Bool → World → Prop) (p0 : Option Addr) (p1 : List Value) (p2 : List Value) (w : World) (h : s40 K p0 p1 p2 w) :
    Calls Try.prog 40 #[.pointer p0, aggv p1, aggv p2] w (Ret r40 K) := by
  unfold s40 at h
  refine calls_of_CW (n := 198) Try.func40 rfl rfl rfl ?_
  refine CW.seq ?_
  refine CW.region ?_
  obtain ⟨b1, hb1_⟩ : ∃ b_, b_ = w.heap.size := ⟨_, rfl⟩
  obtain ⟨w2, hw2_⟩ : ∃ w_, w_ = w.alloc (.cells (List.toArray p1) 49) := ⟨_, rfl⟩
  have h := h b1 w2 hb1_ hw2_
  refine RL.opS trivial rfl (OpW.boxE (cs := p1) (rfl) hb1_ hw2_ ?_)
  obtain ⟨b3, hb3_⟩ : ∃ b_, b_ = w2.heap.size := ⟨_, rfl⟩
  obtain ⟨w4, hw4_⟩ : ∃ w_, w_ = w2.alloc (.cells (List.toArray p2) 65) := ⟨_, rfl⟩
  have h := h b3 w4 hb3_ hw4_
  refine RL.opS trivial rfl (OpW.boxE (cs := p2) (rfl) hb3_ hw4_ ?_)
  obtain ⟨b5, hb5_⟩ : ∃ b_, b_ = w4.heap.size := ⟨_, rfl⟩
  obtain ⟨w6, hw6_⟩ : ∃ w_, w_ = w4.alloc (.cells (List.toArray [Value.slice none 0 0, Value.slice none 0 0, Value.slice none 0 0, Value.int .i64 0, Value.bool false]) 49) := ⟨_, rfl⟩
  have h := h b5 w6 hb5_ hw6_
  refine RL.opS trivial rfl (OpW.allocE (b := b5) zero_49 hb5_ hw6_ ?_)
  refine RL.opS trivial rfl (OpW.assign (v := .bool false) rfl ?_)
  refine RL.nil ?_
  refine CW.seq ?_
  refine CW.seq ?_
  refine CW.region ?_
  refine RL.opS trivial rfl (OpW.fieldAddr (off := 0) field_65_0 rfl ?_)
  obtain ⟨x7, h1, h⟩ := h
  refine RL.opS trivial rfl (OpW.load1 (v := .int .i64 x7) one_3 rfl h1 ?_)
  refine RL.opS trivial rfl (OpW.convInt (a := x7) int_3 int_66 rfl ?_)
  refine RL.opS trivial rfl (OpW.quo (a := (IntKind.u64.wrap x7)) (b := 7) (v := .int .u64 (Int.tmod (IntKind.u64.wrap x7) 7)) rfl rfl (by decide) rfl ?_)
  refine RL.nil ?_
  refine CW.block ?_
  refine CW.seq ?_
  refine CW.region ?_
  refine RL.opS trivial rfl (OpW.bin (k := .u64) (a := (Int.tmod (IntKind.u64.wrap x7) 7)) (b := 0) (v := .bool (decide ((Int.tmod (IntKind.u64.wrap x7) 7) = 0))) rfl rfl rfl ?_)
  refine RL.opS trivial rfl (OpW.assign (v := .bool (decide ((Int.tmod (IntKind.u64.wrap x7) 7) = 0))) rfl ?_)
  refine RL.nil ?_
  obtain ⟨ha, hc⟩ := h
  refine CW.cond (b := (decide ((Int.tmod (IntKind.u64.wrap x7) 7) = 0))) rfl (fun hb8 => ?_) (fun hb8 => ?_)
  · have h := ha hb8; clear ha hc
    refine CW.seq ?_
    refine CW.region ?_
    refine RL.opS trivial rfl (OpW.fieldAddr field_65_2 rfl ?_)
    obtain ⟨x9, h1, h⟩ := h
    refine RL.opS trivial rfl (OpW.load1 (v := .int .u8 x9) one_5 rfl h1 ?_)
    refine RL.opS trivial rfl (OpW.fieldAddr field_65_3 rfl ?_)
    obtain ⟨x10, h1, h⟩ := h
    refine RL.opS trivial rfl (OpW.load1 (v := str x10) one_9 rfl h1 ?_)
    refine RL.opS trivial rfl (OpW.callR (al := [.int .u8 x9, str x10]) Try.func32 fb_32 fn_32 rfl h (fun x11 w12 h => ?_))
    refine RL.opS trivial rfl (OpW.assign (v := Sl.v x11) rfl ?_)
    refine RL.nil ?_
    refine jn_elim h ?_; clear h; intro k59 hk60 h
    refine CW.seqJ (A := Sl) (fun s20 ρ => ρ 8 = Sl.v s20 ∧ ρ 0 = .pointer p0 ∧ ρ 4 = .pointer (some ⟨b1, 0, none⟩) ∧ ρ 5 = .pointer (some ⟨b3, 0, none⟩) ∧ ρ 6 = .pointer (some ⟨b5, 0, none⟩)) k59 ?_ ?_
    · rintro s20 ρ w21 ⟨e22, e23, e24, e25, e26⟩ h
      subst hk60
      refine CW.seq ?_
      refine CW.region ?_
      refine RL.opS trivial rfl (OpW.move (v := .pointer p0) e23 ?_)
      refine RL.opS trivial rfl (OpW.fieldAddr field_65_1 e25 ?_)
      obtain ⟨x27, h1, h⟩ := h
      refine RL.opS trivial rfl (OpW.load1 (v := .int .i64 x27) one_3 rfl h1 ?_)
      refine RL.opS trivial rfl (OpW.move (v := Sl.v s20) e22 ?_)
      refine RL.opS trivial rfl (OpW.callR (al := [.pointer p0, .int .i64 x27, Sl.v s20]) Try.func33 fb_33 fn_33 rfl h (fun x28 w29 h => ?_))
      refine RL.opS trivial rfl (OpW.assign (v := .int .i64 x28) rfl ?_)
      refine RL.nil ?_
      refine CW.seq ?_
      refine CW.region ?_
      obtain ⟨x30, h1, h2, h⟩ := h
      refine RL.opS trivial rfl (OpW.loadA agg_49 e24 h1 h2 ?_)
      refine RL.opS trivial rfl (OpW.fieldAddr field_65_1 e25 ?_)
      obtain ⟨x31, h1, h⟩ := h
      refine RL.opS trivial rfl (OpW.load1 (v := .int .i64 x31) one_3 rfl h1 ?_)
      refine RL.opS trivial rfl (OpW.move (v := Sl.v s20) e22 ?_)
      obtain ⟨x32, h1, h2, h⟩ := h
      refine RL.opS trivial rfl (OpW.b2s bsl_39 str_9 rfl h1 h2 ?_)
      refine RL.opS trivial rfl (OpW.callR (al := [aggv x30, .int .i64 x31, str x32]) Try.func42 fb_42 fn_42 rfl h (fun x33 w34 h => ?_))
      refine RL.opS trivial rfl (OpW.move (v := .tuple #[aggv x33.1, .int .i64 x33.2]) rfl ?_)
      refine RL.opS trivial rfl (OpW.extract (v := aggv x33.1) rfl rfl ?_)
      refine RL.opS trivial rfl (OpW.extract (v := .int .i64 x33.2) rfl rfl ?_)
      obtain ⟨hl_b35, ho_b35, h⟩ := h
      obtain ⟨b35, hb35_⟩ : ∃ b_, b_ = w34.heap.size := ⟨_, rfl⟩
      obtain ⟨w36, hw36_⟩ : ∃ w_, w_ = w34.alloc (.cells (List.toArray x33.1) 49) := ⟨_, rfl⟩
      have h := h b35 w36 hb35_ hw36_
      refine RL.opS trivial rfl (OpW.allocZ (b := b35) zero_49 hb35_ ?_)
      refine RL.opN trivial (OpW.storeF (zs := [Value.slice none 0 0, Value.slice none 0 0, Value.slice none 0 0, Value.int .i64 0, Value.bool false]) (cs := x33.1) size_49 rfl rfl hl_b35 (by decide) ho_b35 hb35_ hw36_ ?_)
      refine RL.opS trivial rfl (OpW.assign (v := .int .i64 x33.2) rfl ?_)
      refine RL.nil ?_
      refine CW.seq ?_
      refine CW.seq ?_
      refine CW.region ?_
      refine RL.opS trivial rfl (OpW.move (v := Sl.v s20) e22 ?_)
      refine RL.opS trivial rfl (OpW.len (s := s20) slice_39 rfl ?_)
      refine RL.opS trivial rfl (OpW.move (v := .int .i64 0) rfl ?_)
      refine RL.nil ?_
      refine CW.block ?_
      obtain ⟨I57, mu58, hI, hs⟩ := h
      refine CW.loop (σ := Int) (fun s37 ρ => ρ 57 = .int .i64 s37 ∧ ρ 6 = .pointer (some ⟨b5, 0, none⟩) ∧ ρ 8 = Sl.v s20 ∧ ρ 9 = .int .i64 x28 ∧ ρ 10 = .pointer (some ⟨b35, 0, none⟩) ∧ ρ 11 = .int .i64 x33.2 ∧ ρ 56 = .int .i64 (s20.len : Int)) I57 mu58 0 ⟨rfl, e26, e22, rfl, rfl, rfl, rfl⟩ hI ?_
      rintro s37 ρ w38 ⟨e40, e41, e42, e43, e44, e45, e46⟩ hI
      have h := hs s37 w38 hI
      clear hs hI
      refine CW.seq ?_
      refine CW.region ?_
      refine RL.opS trivial rfl (OpW.bin (k := .i64) (a := s37) (b := (s20.len : Int)) (v := .bool (decide (s37 < (s20.len : Int)))) e40 e46 rfl ?_)
      refine RL.nil ?_
      refine CW.seq ?_
      obtain ⟨ha, hc⟩ := h
      refine CW.cond (b := (decide (s37 < (s20.len : Int)))) rfl (fun hb47 => ?_) (fun hb47 => ?_)
      · have h := ha hb47; clear ha hc
        refine CW.skip ?_
        refine CW.seq ?_
        refine CW.block ?_
        refine CW.seq ?_
        refine CW.region ?_
        refine RL.opS trivial rfl (OpW.move (v := .int .i64 s37) e40 ?_)
        refine RL.opS trivial rfl (OpW.assign (v := .int .i64 s37) rfl ?_)
        refine RL.nil ?_
        refine CW.region ?_
        refine RL.opS trivial rfl (OpW.move (v := Sl.v s20) e42 ?_)
        refine RL.opS trivial rfl (OpW.move (v := .int .i64 s37) rfl ?_)
        obtain ⟨a48_, a48, h1, h2, h3, h4, h⟩ := h
        refine RL.opS trivial rfl (OpW.indexE (a' := a48) slice_39 rfl rfl h1 h2 h3 h4 ?_)
        obtain ⟨x50, h1, h⟩ := h
        refine RL.opS trivial rfl (OpW.load1 (v := .int .u8 x50) one_5 rfl h1 ?_)
        refine RL.opS trivial rfl (OpW.bin (k := .u8) (a := x50) (b := 1) (v := .int .u8 (IntKind.u8.wrap (x50 + 1))) rfl rfl rfl ?_)
        obtain ⟨a51_, a51, h1, h2, h3, h4, h⟩ := h
        refine RL.opS trivial rfl (OpW.indexE (a' := a51) slice_39 rfl rfl h1 h2 h3 h4 ?_)
        obtain ⟨u_, h1, h2, h⟩ := h
        obtain ⟨w53, hw53_⟩ : ∃ w_, w_ = w38.setCell a51 (.int .u8 (IntKind.u8.wrap (x50 + 1))) := ⟨_, rfl⟩
        have h := h w53 hw53_
        refine RL.opN trivial (OpW.store1E (v := .int .u8 (IntKind.u8.wrap (x50 + 1))) size_5 rfl rfl rfl h1 h2 hw53_ ?_)
        refine RL.nil ?_
        refine CW.region ?_
        refine RL.opS trivial rfl (OpW.bin (k := .i64) (a := s37) (b := 1) (v := .int .i64 (IntKind.i64.wrap (s37 + 1))) e40 rfl rfl ?_)
        refine RL.opS trivial rfl (OpW.move (v := .int .i64 (IntKind.i64.wrap (s37 + 1))) rfl ?_)
        refine RL.nil ?_
        exact ⟨(IntKind.i64.wrap (s37 + 1)), ⟨rfl, e41, e42, e43, e44, e45, e46⟩, h⟩
      · have h := hc hb47; clear ha hc
        refine CW.exit ?_
        refine CW.seq ?_
        refine CW.region ?_
        obtain ⟨x54, h1, h2, h⟩ := h
        refine RL.opS trivial rfl (OpW.loadA agg_49 e44 h1 h2 ?_)
        refine RL.opS trivial rfl (OpW.move (v := .int .i64 x28) e43 ?_)
        refine RL.opS trivial rfl (OpW.move (v := .int .i64 x33.2) e45 ?_)
        refine RL.opS trivial rfl (OpW.bin (k := .i64) (a := x28) (b := x33.2) (v := .bool (decide (x28 = x33.2))) rfl rfl rfl ?_)
        obtain ⟨g_, o_, e_, cur_, ha_, h1, h2, h3, h4, h⟩ := h
        obtain ⟨w55, hw55_⟩ : ∃ w_, w_ = w38.setRow g_ (cur_.toList.take o_ ++ x54 ++ cur_.toList.drop (o_ + List.length x54)).toArray := ⟨_, rfl⟩
        have h := h w55 hw55_
        refine RL.opN trivial (OpW.storeAE (cs := x54) size_49 e41 rfl ha_ h1 h2 h3 h4 hw55_ ?_)
        refine RL.opS trivial rfl (OpW.assign (v := .bool (decide (x28 = x33.2))) rfl ?_)
        refine RL.nil ?_
        refine CW.ret ?_
        obtain ⟨x56, hc1, hc2, h⟩ := h
        exact ret_intro (res2c rfl agg_49 e41 hc1 hc2 rfl) ⟨(x56, (decide (x28 = x33.2))), rfl, h⟩
    · clear hk60
      refine CW.seq ?_
      refine CW.region ?_
      refine RL.opS trivial rfl (OpW.fieldAddr field_65_4 rfl ?_)
      obtain ⟨x14, h1, h⟩ := h
      refine RL.opS trivial rfl (OpW.load1 (v := .bool x14) one_4 rfl h1 ?_)
      refine RL.nil ?_
      obtain ⟨ha, hc⟩ := h
      refine CW.cond (b := x14) rfl (fun hb15 => ?_) (fun hb15 => ?_)
      · have h := ha hb15; clear ha hc
        refine CW.region ?_
        refine RL.opS trivial rfl (OpW.move (v := Sl.v x11) rfl ?_)
        obtain ⟨b16, hb16_⟩ : ∃ b_, b_ = w12.heap.size := ⟨_, rfl⟩
        obtain ⟨w17, hw17_⟩ : ∃ w_, w_ = w12.alloc (.cells (List.toArray [.int .u8 0]) 5) := ⟨_, rfl⟩
        have h := h b16 w17 hb16_ hw17_
        refine RL.opS trivial rfl (OpW.buildSliceE (vs := [(0, .int .u8 0)]) (cs := [.int .u8 0]) (by rfl) (by kernel_rfl) hb16_ hw17_ ?_)
        obtain ⟨x18, w19, hr_, h⟩ := h
        refine RL.opS trivial rfl (OpW.appendL (v := Sl.v x18) rfl hr_ ?_)
        refine RL.opS trivial rfl (OpW.assign (v := Sl.v x18) rfl ?_)
        refine RL.nil ?_
        exact ⟨x18, ⟨rfl, rfl, rfl, rfl, rfl⟩, h⟩
      · have h := hc hb15; clear ha hc
        refine CW.skip ?_
        exact ⟨x11, ⟨rfl, rfl, rfl, rfl, rfl⟩, h⟩
  · have h := hc hb8; clear ha hc
    refine CW.seq ?_
    refine CW.region ?_
    refine RL.opS trivial rfl (OpW.bin (k := .u64) (a := (Int.tmod (IntKind.u64.wrap x7) 7)) (b := 1) (v := .bool (decide ((Int.tmod (IntKind.u64.wrap x7) 7) = 1))) rfl rfl rfl ?_)
    refine RL.opS trivial rfl (OpW.assign (v := .bool (decide ((Int.tmod (IntKind.u64.wrap x7) 7) = 1))) rfl ?_)
    refine RL.nil ?_
    obtain ⟨ha, hc⟩ := h
    refine CW.cond (b := (decide ((Int.tmod (IntKind.u64.wrap x7) 7) = 1))) rfl (fun hb61 => ?_) (fun hb61 => ?_)
    · have h := ha hb61; clear ha hc
      refine CW.seq ?_
      refine CW.region ?_
      refine RL.opS trivial rfl (OpW.move (v := .pointer p0) rfl ?_)
      refine RL.opS trivial rfl (OpW.callR (al := [.pointer p0]) Try.func34 fb_34 fn_34 rfl h (fun x62 w63 h => ?_))
      refine RL.opS trivial rfl (OpW.assign (v := .int .i64 x62) rfl ?_)
      refine RL.nil ?_
      refine CW.seq ?_
      refine CW.region ?_
      obtain ⟨x64, h1, h2, h⟩ := h
      refine RL.opS trivial rfl (OpW.loadA agg_49 rfl h1 h2 ?_)
      refine RL.opS trivial rfl (OpW.callR (al := [aggv x64]) Try.func65 fb_65 fn_65 rfl h (fun x65 w66 h => ?_))
      refine RL.opS trivial rfl (OpW.move (v := .tuple #[aggv x65.1, .int .i64 x65.2]) rfl ?_)
      refine RL.opS trivial rfl (OpW.extract (v := aggv x65.1) rfl rfl ?_)
      refine RL.opS trivial rfl (OpW.extract (v := .int .i64 x65.2) rfl rfl ?_)
      obtain ⟨hl_b67, ho_b67, h⟩ := h
      obtain ⟨b67, hb67_⟩ : ∃ b_, b_ = w66.heap.size := ⟨_, rfl⟩
      obtain ⟨w68, hw68_⟩ : ∃ w_, w_ = w66.alloc (.cells (List.toArray x65.1) 49) := ⟨_, rfl⟩
      have h := h b67 w68 hb67_ hw68_
      refine RL.opS trivial rfl (OpW.allocZ (b := b67) zero_49 hb67_ ?_)
      refine RL.opN trivial (OpW.storeF (zs := [Value.slice none 0 0, Value.slice none 0 0, Value.slice none 0 0, Value.int .i64 0, Value.bool false]) (cs := x65.1) size_49 rfl rfl hl_b67 (by decide) ho_b67 hb67_ hw68_ ?_)
      refine RL.opS trivial rfl (OpW.assign (v := .int .i64 x65.2) rfl ?_)
      refine RL.nil ?_
      refine CW.seq ?_
      refine CW.region ?_
      obtain ⟨x69, h1, h2, h⟩ := h
      refine RL.opS trivial rfl (OpW.loadA agg_49 rfl h1 h2 ?_)
      refine RL.opS trivial rfl (OpW.move (v := .int .i64 x62) rfl ?_)
      refine RL.opS trivial rfl (OpW.move (v := .int .i64 x65.2) rfl ?_)
      refine RL.opS trivial rfl (OpW.bin (k := .i64) (a := x62) (b := x65.2) (v := .bool (decide (x62 = x65.2))) rfl rfl rfl ?_)
      obtain ⟨g_, o_, e_, cur_, ha_, h1, h2, h3, h4, h⟩ := h
      obtain ⟨w70, hw70_⟩ : ∃ w_, w_ = w68.setRow g_ (cur_.toList.take o_ ++ x69 ++ cur_.toList.drop (o_ + List.length x69)).toArray := ⟨_, rfl⟩
      have h := h w70 hw70_
      refine RL.opN trivial (OpW.storeAE (cs := x69) size_49 rfl rfl ha_ h1 h2 h3 h4 hw70_ ?_)
      refine RL.opS trivial rfl (OpW.assign (v := .bool (decide (x62 = x65.2))) rfl ?_)
      refine RL.nil ?_
      refine CW.ret ?_
      obtain ⟨x71, hc1, hc2, h⟩ := h
      exact ret_intro (res2c rfl agg_49 rfl hc1 hc2 rfl) ⟨(x71, (decide (x62 = x65.2))), rfl, h⟩
    · have h := hc hb61; clear ha hc
      refine CW.seq ?_
      refine CW.region ?_
      refine RL.opS trivial rfl (OpW.bin (k := .u64) (a := (Int.tmod (IntKind.u64.wrap x7) 7)) (b := 2) (v := .bool (decide ((Int.tmod (IntKind.u64.wrap x7) 7) = 2))) rfl rfl rfl ?_)
      refine RL.opS trivial rfl (OpW.assign (v := .bool (decide ((Int.tmod (IntKind.u64.wrap x7) 7) = 2))) rfl ?_)
      refine RL.nil ?_
      obtain ⟨ha, hc⟩ := h
      refine CW.cond (b := (decide ((Int.tmod (IntKind.u64.wrap x7) 7) = 2))) rfl (fun hb72 => ?_) (fun hb72 => ?_)
      · have h := ha hb72; clear ha hc
        refine CW.seq ?_
        refine CW.region ?_
        refine RL.opS trivial rfl (OpW.move (v := .pointer p0) rfl ?_)
        refine RL.opS trivial rfl (OpW.fieldAddr field_65_1 rfl ?_)
        obtain ⟨x73, h1, h⟩ := h
        refine RL.opS trivial rfl (OpW.load1 (v := .int .i64 x73) one_3 rfl h1 ?_)
        refine RL.opS trivial rfl (OpW.callR (al := [.pointer p0, .int .i64 x73]) Try.func28 fb_28 fn_28 rfl h (fun x74 w75 h => ?_))
        refine RL.opS trivial rfl (OpW.move (v := .tuple #[Sl.v x74.1, .int .i64 x74.2]) rfl ?_)
        refine RL.opS trivial rfl (OpW.extract (v := Sl.v x74.1) rfl rfl ?_)
        refine RL.opS trivial rfl (OpW.extract (v := .int .i64 x74.2) rfl rfl ?_)
        refine RL.opS trivial rfl (OpW.assign (v := Sl.v x74.1) rfl ?_)
        refine RL.opS trivial rfl (OpW.assign (v := .int .i64 x74.2) rfl ?_)
        refine RL.nil ?_
        refine CW.seq ?_
        refine CW.seq ?_
        refine CW.region ?_
        obtain ⟨x76, h1, h2, h⟩ := h
        refine RL.opS trivial rfl (OpW.loadA agg_49 rfl h1 h2 ?_)
        refine RL.opS trivial rfl (OpW.fieldAddr field_65_1 rfl ?_)
        obtain ⟨x77, h1, h⟩ := h
        refine RL.opS trivial rfl (OpW.load1 (v := .int .i64 x77) one_3 rfl h1 ?_)
        refine RL.opS trivial rfl (OpW.callR (al := [aggv x76, .int .i64 x77]) Try.func66 fb_66 fn_66 rfl h (fun x78 w79 h => ?_))
        refine RL.opS trivial rfl (OpW.assign (v := .int .i64 x78) rfl ?_)
        refine RL.nil ?_
        refine CW.seq ?_
        refine CW.region ?_
        refine RL.opS trivial rfl (OpW.move (v := .int .i64 x78) rfl ?_)
        refine RL.opS trivial rfl (OpW.bin (k := .i64) (a := x78) (b := 0) (v := .bool (!decide (x78 = 0))) rfl rfl rfl ?_)
        refine RL.nil ?_
        obtain ⟨ha, hc⟩ := h
        refine CW.cond (b := (!decide (x78 = 0))) rfl (fun hb80 => ?_) (fun hb80 => ?_)
        · have h := ha hb80; clear ha hc
          refine CW.seq ?_
          refine CW.region ?_
          obtain ⟨x81, h1, h2, h⟩ := h
          refine RL.opS trivial rfl (OpW.loadA agg_49 rfl h1 h2 ?_)
          refine RL.opS trivial rfl (OpW.move (v := .int .i64 x74.2) rfl ?_)
          refine RL.opS trivial rfl (OpW.move (v := .int .i64 x78) rfl ?_)
          refine RL.opS trivial rfl (OpW.bin (k := .i64) (a := x74.2) (b := x78) (v := .bool (decide (x74.2 = x78))) rfl rfl rfl ?_)
          refine RL.opS trivial rfl (OpW.move (v := .bool (decide (x74.2 = x78))) rfl ?_)
          refine jn_elim h ?_; clear h; intro k91 hk92 h
          refine RL.joinAt (A := Bool) 4 (fun s84 ρ => ρ 107 = .bool s84 ∧ ρ 6 = .pointer (some ⟨b5, 0, none⟩) ∧ ρ 99 = aggv x81) k91 ?_ ?_
          · rintro s84 ρ w85 ⟨e86, e87, e88⟩ h
            subst hk92
            dsimp only [List.drop]
            obtain ⟨g_, o_, e_, cur_, ha_, h1, h2, h3, h4, h⟩ := h
            obtain ⟨w89, hw89_⟩ : ∃ w_, w_ = w85.setRow g_ (cur_.toList.take o_ ++ x81 ++ cur_.toList.drop (o_ + List.length x81)).toArray := ⟨_, rfl⟩
            have h := h w89 hw89_
            refine RL.opN trivial (OpW.storeAE (cs := x81) size_49 e87 e88 ha_ h1 h2 h3 h4 hw89_ ?_)
            refine RL.opS trivial rfl (OpW.assign (v := .bool s84) e86 ?_)
            refine RL.nil ?_
            refine CW.ret ?_
            obtain ⟨x90, hc1, hc2, h⟩ := h
            exact ret_intro (res2c rfl agg_49 e87 hc1 hc2 rfl) ⟨(x90, s84), rfl, h⟩
          · clear hk92
            dsimp only [List.take]
            obtain ⟨ha, hc⟩ := h
            rcases Bool.eq_false_or_eq_true (decide (x74.2 = x78)) with hb82 | hb82
            · have h := ha hb82; clear ha hc
              refine RL.opS (wanted_of rfl rfl hb82) rfl (OpW.move (v := Sl.v x74.1) rfl ?_)
              refine RL.opS (wanted_of rfl rfl hb82) rfl (OpW.len (s := x74.1) slice_39 rfl ?_)
              refine RL.opS (wanted_of rfl rfl hb82) rfl (OpW.bin (k := .i64) (a := (x74.1.len : Int)) (b := 0) (v := .bool (decide ((x74.1.len : Int) = 0))) rfl rfl rfl ?_)
              refine RL.opS trivial rfl (OpW.pick (b := true) (v := .bool (decide ((x74.1.len : Int) = 0))) (congrArg Value.bool hb82) rfl ?_)
              refine RL.nil ?_
              exact ⟨(decide ((x74.1.len : Int) = 0)), ⟨rfl, rfl, rfl⟩, h⟩
            · have h := hc hb82; clear ha hc
              refine RL.skipS (notWanted_of rfl rfl hb82) rfl ?_
              refine RL.skipS (notWanted_of rfl rfl hb82) rfl ?_
              refine RL.skipS (notWanted_of rfl rfl hb82) rfl ?_
              refine RL.opS trivial rfl (OpW.pick (b := false) (v := .bool false) (congrArg Value.bool hb82) rfl ?_)
              refine RL.nil ?_
              exact ⟨false, ⟨rfl, rfl, rfl⟩, h⟩
        · have h := hc hb80; clear ha hc
          refine CW.skip ?_
          refine CW.seq ?_
          obtain ⟨w93, hw93_⟩ : ∃ w_, w_ = w79.drew := ⟨_, rfl⟩
          have h := h w93 hw93_
          have hx94 : ExtB (some (Addr.block ⟨b5, 0, none⟩)) w79 w93 := by rw [hw93_]; exact ExtB.of (Ext.drew _)
          refine CW.draws (m := 14) (listed := #[false, false, false, false, false, false, false, false, false, false, false, false, false, false]) mixed [0, 1, 2, 3, 4, 5, 6, 7, 8, 9, 10, 11, 12, 13] (ExtB (some (Addr.block ⟨b5, 0, none⟩)) w79) rfl rfl ?_
          rw [← hw93_]
          obtain ⟨hne96, h⟩ := h
          obtain ⟨x95, h1, h2, h⟩ := h
          refine DL.takeK (listed' := #[true, false, false, false, false, false, false, false, false, false, false, false, false, false]) (v := aggv x95) 0 rfl rfl (by kernel_rfl) (by kernel_rfl) rfl trivial rfl hx94 (fun w_ hS_ K_ h_ => OpW.loadA agg_49 rfl h1 (hS_.at hne96 h2) h_) ?_
          refine DL.takeP (listed' := #[true, true, false, false, false, false, false, false, false, false, false, false, false, false]) (v := .int .i64 x74.2) 1 rfl rfl (by kernel_rfl) rfl trivial rfl (fun w_ K_ h_ => OpW.move (v := .int .i64 x74.2) rfl h_) ?_
          refine DL.takeP (listed' := #[true, true, true, false, false, false, false, false, false, false, false, false, false, false]) (v := .bool (decide (x74.2 = 0))) 2 rfl rfl (by kernel_rfl) rfl trivial rfl (fun w_ K_ h_ => OpW.bin (k := .i64) (a := x74.2) (b := 0) (v := .bool (decide (x74.2 = 0))) rfl rfl rfl h_) ?_
          refine DL.takeP (listed' := #[true, true, true, true, false, false, false, false, false, false, false, false, false, false]) (v := .bool (decide (x74.2 = 0))) 3 rfl rfl (by kernel_rfl) rfl trivial rfl (fun w_ K_ h_ => OpW.move (v := .bool (decide (x74.2 = 0))) rfl h_) ?_
          refine jn_elim h ?_; clear h; intro k117 hk118 h
          refine DL.cutS (A := Bool) (fun s108 ρ => ρ 119 = .bool s108 ∧ ρ 6 = .pointer (some ⟨b5, 0, none⟩) ∧ ρ 108 = aggv x95) k117 2 #[true, true, true, true, true, true, true, true, true, true, true, true, false, false] ?_ ?_
          · rintro s108 ρ w109 ⟨e111, e112, e113⟩ hx110 h
            subst hk118
            obtain ⟨g_, o_, e_, cur_, ha_, h1, h2, h3, h4, h⟩ := h
            obtain ⟨w114, hw114_⟩ : ∃ w_, w_ = w109.setRow g_ (cur_.toList.take o_ ++ x95 ++ cur_.toList.drop (o_ + List.length x95)).toArray := ⟨_, rfl⟩
            have h := h w114 hw114_
            refine DL.execN (listed' := #[true, true, true, true, true, true, true, true, true, true, true, true, true, false]) 12 rfl (by kernel_rfl) rfl trivial (OpW.storeAE (cs := x95) size_49 e112 e113 ha_ h1 h2 h3 h4 hw114_ ?_)
            have hx115 : ExtB (some (Addr.block ⟨b5, 0, none⟩)) w79 w114 := by
              rw [hw114_]
              refine ExtB.setRow hx110 ?_
              have hbk_ := congrArg Addr.block ha_; simp only [add_block] at hbk_; simp_all
            refine ⟨(fun _ _ => hx115), ?_⟩
            refine DL.takeP (listed' := #[true, true, true, true, true, true, true, true, true, true, true, true, true, true]) (v := .bool s108) 13 rfl rfl (by kernel_rfl) rfl trivial rfl (fun w_ K_ h_ => OpW.assign (v := .bool s108) e111 h_) ?_
            refine DL.done (by kernel_rfl) ?_
            refine CW.ret ?_
            obtain ⟨x116, hc1, hc2, h⟩ := h
            exact ret_intro (res2c rfl agg_49 e112 hc1 hc2 rfl) ⟨(x116, s108), rfl, h⟩
          · intro hJJ97; clear hk118
            obtain ⟨ha, hc⟩ := h
            rcases Bool.eq_false_or_eq_true (decide (x74.2 = 0)) with hb98 | hb98
            · have h := ha hb98; clear ha hc
              refine DL.takeP (listed' := #[true, true, true, true, true, false, false, false, false, false, false, false, false, false]) (v := Sl.v x74.1) 4 rfl rfl (by kernel_rfl) rfl (wanted_of rfl rfl hb98) rfl (fun w_ K_ h_ => OpW.move (v := Sl.v x74.1) rfl h_) ?_
              obtain ⟨hne100, h⟩ := h
              obtain ⟨x99, h1, h2, h⟩ := h
              refine DL.takeK (listed' := #[true, true, true, true, true, true, false, false, false, false, false, false, false, false]) (v := str x99) 5 rfl rfl (by kernel_rfl) (by kernel_rfl) rfl (wanted_of rfl rfl hb98) rfl hx94 (fun w_ hS_ K_ h_ => OpW.b2s bsl_39 str_9 rfl h1 (hS_.atO hne100 h2) h_) ?_
              obtain ⟨hne102, h⟩ := h
              obtain ⟨x101, h1, h2, h⟩ := h
              refine DL.takeK (listed' := #[true, true, true, true, true, true, true, false, false, false, false, false, false, false]) (v := aggv x101) 6 rfl rfl (by kernel_rfl) (by kernel_rfl) rfl (wanted_of rfl rfl hb98) rfl hx94 (fun w_ hS_ K_ h_ => OpW.loadA agg_49 rfl h1 (hS_.at hne102 h2) h_) ?_
              refine DL.takeP (listed' := #[true, true, true, true, true, true, true, true, false, false, false, false, false, false]) (v := .pointer (some (Addr.add ⟨b3, 0, none⟩ 1))) 7 rfl rfl (by kernel_rfl) rfl (wanted_of rfl rfl hb98) rfl (fun w_ K_ h_ => OpW.fieldAddr field_65_1 rfl h_) ?_
              obtain ⟨hne104, h⟩ := h
              obtain ⟨x103, h1, h⟩ := h
              refine DL.takeK (listed' := #[true, true, true, true, true, true, true, true, true, false, false, false, false, false]) (v := .int .i64 x103) 8 rfl rfl (by kernel_rfl) (by kernel_rfl) rfl (wanted_of rfl rfl hb98) rfl hx94 (fun w_ hS_ K_ h_ => OpW.load1 (v := .int .i64 x103) one_3 rfl (hS_.cell hne104 h1) h_) ?_
              refine DL.execS (listed' := #[true, true, true, true, true, true, true, true, true, true, false, false, false, false]) 9 rfl (by kernel_rfl) rfl (wanted_of rfl rfl hb98) rfl (OpW.callR (al := [aggv x101, .int .i64 x103]) Try.func29 fb_29 fn_29 rfl h (fun x105 w106 h => ?_))
              obtain ⟨hxc_, h⟩ := h
              have hx107 := ExtB.trans_ext hx94 hxc_
              refine ⟨(fun _ _ => hx107), ?_⟩
              refine DL.takeP (listed' := #[true, true, true, true, true, true, true, true, true, true, true, false, false, false]) (v := .bool (decide (x99 = x105))) 10 rfl rfl (by kernel_rfl) rfl (wanted_of rfl rfl hb98) rfl (fun w_ K_ h_ => OpW.strCmp (b := decide (x99 = x105)) rfl rfl rfl h_) ?_
              refine DL.takeP (listed' := #[true, true, true, true, true, true, true, true, true, true, true, true, false, false]) (v := .bool (decide (x99 = x105))) 11 rfl rfl (by kernel_rfl) rfl trivial rfl (fun w_ K_ h_ => OpW.pick (b := true) (v := .bool (decide (x99 = x105))) (congrArg Value.bool hb98) rfl h_) ?_
              exact hJJ97 _ _ ⟨(decide (x99 = x105)), ⟨rfl, rfl, rfl⟩, hx107, h⟩
            · have h := hc hb98; clear ha hc
              refine DL.skipP (listed' := #[true, true, true, true, true, false, false, false, false, false, false, false, false, false]) 4 rfl (by kernel_rfl) rfl (notWanted_of rfl rfl hb98) rfl ?_
              refine DL.skipP (listed' := #[true, true, true, true, true, true, false, false, false, false, false, false, false, false]) 5 rfl (by kernel_rfl) rfl (notWanted_of rfl rfl hb98) rfl ?_
              refine DL.skipP (listed' := #[true, true, true, true, true, true, true, false, false, false, false, false, false, false]) 6 rfl (by kernel_rfl) rfl (notWanted_of rfl rfl hb98) rfl ?_
              refine DL.skipP (listed' := #[true, true, true, true, true, true, true, true, false, false, false, false, false, false]) 7 rfl (by kernel_rfl) rfl (notWanted_of rfl rfl hb98) rfl ?_
              refine DL.skipP (listed' := #[true, true, true, true, true, true, true, true, true, false, false, false, false, false]) 8 rfl (by kernel_rfl) rfl (notWanted_of rfl rfl hb98) rfl ?_
              refine DL.skipX (listed' := #[true, true, true, true, true, true, true, true, true, true, false, false, false, false]) 9 rfl (by kernel_rfl) rfl (notWanted_of rfl rfl hb98) rfl ?_
              refine DL.skipP (listed' := #[true, true, true, true, true, true, true, true, true, true, true, false, false, false]) 10 rfl (by kernel_rfl) rfl (notWanted_of rfl rfl hb98) rfl ?_
              refine DL.takeP (listed' := #[true, true, true, true, true, true, true, true, true, true, true, true, false, false]) (v := .bool false) 11 rfl rfl (by kernel_rfl) rfl trivial rfl (fun w_ K_ h_ => OpW.pick (b := false) (v := .bool false) (congrArg Value.bool hb98) rfl h_) ?_
              exact hJJ97 _ _ ⟨false, ⟨rfl, rfl, rfl⟩, hx94, h⟩
      · have h := hc hb72; clear ha hc
        refine CW.seq ?_
        refine CW.region ?_
        refine RL.opS trivial rfl (OpW.bin (k := .u64) (a := (Int.tmod (IntKind.u64.wrap x7) 7)) (b := 3) (v := .bool (decide ((Int.tmod (IntKind.u64.wrap x7) 7) = 3))) rfl rfl rfl ?_)
        refine RL.opS trivial rfl (OpW.assign (v := .bool (decide ((Int.tmod (IntKind.u64.wrap x7) 7) = 3))) rfl ?_)
        refine RL.nil ?_
        obtain ⟨ha, hc⟩ := h
        refine CW.cond (b := (decide ((Int.tmod (IntKind.u64.wrap x7) 7) = 3))) rfl (fun hb119 => ?_) (fun hb119 => ?_)
        · have h := ha hb119; clear ha hc
          refine CW.seq ?_
          refine CW.region ?_
          refine RL.opS trivial rfl (OpW.move (v := .pointer p0) rfl ?_)
          refine RL.opS trivial rfl (OpW.fieldAddr field_65_5 rfl ?_)
          obtain ⟨x120, h1, h2, h⟩ := h
          refine RL.opS trivial rfl (OpW.loadA agg_27 rfl h1 h2 ?_)
          refine RL.opS trivial rfl (OpW.callR (al := [.pointer p0, aggv x120]) Try.func35 fb_35 fn_35 rfl h (fun x121 w122 h => ?_))
          refine RL.nil ?_
          refine CW.seq ?_
          refine CW.region ?_
          obtain ⟨x123, h1, h2, h⟩ := h
          refine RL.opS trivial rfl (OpW.loadA agg_49 rfl h1 h2 ?_)
          refine RL.opS trivial rfl (OpW.fieldAddr field_65_5 rfl ?_)
          obtain ⟨x124, h1, h2, h⟩ := h
          refine RL.opS trivial rfl (OpW.loadA agg_27 rfl h1 h2 ?_)
          refine RL.opS trivial rfl (OpW.callR (al := [aggv x123, aggv x124]) Try.func58 fb_58 fn_58 rfl h (fun x125 w126 h => ?_))
          obtain ⟨g_, o_, e_, cur_, ha_, h1, h2, h3, h4, h⟩ := h
          obtain ⟨w127, hw127_⟩ : ∃ w_, w_ = w126.setRow g_ (cur_.toList.take o_ ++ x125 ++ cur_.toList.drop (o_ + List.length x125)).toArray := ⟨_, rfl⟩
          have h := h w127 hw127_
          refine RL.opN trivial (OpW.storeAE (cs := x125) size_49 rfl rfl ha_ h1 h2 h3 h4 hw127_ ?_)
          refine RL.opS trivial rfl (OpW.assign (v := .bool true) rfl ?_)
          refine RL.nil ?_
          refine CW.ret ?_
          obtain ⟨x128, hc1, hc2, h⟩ := h
          exact ret_intro (res2c rfl agg_49 rfl hc1 hc2 rfl) ⟨(x128, true), rfl, h⟩
        · have h := hc hb119; clear ha hc
          refine CW.seq ?_
          refine CW.region ?_
          refine RL.opS trivial rfl (OpW.bin (k := .u64) (a := (Int.tmod (IntKind.u64.wrap x7) 7)) (b := 4) (v := .bool (decide ((Int.tmod (IntKind.u64.wrap x7) 7) = 4))) rfl rfl rfl ?_)
          refine RL.opS trivial rfl (OpW.assign (v := .bool (decide ((Int.tmod (IntKind.u64.wrap x7) 7) = 4))) rfl ?_)
          refine RL.nil ?_
          obtain ⟨ha, hc⟩ := h
          refine CW.cond (b := (decide ((Int.tmod (IntKind.u64.wrap x7) 7) = 4))) rfl (fun hb129 => ?_) (fun hb129 => ?_)
          · have h := ha hb129; clear ha hc
            refine CW.seq ?_
            refine CW.region ?_
            refine RL.opS trivial rfl (OpW.fieldAddr field_49_4 rfl ?_)
            obtain ⟨x130, h1, h⟩ := h
            refine RL.opS trivial rfl (OpW.load1 (v := .bool x130) one_4 rfl h1 ?_)
            refine RL.opS trivial rfl (OpW.assign (v := .bool x130) rfl ?_)
            refine RL.nil ?_
            refine CW.seq ?_
            refine CW.region ?_
            refine RL.opS trivial rfl (OpW.fieldAddr field_49_4 rfl ?_)
            obtain ⟨u_, h1, h2, h⟩ := h
            obtain ⟨w131, hw131_⟩ : ∃ w_, w_ = w6.setCell (Addr.add ⟨b1, 0, none⟩ 4) (.bool false) := ⟨_, rfl⟩
            have h := h w131 hw131_
            refine RL.opN trivial (OpW.store1E (v := .bool false) size_4 rfl rfl rfl h1 h2 hw131_ ?_)
            refine RL.nil ?_
            refine CW.seq ?_
            obtain ⟨X132, h⟩ := h
            obtain ⟨w133, hw133_⟩ : ∃ w_, w_ = w131.drew := ⟨_, rfl⟩
            have h := h w133 hw133_
            have hx134 : ExtX X132 w131 w133 := by rw [hw133_]; exact ExtX.of (Ext.drew _)
            refine CW.draws (m := 7) (listed := #[false, false, false, false, false, false, false]) mixed [0, 1, 2, 3, 4, 6] (ExtX X132 w131) rfl rfl ?_
            rw [← hw133_]
            obtain ⟨hne136, h⟩ := h
            obtain ⟨x135, h1, h2, h⟩ := h
            refine DL.takeK (listed' := #[true, false, false, false, false, false, false]) (v := aggv x135) 0 rfl rfl (by kernel_rfl) (by kernel_rfl) rfl trivial rfl hx134 (fun w_ hS_ K_ h_ => OpW.loadA agg_49 rfl h1 (hS_.at hne136 h2) h_) ?_
            refine DL.takeP (listed' := #[true, true, false, false, false, false, false]) (v := .pointer p0) 1 rfl rfl (by kernel_rfl) rfl trivial rfl (fun w_ K_ h_ => OpW.move (v := .pointer p0) rfl h_) ?_
            refine DL.takeP (listed' := #[true, true, false, true, false, false, false]) (v := .bool x130) 3 rfl rfl (by kernel_rfl) rfl trivial rfl (fun w_ K_ h_ => OpW.move (v := .bool x130) rfl h_) ?_
            refine DL.execS (listed' := #[true, true, true, true, false, false, false]) 2 rfl (by kernel_rfl) rfl trivial rfl (OpW.callR (al := [.pointer p0]) Try.func27 fb_27 fn_27 rfl h (fun x137 w138 h => ?_))
            obtain ⟨hxc_, h⟩ := h
            have hx139 := ExtX.trans hx134 hxc_
            refine ⟨(fun _ _ => hx139), ?_⟩
            refine DL.takeP (listed' := #[true, true, true, true, true, false, false]) (v := .bool (x137 == x130)) 4 rfl rfl (by kernel_rfl) rfl trivial rfl (fun w_ K_ h_ => OpW.boolCmp (b := x137 == x130) ub_4 rfl rfl rfl h_) ?_
            obtain ⟨g_, o_, e_, cur_, ha_, h1, h2, h3, h4, h⟩ := h
            obtain ⟨w140, hw140_⟩ : ∃ w_, w_ = w138.setRow g_ (cur_.toList.take o_ ++ x135 ++ cur_.toList.drop (o_ + List.length x135)).toArray := ⟨_, rfl⟩
            have h := h w140 hw140_
            refine DL.execN (listed' := #[true, true, true, true, true, true, false]) 5 rfl (by kernel_rfl) rfl trivial (OpW.storeAE (cs := x135) size_49 rfl rfl ha_ h1 h2 h3 h4 hw140_ ?_)
            refine ⟨(fun h_ => absurd h_ (by decide)), ?_⟩
            refine DL.takeP (listed' := #[true, true, true, true, true, true, true]) (v := .bool (x137 == x130)) 6 rfl rfl (by kernel_rfl) rfl trivial rfl (fun w_ K_ h_ => OpW.assign (v := .bool (x137 == x130)) rfl h_) ?_
            refine DL.done (by kernel_rfl) ?_
            refine CW.ret ?_
            obtain ⟨x141, hc1, hc2, h⟩ := h
            exact ret_intro (res2c rfl agg_49 rfl hc1 hc2 rfl) ⟨(x141, (x137 == x130)), rfl, h⟩
          · have h := hc hb129; clear ha hc
            refine CW.seq ?_
            refine CW.region ?_
            refine RL.opS trivial rfl (OpW.bin (k := .u64) (a := (Int.tmod (IntKind.u64.wrap x7) 7)) (b := 5) (v := .bool (decide ((Int.tmod (IntKind.u64.wrap x7) 7) = 5))) rfl rfl rfl ?_)
            refine RL.opS trivial rfl (OpW.assign (v := .bool (decide ((Int.tmod (IntKind.u64.wrap x7) 7) = 5))) rfl ?_)
            refine RL.nil ?_
            obtain ⟨ha, hc⟩ := h
            refine CW.cond (b := (decide ((Int.tmod (IntKind.u64.wrap x7) 7) = 5))) rfl (fun hb142 => ?_) (fun hb142 => ?_)
            · have h := ha hb142; clear ha hc
              refine CW.seq ?_
              refine CW.region ?_
              obtain ⟨b143, hb143_⟩ : ∃ b_, b_ = w6.heap.size := ⟨_, rfl⟩
              obtain ⟨w144, hw144_⟩ : ∃ w_, w_ = w6.alloc (.cells (List.toArray []) 27) := ⟨_, rfl⟩
              have h := h b143 w144 hb143_ hw144_
              refine RL.opS trivial rfl (OpW.buildSliceE (vs := []) (cs := []) (by rfl) (by kernel_rfl) hb143_ hw144_ ?_)
              refine RL.opS trivial rfl (OpW.fieldAddr field_65_6 rfl ?_)
              obtain ⟨x145, h1, h⟩ := h
              refine RL.opS trivial rfl (OpW.load1 (v := Sl.v x145) one_47 rfl h1 ?_)
              obtain ⟨x146, w147, hr_, h⟩ := h
              refine RL.opS trivial rfl (OpW.appendL (v := Sl.v x146) rfl hr_ ?_)
              refine RL.opS trivial rfl (OpW.assign (v := Sl.v x146) rfl ?_)
              refine RL.nil ?_
              refine CW.seq ?_
              refine CW.region ?_
              refine RL.opS trivial rfl (OpW.move (v := .pointer p0) rfl ?_)
              refine RL.opS trivial rfl (OpW.move (v := Sl.v x146) rfl ?_)
              refine RL.opS trivial rfl (OpW.callR (al := [.pointer p0, Sl.v x146]) Try.func37 fb_37 fn_37 rfl h (fun x148 w149 h => ?_))
              refine RL.nil ?_
              refine CW.seq ?_
              refine CW.seq ?_
              refine CW.region ?_
              refine RL.opS trivial rfl (OpW.move (v := Sl.v x146) rfl ?_)
              refine RL.opS trivial rfl (OpW.len (s := x146) slice_47 rfl ?_)
              refine RL.opS trivial rfl (OpW.move (v := .int .i64 0) rfl ?_)
              refine RL.nil ?_
              refine CW.block ?_
              obtain ⟨I171, mu172, hI, hs⟩ := h
              refine CW.loop (σ := Int) (fun s150 ρ => ρ 151 = .int .i64 s150 ∧ ρ 0 = .pointer p0 ∧ ρ 4 = .pointer (some ⟨b1, 0, none⟩) ∧ ρ 5 = .pointer (some ⟨b3, 0, none⟩) ∧ ρ 6 = .pointer (some ⟨b5, 0, none⟩) ∧ ρ 20 = Sl.v x146 ∧ ρ 150 = .int .i64 (x146.len : Int)) I171 mu172 0 ⟨rfl, rfl, rfl, rfl, rfl, rfl, rfl⟩ hI ?_
              rintro s150 ρ w151 ⟨e153, e154, e155, e156, e157, e158, e159⟩ hI
              have h := hs s150 w151 hI
              clear hs hI
              refine CW.seq ?_
              refine CW.region ?_
              refine RL.opS trivial rfl (OpW.bin (k := .i64) (a := s150) (b := (x146.len : Int)) (v := .bool (decide (s150 < (x146.len : Int)))) e153 e159 rfl ?_)
              refine RL.nil ?_
              refine CW.seq ?_
              obtain ⟨ha, hc⟩ := h
              refine CW.cond (b := (decide (s150 < (x146.len : Int)))) rfl (fun hb160 => ?_) (fun hb160 => ?_)
              · have h := ha hb160; clear ha hc
                refine CW.skip ?_
                refine CW.seq ?_
                refine CW.block ?_
                refine CW.seq ?_
                refine CW.region ?_
                refine RL.opS trivial rfl (OpW.move (v := .int .i64 s150) e153 ?_)
                refine RL.opS trivial rfl (OpW.assign (v := .int .i64 s150) rfl ?_)
                refine RL.nil ?_
                refine CW.region ?_
                refine RL.opS trivial rfl (OpW.move (v := Sl.v x146) e158 ?_)
                refine RL.opS trivial rfl (OpW.move (v := .int .i64 s150) rfl ?_)
                refine RL.opS trivial rfl (OpW.move (v := .pointer p0) e154 ?_)
                refine RL.opS trivial rfl (OpW.callR (al := [.pointer p0]) Try.func19 fb_19 fn_19 rfl h (fun x161 w162 h => ?_))
                refine RL.opS trivial rfl (OpW.buildL (vs := [(0, .int .i64 x161)]) (cs := [.int .i64 x161, Value.int .u64 0, Value.int .i64 0]) (by rfl) (fun _ => by kernel_rfl) ?_)
                obtain ⟨a163_, a163, h1, h2, h3, h4, h⟩ := h
                refine RL.opS trivial rfl (OpW.indexE (a' := a163) slice_47 rfl rfl h1 h2 h3 h4 ?_)
                obtain ⟨g_, o_, e_, cur_, ha_, h1, h2, h3, h4, h⟩ := h
                obtain ⟨w165, hw165_⟩ : ∃ w_, w_ = w162.setRow g_ (cur_.toList.take o_ ++ [.int .i64 x161, Value.int .u64 0, Value.int .i64 0] ++ cur_.toList.drop (o_ + List.length [.int .i64 x161, Value.int .u64 0, Value.int .i64 0])).toArray := ⟨_, rfl⟩
                have h := h w165 hw165_
                refine RL.opN trivial (OpW.storeAE (cs := [.int .i64 x161, Value.int .u64 0, Value.int .i64 0]) size_27 rfl rfl ha_ h1 h2 h3 h4 hw165_ ?_)
                refine RL.nil ?_
                refine CW.region ?_
                refine RL.opS trivial rfl (OpW.bin (k := .i64) (a := s150) (b := 1) (v := .int .i64 (IntKind.i64.wrap (s150 + 1))) e153 rfl rfl ?_)
                refine RL.opS trivial rfl (OpW.move (v := .int .i64 (IntKind.i64.wrap (s150 + 1))) rfl ?_)
                refine RL.nil ?_
                exact ⟨(IntKind.i64.wrap (s150 + 1)), ⟨rfl, e154, e155, e156, e157, e158, e159⟩, h⟩
              · have h := hc hb160; clear ha hc
                refine CW.exit ?_
                refine CW.seq ?_
                refine CW.region ?_
                refine RL.opS trivial rfl (OpW.fieldAddr field_65_6 e156 ?_)
                obtain ⟨x166, h1, h⟩ := h
                refine RL.opS trivial rfl (OpW.load1 (v := Sl.v x166) one_47 rfl h1 ?_)
                refine RL.opS trivial rfl (OpW.fieldAddr field_49_2 e155 ?_)
                obtain ⟨u_, h1, h2, h⟩ := h
                obtain ⟨w167, hw167_⟩ : ∃ w_, w_ = w151.setCell (Addr.add ⟨b1, 0, none⟩ 2) (Sl.v x166) := ⟨_, rfl⟩
                have h := h w167 hw167_
                refine RL.opN trivial (OpW.store1E (v := Sl.v x166) size_47 rfl rfl rfl h1 h2 hw167_ ?_)
                refine RL.nil ?_
                refine CW.seq ?_
                refine CW.region ?_
                obtain ⟨x168, h1, h2, h⟩ := h
                refine RL.opS trivial rfl (OpW.loadA agg_49 e155 h1 h2 ?_)
                obtain ⟨g_, o_, e_, cur_, ha_, h1, h2, h3, h4, h⟩ := h
                obtain ⟨w169, hw169_⟩ : ∃ w_, w_ = w167.setRow g_ (cur_.toList.take o_ ++ x168 ++ cur_.toList.drop (o_ + List.length x168)).toArray := ⟨_, rfl⟩
                have h := h w169 hw169_
                refine RL.opN trivial (OpW.storeAE (cs := x168) size_49 e157 rfl ha_ h1 h2 h3 h4 hw169_ ?_)
                refine RL.opS trivial rfl (OpW.assign (v := .bool true) rfl ?_)
                refine RL.nil ?_
                refine CW.ret ?_
                obtain ⟨x170, hc1, hc2, h⟩ := h
                exact ret_intro (res2c rfl agg_49 e157 hc1 hc2 rfl) ⟨(x170, true), rfl, h⟩
            · have h := hc hb142; clear ha hc
              refine CW.skip ?_
              refine CW.seq ?_
              refine CW.region ?_
              refine RL.opS trivial rfl (OpW.move (v := .pointer p0) rfl ?_)
              refine RL.opS trivial rfl (OpW.callR (al := [.pointer p0]) Try.func36 fb_36 fn_36 rfl h (fun x173 w174 h => ?_))
              refine RL.opS trivial rfl (OpW.assign (v := .pointer x173) rfl ?_)
              refine RL.nil ?_
              refine CW.seq ?_
              obtain ⟨w175, hw175_⟩ : ∃ w_, w_ = w174.drew := ⟨_, rfl⟩
              have h := h w175 hw175_
              have hx176 : Ext w174 w175 := by rw [hw175_]; exact Ext.drew _
              refine CW.draws (m := 8) (listed := #[false, false, false, false, false, false, false, false]) mixed [0, 1, 2, 3, 4, 5, 7] (Ext w174) rfl rfl ?_
              rw [← hw175_]
              refine DL.takeP (listed' := #[true, false, false, false, false, false, false, false]) (v := .pointer x173) 0 rfl rfl (by kernel_rfl) rfl trivial rfl (fun w_ K_ h_ => OpW.move (v := .pointer x173) rfl h_) ?_
              refine DL.takeP (listed' := #[true, true, false, false, false, false, false, false]) (v := .pointer (some (Addr.add ⟨b3, 0, none⟩ 1))) 1 rfl rfl (by kernel_rfl) rfl trivial rfl (fun w_ K_ h_ => OpW.fieldAddr field_65_1 rfl h_) ?_
              obtain ⟨x177, h1, h⟩ := h
              refine DL.takeK (listed' := #[true, true, true, false, false, false, false, false]) (v := .int .i64 x177) 2 rfl rfl (by kernel_rfl) (by kernel_rfl) rfl trivial rfl hx176 (fun w_ hS_ K_ h_ => OpW.load1 (v := .int .i64 x177) one_3 rfl (hS_.cell h1) h_) ?_
              refine DL.takeP (listed' := #[true, true, true, true, false, false, false, false]) (v := .pointer (some (Addr.add ⟨b3, 0, none⟩ 2))) 3 rfl rfl (by kernel_rfl) rfl trivial rfl (fun w_ K_ h_ => OpW.fieldAddr field_65_2 rfl h_) ?_
              obtain ⟨x178, h1, h⟩ := h
              refine DL.takeK (listed' := #[true, true, true, true, true, false, false, false]) (v := .int .u8 x178) 4 rfl rfl (by kernel_rfl) (by kernel_rfl) rfl trivial rfl hx176 (fun w_ hS_ K_ h_ => OpW.load1 (v := .int .u8 x178) one_5 rfl (hS_.cell h1) h_) ?_
              refine DL.execS (listed' := #[true, true, true, true, true, true, false, false]) 5 rfl (by kernel_rfl) rfl trivial rfl (OpW.callR (al := [.int .u8 x178, str [99, 108, 111, 110, 101]]) Try.func32 fb_32 fn_32 rfl h (fun x179 w180 h => ?_))
              obtain ⟨hx181, h⟩ := h
              refine ⟨(fun _ _ => hx181), ?_⟩
              refine DL.execS (listed' := #[true, true, true, true, true, true, true, false]) 6 rfl (by kernel_rfl) rfl trivial rfl (OpW.callR (al := [.pointer x173, .int .i64 x177, Sl.v x179]) Try.func33 fb_33 fn_33 rfl h (fun x182 w183 h => ?_))
              refine ⟨(fun h_ => absurd h_ (by decide)), ?_⟩
              refine DL.takeP (listed' := #[true, true, true, true, true, true, true, true]) (v := .int .i64 x182) 7 rfl rfl (by kernel_rfl) rfl trivial rfl (fun w_ K_ h_ => OpW.assign (v := .int .i64 x182) rfl h_) ?_
              refine DL.done (by kernel_rfl) ?_
              refine CW.seq ?_
              refine CW.region ?_
              refine RL.opS trivial rfl (OpW.move (v := .pointer x173) rfl ?_)
              refine RL.opS trivial rfl (OpW.callR (al := [.pointer x173]) Try.func34 fb_34 fn_34 rfl h (fun x184 w185 h => ?_))
              refine RL.opS trivial rfl (OpW.assign (v := .int .i64 x184) rfl ?_)
              refine RL.nil ?_
              refine CW.seq ?_
              obtain ⟨w186, hw186_⟩ : ∃ w_, w_ = w185.drew := ⟨_, rfl⟩
              have h := h w186 hw186_
              have hx187 : ExtB (some (Addr.block ⟨b5, 0, none⟩)) w185 w186 := by rw [hw186_]; exact ExtB.of (Ext.drew _)
              refine CW.draws (m := 24) (listed := #[false, false, false, false, false, false, false, false, false, false, false, false, false, false, false, false, false, false, false, false, false, false, false, false]) mixed [0, 1, 2, 3, 4, 5, 6, 7, 8, 9, 10, 11, 12, 13, 14, 15, 16, 17, 18, 19, 20, 21, 22, 23] (ExtB (some (Addr.block ⟨b5, 0, none⟩)) w185) rfl rfl ?_
              rw [← hw186_]
              obtain ⟨hne189, h⟩ := h
              obtain ⟨x188, h1, h2, h⟩ := h
              refine DL.takeK (listed' := #[true, false, false, false, false, false, false, false, false, false, false, false, false, false, false, false, false, false, false, false, false, false, false, false]) (v := aggv x188) 0 rfl rfl (by kernel_rfl) (by kernel_rfl) rfl trivial rfl hx187 (fun w_ hS_ K_ h_ => OpW.loadA agg_49 rfl h1 (hS_.at hne189 h2) h_) ?_
              refine DL.takeP (listed' := #[true, true, false, false, false, false, false, false, false, false, false, false, false, false, false, false, false, false, false, false, false, false, false, false]) (v := .int .i64 x182) 1 rfl rfl (by kernel_rfl) rfl trivial rfl (fun w_ K_ h_ => OpW.move (v := .int .i64 x182) rfl h_) ?_
              obtain ⟨hne191, h⟩ := h
              obtain ⟨x190, h1, h2, h⟩ := h
              refine DL.takeK (listed' := #[true, true, true, false, false, false, false, false, false, false, false, false, false, false, false, false, false, false, false, false, false, false, false, false]) (v := aggv x190) 2 rfl rfl (by kernel_rfl) (by kernel_rfl) rfl trivial rfl hx187 (fun w_ hS_ K_ h_ => OpW.loadA agg_49 rfl h1 (hS_.at hne191 h2) h_) ?_
              refine DL.takeP (listed' := #[true, true, true, true, false, false, false, false, false, false, false, false, false, false, false, false, false, false, false, false, false, false, false, false]) (v := .pointer (some (Addr.add ⟨b3, 0, none⟩ 1))) 3 rfl rfl (by kernel_rfl) rfl trivial rfl (fun w_ K_ h_ => OpW.fieldAddr field_65_1 rfl h_) ?_
              obtain ⟨hne193, h⟩ := h
              obtain ⟨x192, h1, h⟩ := h
              refine DL.takeK (listed' := #[true, true, true, true, true, false, false, false, false, false, false, false, false, false, false, false, false, false, false, false, false, false, false, false]) (v := .int .i64 x192) 4 rfl rfl (by kernel_rfl) (by kernel_rfl) rfl trivial rfl hx187 (fun w_ hS_ K_ h_ => OpW.load1 (v := .int .i64 x192) one_3 rfl (hS_.cell hne193 h1) h_) ?_
              refine DL.execS (listed' := #[true, true, true, true, true, true, false, false, false, false, false, false, false, false, false, false, false, false, false, false, false, false, false, false]) 5 rfl (by kernel_rfl) rfl trivial rfl (OpW.callR (al := [aggv x190, .int .i64 x192]) Try.func66 fb_66 fn_66 rfl h (fun x194 w195 h => ?_))
              obtain ⟨hxc_, h⟩ := h
              have hx196 := ExtB.trans_ext hx187 hxc_
              refine ⟨(fun _ _ => hx196), ?_⟩
              refine DL.takeP (listed' := #[true, true, true, true, true, true, true, false, false, false, false, false, false, false, false, false, false, false, false, false, false, false, false, false]) (v := .bool (decide (x182 = x194))) 6 rfl rfl (by kernel_rfl) rfl trivial rfl (fun w_ K_ h_ => OpW.bin (k := .i64) (a := x182) (b := x194) (v := .bool (decide (x182 = x194))) rfl rfl rfl h_) ?_
              refine DL.takeP (listed' := #[true, true, true, true, true, true, true, true, false, false, false, false, false, false, false, false, false, false, false, false, false, false, false, false]) (v := .bool (decide (x182 = x194))) 7 rfl rfl (by kernel_rfl) rfl trivial rfl (fun w_ K_ h_ => OpW.move (v := .bool (decide (x182 = x194))) rfl h_) ?_
              refine jn_elim h ?_; clear h; intro k227 hk228 h
              refine DL.cutS (A := Bool) (fun s201 ρ => ρ 190 = .bool s201 ∧ ρ 4 = .pointer (some ⟨b1, 0, none⟩) ∧ ρ 6 = .pointer (some ⟨b5, 0, none⟩) ∧ ρ 22 = .pointer x173 ∧ ρ 176 = aggv x188) k227 9 #[true, true, true, true, true, true, true, true, true, true, true, true, true, true, true, false, false, false, false, false, false, false, false, false] ?_ ?_
              · rintro s201 ρ w202 ⟨e204, e205, e206, e207, e208⟩ hx203 h
                subst hk228
                refine DL.takeP (listed' := #[true, true, true, true, true, true, true, true, true, true, true, true, true, true, true, true, false, false, false, false, false, false, false, false]) (v := .bool s201) 15 rfl rfl (by kernel_rfl) rfl trivial rfl (fun w_ K_ h_ => OpW.move (v := .bool s201) e204 h_) ?_
                refine jn_elim h ?_; clear h; intro k225 hk226 h
                refine DL.cutS (A := Bool) (fun s216 ρ => ρ 197 = .bool s216 ∧ ρ 6 = .pointer (some ⟨b5, 0, none⟩) ∧ ρ 176 = aggv x188) k225 2 #[true, true, true, true, true, true, true, true, true, true, true, true, true, true, true, true, true, true, true, true, true, true, false, false] ?_ ?_
                · rintro s216 ρ w217 ⟨e219, e220, e221⟩ hx218 h
                  subst hk226
                  obtain ⟨g_, o_, e_, cur_, ha_, h1, h2, h3, h4, h⟩ := h
                  obtain ⟨w222, hw222_⟩ : ∃ w_, w_ = w217.setRow g_ (cur_.toList.take o_ ++ x188 ++ cur_.toList.drop (o_ + List.length x188)).toArray := ⟨_, rfl⟩
                  have h := h w222 hw222_
                  refine DL.execN (listed' := #[true, true, true, true, true, true, true, true, true, true, true, true, true, true, true, true, true, true, true, true, true, true, true, false]) 22 rfl (by kernel_rfl) rfl trivial (OpW.storeAE (cs := x188) size_49 e220 e221 ha_ h1 h2 h3 h4 hw222_ ?_)
                  have hx223 : ExtB (some (Addr.block ⟨b5, 0, none⟩)) w185 w222 := by
                    rw [hw222_]
                    refine ExtB.setRow hx218 ?_
                    have hbk_ := congrArg Addr.block ha_; simp only [add_block] at hbk_; simp_all
                  refine ⟨(fun _ _ => hx223), ?_⟩
                  refine DL.takeP (listed' := #[true, true, true, true, true, true, true, true, true, true, true, true, true, true, true, true, true, true, true, true, true, true, true, true]) (v := .bool s216) 23 rfl rfl (by kernel_rfl) rfl trivial rfl (fun w_ K_ h_ => OpW.assign (v := .bool s216) e219 h_) ?_
                  refine DL.done (by kernel_rfl) ?_
                  refine CW.ret ?_
                  obtain ⟨x224, hc1, hc2, h⟩ := h
                  exact ret_intro (res2c rfl agg_49 e220 hc1 hc2 rfl) ⟨(x224, s216), rfl, h⟩
                · intro hJJ209; clear hk226
                  obtain ⟨ha, hc⟩ := h
                  rcases Bool.eq_false_or_eq_true s201 with hb210 | hb210
                  · have h := ha hb210; clear ha hc
                    refine DL.takeP (listed' := #[true, true, true, true, true, true, true, true, true, true, true, true, true, true, true, true, true, false, false, false, false, false, false, false]) (v := .pointer x173) 16 rfl rfl (by kernel_rfl) rfl (wanted_of rfl rfl hb210) rfl (fun w_ K_ h_ => OpW.move (v := .pointer x173) e207 h_) ?_
                    refine DL.takeP (listed' := #[true, true, true, true, true, true, true, true, true, true, true, true, true, true, true, true, true, false, true, false, false, false, false, false]) (v := .pointer (some (Addr.add ⟨b1, 0, none⟩ 4))) 18 rfl rfl (by kernel_rfl) rfl (wanted_of rfl rfl hb210) rfl (fun w_ K_ h_ => OpW.fieldAddr field_49_4 e205 h_) ?_
                    obtain ⟨hne212, h⟩ := h
                    obtain ⟨x211, h1, h⟩ := h
                    refine DL.takeK (listed' := #[true, true, true, true, true, true, true, true, true, true, true, true, true, true, true, true, true, false, true, true, false, false, false, false]) (v := .bool x211) 19 rfl rfl (by kernel_rfl) (by kernel_rfl) rfl (wanted_of rfl rfl hb210) rfl hx203 (fun w_ hS_ K_ h_ => OpW.load1 (v := .bool x211) one_4 rfl (hS_.cell hne212 h1) h_) ?_
                    refine DL.execS (listed' := #[true, true, true, true, true, true, true, true, true, true, true, true, true, true, true, true, true, true, true, true, false, false, false, false]) 17 rfl (by kernel_rfl) rfl (wanted_of rfl rfl hb210) rfl (OpW.callR (al := [.pointer x173]) Try.func38 fb_38 fn_38 rfl h (fun x213 w214 h => ?_))
                    obtain ⟨hxc_, h⟩ := h
                    have hx215 := ExtB.trans_ext hx203 hxc_
                    refine ⟨(fun _ _ => hx215), ?_⟩
                    refine DL.takeP (listed' := #[true, true, true, true, true, true, true, true, true, true, true, true, true, true, true, true, true, true, true, true, true, false, false, false]) (v := .bool (x213 == x211)) 20 rfl rfl (by kernel_rfl) rfl (wanted_of rfl rfl hb210) rfl (fun w_ K_ h_ => OpW.boolCmp (b := x213 == x211) ub_4 rfl rfl rfl h_) ?_
                    refine DL.takeP (listed' := #[true, true, true, true, true, true, true, true, true, true, true, true, true, true, true, true, true, true, true, true, true, true, false, false]) (v := .bool (x213 == x211)) 21 rfl rfl (by kernel_rfl) rfl trivial rfl (fun w_ K_ h_ => OpW.pick (b := true) (v := .bool (x213 == x211)) (congrArg Value.bool hb210) rfl h_) ?_
                    exact hJJ209 _ _ ⟨(x213 == x211), ⟨rfl, e206, e208⟩, hx215, h⟩
                  · have h := hc hb210; clear ha hc
                    refine DL.skipP (listed' := #[true, true, true, true, true, true, true, true, true, true, true, true, true, true, true, true, true, false, false, false, false, false, false, false]) 16 rfl (by kernel_rfl) rfl (notWanted_of rfl rfl hb210) rfl ?_
                    refine DL.skipP (listed' := #[true, true, true, true, true, true, true, true, true, true, true, true, true, true, true, true, true, false, true, false, false, false, false, false]) 18 rfl (by kernel_rfl) rfl (notWanted_of rfl rfl hb210) rfl ?_
                    refine DL.skipP (listed' := #[true, true, true, true, true, true, true, true, true, true, true, true, true, true, true, true, true, false, true, true, false, false, false, false]) 19 rfl (by kernel_rfl) rfl (notWanted_of rfl rfl hb210) rfl ?_
                    refine DL.skipX (listed' := #[true, true, true, true, true, true, true, true, true, true, true, true, true, true, true, true, true, true, true, true, false, false, false, false]) 17 rfl (by kernel_rfl) rfl (notWanted_of rfl rfl hb210) rfl ?_
                    refine DL.skipP (listed' := #[true, true, true, true, true, true, true, true, true, true, true, true, true, true, true, true, true, true, true, true, true, false, false, false]) 20 rfl (by kernel_rfl) rfl (notWanted_of rfl rfl hb210) rfl ?_
                    refine DL.takeP (listed' := #[true, true, true, true, true, true, true, true, true, true, true, true, true, true, true, true, true, true, true, true, true, true, false, false]) (v := .bool false) 21 rfl rfl (by kernel_rfl) rfl trivial rfl (fun w_ K_ h_ => OpW.pick (b := false) (v := .bool false) (congrArg Value.bool hb210) rfl h_) ?_
                    exact hJJ209 _ _ ⟨false, ⟨rfl, e206, e208⟩, hx203, h⟩
              · intro hJJ197; clear hk228
                obtain ⟨ha, hc⟩ := h
                rcases Bool.eq_false_or_eq_true (decide (x182 = x194)) with hb198 | hb198
                · have h := ha hb198; clear ha hc
                  refine DL.takeP (listed' := #[true, true, true, true, true, true, true, true, true, false, false, false, false, false, false, false, false, false, false, false, false, false, false, false]) (v := .int .i64 x184) 8 rfl rfl (by kernel_rfl) rfl (wanted_of rfl rfl hb198) rfl (fun w_ K_ h_ => OpW.move (v := .int .i64 x184) rfl h_) ?_
                  refine DL.takeP (listed' := #[true, true, true, true, true, true, true, true, true, true, false, false, false, false, false, false, false, false, false, false, false, false, false, false]) (v := .bool (decide (x184 = 0))) 9 rfl rfl (by kernel_rfl) rfl (wanted_of rfl rfl hb198) rfl (fun w_ K_ h_ => OpW.bin (k := .i64) (a := x184) (b := 0) (v := .bool (decide (x184 = 0))) rfl rfl rfl h_) ?_
                  refine DL.takeP (listed' := #[true, true, true, true, true, true, true, true, true, true, true, false, false, false, false, false, false, false, false, false, false, false, false, false]) (v := .pointer (some (Addr.add ⟨b1, 0, none⟩ 4))) 10 rfl rfl (by kernel_rfl) rfl (wanted_of rfl rfl hb198) rfl (fun w_ K_ h_ => OpW.fieldAddr field_49_4 rfl h_) ?_
                  obtain ⟨hne200, h⟩ := h
                  obtain ⟨x199, h1, h⟩ := h
                  refine DL.takeK (listed' := #[true, true, true, true, true, true, true, true, true, true, true, true, false, false, false, false, false, false, false, false, false, false, false, false]) (v := .bool x199) 11 rfl rfl (by kernel_rfl) (by kernel_rfl) rfl (wanted_of rfl rfl hb198) rfl hx196 (fun w_ hS_ K_ h_ => OpW.load1 (v := .bool x199) one_4 rfl (hS_.cell hne200 h1) h_) ?_
                  refine DL.takeP (listed' := #[true, true, true, true, true, true, true, true, true, true, true, true, true, false, false, false, false, false, false, false, false, false, false, false]) (v := .bool (!x199)) 12 rfl rfl (by kernel_rfl) rfl (wanted_of rfl rfl hb198) rfl (fun w_ K_ h_ => OpW.not rfl h_) ?_
                  refine DL.takeP (listed' := #[true, true, true, true, true, true, true, true, true, true, true, true, true, true, false, false, false, false, false, false, false, false, false, false]) (v := .bool ((decide (x184 = 0)) == (!x199))) 13 rfl rfl (by kernel_rfl) rfl (wanted_of rfl rfl hb198) rfl (fun w_ K_ h_ => OpW.boolCmp (b := (decide (x184 = 0)) == (!x199)) ub_4 rfl rfl rfl h_) ?_
                  refine DL.takeP (listed' := #[true, true, true, true, true, true, true, true, true, true, true, true, true, true, true, false, false, false, false, false, false, false, false, false]) (v := .bool ((decide (x184 = 0)) == (!x199))) 14 rfl rfl (by kernel_rfl) rfl trivial rfl (fun w_ K_ h_ => OpW.pick (b := true) (v := .bool ((decide (x184 = 0)) == (!x199))) (congrArg Value.bool hb198) rfl h_) ?_
                  exact hJJ197 _ _ ⟨((decide (x184 = 0)) == (!x199)), ⟨rfl, rfl, rfl, rfl, rfl⟩, hx196, h⟩
                · have h := hc hb198; clear ha hc
                  refine DL.skipP (listed' := #[true, true, true, true, true, true, true, true, true, false, false, false, false, false, false, false, false, false, false, false, false, false, false, false]) 8 rfl (by kernel_rfl) rfl (notWanted_of rfl rfl hb198) rfl ?_
                  refine DL.skipP (listed' := #[true, true, true, true, true, true, true, true, true, true, false, false, false, false, false, false, false, false, false, false, false, false, false, false]) 9 rfl (by kernel_rfl) rfl (notWanted_of rfl rfl hb198) rfl ?_
                  refine DL.skipP (listed' := #[true, true, true, true, true, true, true, true, true, true, true, false, false, false, false, false, false, false, false, false, false, false, false, false]) 10 rfl (by kernel_rfl) rfl (notWanted_of rfl rfl hb198) rfl ?_
                  refine DL.skipP (listed' := #[true, true, true, true, true, true, true, true, true, true, true, true, false, false, false, false, false, false, false, false, false, false, false, false]) 11 rfl (by kernel_rfl) rfl (notWanted_of rfl rfl hb198) rfl ?_
                  refine DL.skipP (listed' := #[true, true, true, true, true, true, true, true, true, true, true, true, true, false, false, false, false, false, false, false, false, false, false, false]) 12 rfl (by kernel_rfl) rfl (notWanted_of rfl rfl hb198) rfl ?_
                  refine DL.skipP (listed' := #[true, true, true, true, true, true, true, true, true, true, true, true, true, true, false, false, false, false, false, false, false, false, false, false]) 13 rfl (by kernel_rfl) rfl (notWanted_of rfl rfl hb198) rfl ?_
                  refine DL.takeP (listed' := #[true, true, true, true, true, true, true, true, true, true, true, true, true, true, true, false, false, false, false, false, false, false, false, false]) (v := .bool false) 14 rfl rfl (by kernel_rfl) rfl trivial rfl (fun w_ K_ h_ => OpW.pick (b := false) (v := .bool false) (congrArg Value.bool hb198) rfl h_) ?_
                  exact hJJ197 _ _ ⟨false, ⟨rfl, rfl, rfl, rfl, rfl⟩, hx196, h⟩
end Go.Proofs.Ytagkcbbbdlmcjaa
end
section
/- One thing done to a disk and to the document's: they answer the same. (under way) -/
set_option linter.unusedVariables false
set_option linter.unusedSimpArgs false
namespace Go.Proofs.Ytagkcbbbdlmcjaa
open Go.Lift Go.Lift.Disk Go.RowKit
variable {B : Nat → Prop}
theorem Fr.later {X : Nat → Prop} {g : Nat} {w w' w'' : World} (h : Fr X w w') (k : Fr (· = g) w' w'') (hg : w.heap.size ≤ g) : Fr X w w'' :=
  ⟨k.os.trans h.os, k.tape.trans h.tape, k.output.trans h.output, Nat.le_trans h.size k.size, fun i hi hx => (k.block i (Nat.lt_of_lt_of_le hi h.size) (fun e => by have e : i = g := e; omega)).trans (h.block i hi hx)⟩
theorem plan_rat {w : World} {ss sp sf : Sl} {D : Dk} (h : RX w B ss sp sf D) {s : Sl} {l : List Fall} (hs : FallsAt w s l) (hf : Far B s) : RX w B ss sp s (Dk.plan D l) := ⟨h.sure, h.pend, hs, h.f1, h.f2, hf⟩
theorem play_plan {n k : Nat} {D : Dk} (h : Play n k D) (l : List Fall) : Play n k (Dk.plan D l) := ⟨h.len, h.ch, h.pend, h.now⟩
theorem play_up {n k : Nat} {D : Dk} (h : Play n k D) : Play n k D.up := ⟨h.len, h.ch, h.pend, h.now⟩
theorem atO_lt {w : World} {a : Addr} {v : Value} {l : List Value} (h : AtO w (some a) (v :: l)) : a.block < w.heap.size := by
  have := h 0 v rfl
  have e : (a.add 0).block = a.block := add_block a 0
  rw [← e]
  exact World.block_lt_of_cell? w _ this
theorem Far.mono {B B' : Nat → Prop} {w : World} {s : Sl} {cs : List Value} (h : Far B s) (hc : AtO w s.a cs) (hl : s.len ≠ 0 → cs ≠ []) (hm : ∀ k, k < w.heap.size → B k → B' k) : Far B' s := by
  intro h0 a ha
  refine hm _ ?_ (h h0 a ha)
  rw [ha] at hc
  obtain ⟨v, l, e⟩ := List.exists_cons_of_ne_nil (hl h0)
  rw [e] at hc
  exact atO_lt hc
theorem RAt.mono {w : World} {B B' : Nat → Prop} {cs : List Value} {D : Dk} (h : RAt w B cs D) (hm : ∀ k, k < w.heap.size → B k → B' k) : RAt w B' cs D := by
  obtain ⟨ss, sp, sf, h1, h2⟩ := h
  refine ⟨ss, sp, sf, h1, h2.sure, h2.pend, h2.falls, h2.f1.mono h2.sure.cells ?_ hm, h2.f2.mono h2.pend.cells ?_ hm, h2.f3.mono h2.falls.cells ?_ hm⟩
  · intro h0 e
    have h3 := congrArg List.length e
    have h4 := h2.sure.len
    simp only [List.length_map, List.length_nil] at h3 h4
    omega
  · intro h0 e
    have h3 := congrArg List.length e
    have h4 := h2.pend.len
    rw [flatMap_len pairC (n := 2) (fun _ => rfl)] at h3
    simp only [List.length_nil] at h3
    omega
  · intro h0 e
    have h3 := congrArg List.length e
    have h4 := h2.falls.len
    rw [fallC_len] at h3
    simp only [List.length_nil] at h3
    omega
theorem bare_write (D : Dk) (i : Int) (b : List UInt8) (hb : b.length = 512) : ((Dk.bare D).write i b).2 = D.why i ∧ ((Dk.bare D).write i b).1.falls = [] ∧ ((Dk.bare D).write i b).1.down = D.down ∧ ((Dk.bare D).write i b).1.changes ≤ D.changes + 1 := by
  have hw : (Dk.bare D).why i = D.why i := rfl
  unfold Dk.write
  rw [hw]
  by_cases h : D.why i ≠ 0
  · rw [if_pos h]; exact ⟨rfl, rfl, rfl, Nat.le_succ _⟩
  · rw [if_neg h, if_neg (by omega)]
    have hs : ((Dk.bare D).put i.toNat b).falls.find? (fun f => f.1 == (((Dk.bare D).put i.toNat b).changes : Int)) = none := rfl
    rw [strike_none hs]
    exact ⟨by simp only [ne_eq, Decidable.not_not] at h; exact h.symm, rfl, rfl, Nat.le_refl _⟩
theorem bare_flush {D : Dk} (h : D.falls = []) : D.flush.2 = (if D.down then 6 else 0) ∧ D.flush.1.down = D.down := by
  unfold Dk.flush
  have hs : D.falls.find? (fun f => f.1 == (D.changes : Int)) = none := by rw [h]; rfl
  cases hd : D.down with
  | true => simp [hd]
  | false =>
    rw [strike_none hs]
    simp only [Bool.false_eq_true, if_false, ne_eq, not_true]
    exact ⟨trivial, hd⟩
theorem play_ok {w : World} {base : Nat → Prop} {pd bb n k : Nat} {D : Dk} (h : DAt w base pd bb D) (hbase : ∀ k, w.heap.size ≤ k → base k) (hB : ∀ k, B k → ¬ Foot pd bb k) (hBn : ∀ k, w.heap.size ≤ k → B k)
    (cs : List Value) (hA : RAt w B cs D) (hP : Play n k D) (hk : k < 1000) (o : OpA) (ho : o.Ok w) (hfl : o.falls.length ≤ 20) (hfo : Far B o.fs) :
    Calls Try.prog 40 #[.pointer (dp pd), aggv cs, aggv o.cells] w (Ret r40 fun x w' => x.2 = true ∧ ∃ D', DAt w' base pd bb D' ∧ RAt w' B x.1 D' ∧ Play n (k + 1) D' ∧ Fr (Foot pd bb) w w') := by
  have hwf := h.wf
  obtain ⟨hpd, hbb, hpdl, hbbl⟩ := h.lt
  obtain ⟨ss, sp, sf, hcs, hRX⟩ := id hA
  apply s40_calls
  intro b1 w2 hb1 hw2
  have hx2 : Ext w w2 := Ext.new hw2
  intro b3 w4 hb3 hw4
  have hx4 : Ext w2 w4 := Ext.new hw4
  intro b5 w6 hb5 hw6
  have hx6 : Ext w4 w6 := Ext.new hw6
  have hxw := (hx2.trans hx4).trans hx6
  have hB1 : Blk w6 b1 49 cs := ((Blk.new hb1 hw2).ext hx4).ext hx6
  have hB3 : Blk w6 b3 65 o.cells := (Blk.new hb3 hw4).ext hx6
  have hB5 : Blk w6 b5 49 (rc nilSl nilSl nilSl 0 false) := Blk.new hb5 hw6
  have hwb1 : w.heap.size ≤ b1 := by rw [hb1]; exact Nat.le_refl _
  have h13 : b1 < b3 := by rw [hb3]; exact (Blk.new hb1 hw2).lt
  have h35 : b3 < b5 := by rw [hb5]; exact (Blk.new hb3 hw4).lt
  have h5l : b5 < w6.heap.size := hB5.lt
  have hnf : ∀ {g : Nat}, w.heap.size ≤ g → ¬ Foot pd bb g := fun hg => by rintro (e | e) <;> omega
  have h6 : DAt w6 (fun k => base k ∧ k ≠ b1 ∧ k ≠ b5) pd bb D := (h.mono (base' := fun k => base k ∧ k ≠ b1 ∧ k ≠ b5) fun k hk hu => ⟨hu, by omega, by omega⟩).ext hxw
  have hA6 := hA.ext hxw
  have hb6 : ∀ {w' : World}, w6.heap.size ≤ w'.heap.size → ∀ k, w'.heap.size ≤ k → (base k ∧ k ≠ b1 ∧ k ≠ b5) := fun hs k hk => ⟨hbase k (Nat.le_trans hxw.size (Nat.le_trans hs hk)), by omega, by omega⟩
  have hBn6 : ∀ {w' : World}, w6.heap.size ≤ w'.heap.size → ∀ k, w'.heap.size ≤ k → B k := fun hs k hk => hBn k (Nat.le_trans hxw.size (Nat.le_trans hs hk))
  have hch : D.changes < 1000000000 := by have := hP.ch; omega
  have hpn : D.pend.length < 1000000 := by have := hP.pend; omega
  -- the answer
  have fin : ∀ (w' : World) (cs' : List Value) (D' : Dk) (b : Bool), b = true → DAt w' (fun k => base k ∧ k ≠ b1 ∧ k ≠ b5) pd bb D' → RAt w' B cs' D' → Play n (k + 1) D' → Fr (Foot pd bb) w w' → Blk w' b5 49 (rc nilSl nilSl nilSl 0 false) →
      stA 5 ⟨b5, 0, none⟩ cs' w' fun w'' => ldA 5 ⟨b5, 0, none⟩ w'' fun x => b = true ∧ ∃ D', DAt w'' base pd bb D' ∧ RAt w'' B x D' ∧ Play n (k + 1) D' ∧ Fr (Foot pd bb) w w'' := by
    intro w' cs' D' b hb hD' hA' hP' hf' hB'
    refine put_ans hA' hB' fun w'' hA'' hB'' hf'' => ?_
    exact ⟨cs', hA''.len, hB''.at (by rw [List.drop_zero, List.take_length]), hb, D', (hD'.fr hf'' fun k hk e => hk.2.2 e).mono (fun k _ hu => hu.1), hA'', hP', Fr.later hf' hf'' (by omega)⟩
  have hFx : Fr (Foot pd bb) w w6 := Fr.of hxw
  refine ⟨o.kind, by rw [add_plain]; exact hB3.cell rfl, ?_⟩
  refine ⟨fun h0 => ?_, fun _ => ⟨fun h1 => ?_, fun _ => ⟨fun h2 => ?_, fun _ => ⟨fun h3 => ?_, fun _ => ⟨fun h4 => ?_, fun _ => ⟨fun h5 => ?_, fun _ => ?_⟩⟩⟩⟩⟩⟩
  · -- Write
    refine ⟨(o.c.toNat : Int), by rw [add_plain]; exact hB3.cell rfl, o.s, by rw [add_plain]; exact hB3.cell rfl, ?_⟩
    refine cR_of (fill_ok w6 o.c o.s) ?_
    rintro x11 w12 ⟨ho11, hx12⟩
    obtain ⟨bs, hbs⟩ : ∃ bs, bs = fillOf o.c o.s ++ (if o.long then [0] else []) := ⟨_, rfl⟩
    have hbl : 512 ≤ bs.length ∧ bs.length ≤ 513 := by
      rw [hbs, List.length_append, fillOf_len]
      cases o.long <;> simp
    refine jn_of fun k13 hk13 => ?_
    have key : ∀ (s20 : Sl) (w21 : World), Own w21 w6.heap.size 5 1 s20 (u8s bs) → Ext w6 w21 → k13 s20 w21 := by
      intro s20 w21 ho20 hx21
      rw [hk13]
      have hl20 := ho20.length
      rw [u8s_length] at hl20
      obtain ⟨g, rest, hga, hgb, hgB, _⟩ := ho20.blk (by omega)
      have hgl := hgB.lt
      have h21 : DAt w21 (fun k => (base k ∧ k ≠ b1 ∧ k ≠ b5) ∧ k ≠ g) pd bb D := (h6.mono (base' := fun k => (base k ∧ k ≠ b1 ∧ k ≠ b5) ∧ k ≠ g) fun k hk hu => ⟨hu, by omega⟩).ext hx21
      have hB3' := hB3.ext hx21
      refine ⟨o.at_, by rw [add_plain]; exact hB3'.cell rfl, ?_⟩
      refine cR_of (write_ok h21 hch hpn (fun k hk => ⟨hb6 hx21.size k hk, by omega⟩) o.at_ s20 bs ho20.bytes) ?_
      rintro x28 w29 ⟨rfl, h29, hf29⟩
      have hf6 : Fr (Foot pd bb) w6 w29 := (Fr.of hx21).trans hf29
      have hB1' := hB1.fr hf6 (hnf hwb1)
      have hB3'' := hB3.fr hf6 (hnf (by omega))
      have hgB29 := hgB.fr hf29 (hnf (Nat.le_trans hxw.size hgb))
      have hgl29 := hgB29.lt
      have ho29 : Bytes w29 s20 bs := hf29.bytes (fun b hb => by rw [hga] at hb; cases hb; exact hnf (Nat.le_trans hxw.size hgb)) ho20.bytes
      refine ⟨cs, hA.len, hB1'.at (by rw [List.drop_zero, List.take_length]), o.at_, by rw [add_plain]; exact hB3''.cell rfl, bs, ho29.1, ho29.2, ?_⟩
      have hA29 : RAt w29 (fun k => B k ∧ k ≠ g) cs D := (hA6.mono (B' := fun k => B k ∧ k ≠ g) fun k hk hb => ⟨hb, by omega⟩).foot hf6 fun k hk => hB k hk.1
      refine cR_of (rput_ok w29 cs D hA29 hwf hch hpn (fun k hk => ⟨hBn6 hf6.size k hk, by omega⟩) o.at_ bs) ?_
      rintro ⟨cs2, e2⟩ w34 ⟨he2, hA34, hx34⟩
      simp only at he2 hA34
      subst he2
      refine ⟨hA34.len, hA34.one, fun b35 w36 hb35 hw36 => ?_⟩
      have hx36 : Ext w34 w36 := Ext.new hw36
      have hB35 : Blk w36 b35 49 cs2 := Blk.new hb35 hw36
      have hx36' := hx34.trans hx36
      have hgne : b35 ≠ g := by have := hx34.size; omega
      refine ⟨fun s w' => ∃ k : Nat, k ≤ bs.length ∧ s = (k : Int) ∧ DAt w' (fun k => (base k ∧ k ≠ b1 ∧ k ≠ b5) ∧ k ≠ g) pd bb (D.write o.at_ bs).1 ∧ RAt w' (fun k => B k ∧ k ≠ g) cs2 (D.write o.at_ bs).1 ∧ Fr (Foot pd bb) w6 w' ∧ Blk w' b35 49 cs2 ∧
          ∃ xs : List Value, Blk w' g 5 xs ∧ ∀ j, j < bs.length → ∃ i, xs[j]? = some (.int .u8 i),
        fun s _ => bs.length - s.toNat, ⟨0, Nat.zero_le _, rfl, h29.ext hx36', hA34.ext hx36, hf6.trans (Fr.of hx36'), hB35, _, hgB29.ext hx36', fun j hj => ⟨(bs[j].toNat : Int), ?_⟩⟩, ?_⟩
      · rw [List.getElem?_append_left (by rw [u8s_length]; exact hj)]
        exact u8s_get (List.getElem?_eq_getElem hj)
      rintro s w38 ⟨k, hkl, rfl, h38, hA38, hf38, hB38, xs, hgx, hxs⟩
      refine ⟨fun hlt => ?_, fun hge => ?_⟩
      · have hlt : k < bs.length := by have := of_decide_eq_true hlt; omega
        obtain ⟨i, hi⟩ := hxs k hlt
        have hkx : k < xs.length := by
          rcases Nat.lt_or_ge k xs.length with h | h
          · exact h
          · rw [List.getElem?_eq_none h] at hi; cases hi
        refine ⟨⟨g, 0, none⟩, _, hga, by omega, by omega, rfl, ?_⟩
        rw [Int.toNat_natCast, Nat.mul_one]
        refine ⟨i, by rw [add_plain, Nat.zero_add]; exact hgx.cell hi, ⟨g, 0, none⟩, _, hga, by omega, by omega, rfl, ?_⟩
        show st1 _ _ _ _
        rw [add_plain, Nat.zero_add, Int.toNat_natCast, Nat.mul_one]
        refine st1_blk hgx hkx fun w53 hB53 hf53 => ?_
        rw [w64_eq (by omega) (by omega)]
        refine ⟨⟨k + 1, by omega, by omega, h38.fr hf53 fun k hk e => hk.2 e, hA38.foot hf53 fun k hk e => hk.2 e, Fr.later hf38 hf53 hgb, hB38.fr hf53 hgne, _, hB53, fun j hj => ?_⟩, by simp only; omega⟩
        rw [List.getElem?_set]
        split
        · rename_i h; subst h
          exact ⟨_, rfl⟩
        · exact hxs j hj
      · refine ⟨cs2, hA34.len, hB38.at (by rw [List.drop_zero, List.take_length]), ?_⟩
        exact fin w38 cs2 _ _ (decide_eq_true rfl) (h38.mono fun k _ hu => hu.1) (hA38.mono fun k _ hu => hu.1) (play_write hP _ _) (hFx.trans hf38) (hB5.fr hf38 (hnf (by omega)))
    refine ⟨o.long, by rw [add_plain]; exact (hB3.ext hx12).cell rfl, fun hl => ?_, fun hl => ?_⟩
    · intro b16 w17 hb16 hw17
      have hx17 : Ext w12 w17 := Ext.new hw17
      have hl11 := ho11.length
      rw [u8s_length, fillOf_len] at hl11
      refine app_ok (base := w6.heap.size) mk_39 rfl (by decide) (ho11.ext hx17) (news := u8s [0]) rfl (At.new hb16 hw17) (u8s_one _) (by simp only [maxLen]; omega) (by simp only; omega) (hx12.trans hx17).size ?_
      intro s' w' hl' ho' _ hB'
      refine key s' w' ?_ (hB' _ _ (hx12.trans hx17) (Nat.le_refl _) (hx12.trans hx17).size)
      rw [hbs, hl, if_pos rfl, u8s_append]; exact ho'
    · refine key x11 w12 ?_ hx12
      rw [hbs, hl]
      simpa using ho11
  · -- Flush
    refine cR_of (flush_ok h6 hch) ?_
    rintro x62 w63 ⟨rfl, h63, hf63⟩
    have hB1' := hB1.fr hf63 (hnf hwb1)
    refine ⟨cs, hA.len, hB1'.at (by rw [List.drop_zero, List.take_length]), ?_⟩
    refine cR_of (rflush_ok w63 cs D (hA6.foot hf63 hB) hwf hch (hBn6 hf63.size)) ?_
    rintro ⟨cs2, e2⟩ w66 ⟨he2, hA66, hx66⟩
    simp only at he2 hA66
    subst he2
    refine ⟨hA66.len, hA66.one, fun b67 w68 hb67 hw68 => ?_⟩
    have hx68 : Ext w66 w68 := Ext.new hw68
    have hB67 : Blk w68 b67 49 cs2 := Blk.new hb67 hw68
    refine ⟨cs2, hA66.len, hB67.at (by rw [List.drop_zero, List.take_length]), ?_⟩
    exact fin w68 cs2 _ _ (decide_eq_true rfl) (h63.ext (hx66.trans hx68)) (hA66.ext hx68) (play_flush hP) ((hFx.trans hf63).trans (Fr.of (hx66.trans hx68))) ((hB5.fr hf63 (hnf (by omega))).ext (hx66.trans hx68))
  · -- Read
    refine ⟨o.at_, by rw [add_plain]; exact hB3.cell rfl, ?_⟩
    refine cR_of (read_ok h6 o.at_) ?_
    rintro ⟨y, e⟩ w75 ⟨hx75, hr⟩
    have hB1' := hB1.ext hx75
    have hB3' := hB3.ext hx75
    refine ⟨cs, hA.len, hB1'.at (by rw [List.drop_zero, List.take_length]), o.at_, by rw [add_plain]; exact hB3'.cell rfl, ?_⟩
    refine cR_of (why_ok w75 cs D (hA6.ext hx75) o.at_) ?_
    rintro x78 w79 ⟨rfl, hx79⟩
    have hxx := hx75.trans hx79
    have hB1'' := hB1.ext hxx
    have hB3'' := hB3.ext hxx
    refine ⟨fun hne => ?_, fun he => ?_⟩
    · have hne := nd_t hne
      have hye : (y, e) = (nilSl, D.why o.at_) := by
        rcases hr with ⟨_, hr⟩ | ⟨hr, _⟩
        · exact hr
        · exact absurd hr hne
      cases hye
      refine ⟨cs, hA.len, hB1''.at (by rw [List.drop_zero, List.take_length]), ?_⟩
      refine jn_of fun k1 hk1 => ⟨fun _ => ?_, fun h => absurd h (by simp)⟩
      rw [hk1]
      exact fin w79 cs D _ rfl (h6.ext hxx) (hA6.ext hxx) (play_mono hP (Nat.le_succ _)) (hFx.trans (Fr.of hxx)) (hB5.ext hxx)
    · have he := nd_f he
      rcases hr with ⟨hr, _⟩ | ⟨_, hr1, hr2⟩
      · exact absurd he hr
      simp only at hr1 hr2
      subst hr1
      obtain ⟨_, hi0, hi1⟩ := why_zero he
      obtain ⟨i, hi⟩ := Int.eq_ofNat_of_zero_le hi0
      have hin : i < D.bl.length := by omega
      rw [hi, Int.toNat_natCast] at hr2
      intro w93 hw93
      have hx93 : Ext w79 w93 := by subst hw93; exact Ext.drew _
      have hb15 : some b1 ≠ some b5 := by simp; omega
      refine ⟨hb15, cs, hA.len, hB1''.at (by rw [List.drop_zero, List.take_length]), ?_⟩
      refine jn_of fun k1 hk1 => ⟨fun _ => ?_, fun h => absurd h (by simp)⟩
      refine ⟨fun a ha e => ?_, ?_⟩
      · have := Own.ge5 hr2 a ha
        have e : a.block = b5 := by simpa using e
        omega
      have hyb := hr2.bytes.ext hx79
      refine ⟨_, hyb.1, hyb.2, hb15, cs, hA.len, hB1''.at (by rw [List.drop_zero, List.take_length]), ?_⟩
      refine ⟨by simp [add_plain]; omega, o.at_, by rw [add_plain]; exact hB3''.cell rfl, ?_⟩
      rw [hi]
      refine cR_of (now_ok w93 cs D (hA6.ext (hxx.trans hx93)) (by omega) i hin) ?_
      rintro x105 w106 ⟨rfl, hx106⟩
      refine ⟨hx106, ?_⟩
      rw [hk1]
      have hlen := hP.len
      have hx' := (hxx.trans hx93).trans hx106
      exact fin w106 cs D _ (decide_eq_true (hP.now i (by omega))) (h6.ext hx') (hA6.ext hx') (play_mono hP (Nat.le_succ _)) (hFx.trans (Fr.of hx')) (hB5.ext hx')
  · -- Crash
    refine ⟨fallOf o.fall, rfl, by rw [add_plain]; exact hB3.at rfl, ?_⟩
    refine cR_of (crash_ok h6 o.fall ho.keep) ?_
    rintro x121 w122 ⟨h122, hf122⟩
    have hB1' := hB1.fr hf122 (hnf hwb1)
    have hB3' := hB3.fr hf122 (hnf (by omega))
    refine ⟨cs, hA.len, hB1'.at (by rw [List.drop_zero, List.take_length]), fallOf o.fall, rfl, by rw [add_plain]; exact hB3'.at rfl, ?_⟩
    refine cR_of (rcrash_ok w122 cs D (hA6.foot hf122 hB) hwf (hBn6 hf122.size) o.fall ho.keep) ?_
    rintro x125 w126 ⟨hA126, hx126⟩
    exact fin w126 x125 _ true rfl (h122.ext hx126) hA126 (play_mono (play_crash hP _) (Nat.le_succ _)) ((hFx.trans hf122).trans (Fr.of hx126)) ((hB5.fr hf122 (hnf (by omega))).ext hx126)
  · -- Up
    subst hcs
    refine ⟨D.down, by rw [add_plain]; exact hB1.cell rfl, ?_⟩
    rw [add_plain]
    refine st1_blk hB1 (by simp) fun w131 hB131 hf131 => ?_
    have hB131 : Blk w131 b1 49 (rc ss sp sf D.changes false) := hB131
    have hx131 : Ext w w131 := hf131.ext hxw fun k _ e => by rw [e]; exact hwb1
    have h131 := h6.fr hf131 fun k hk e => hk.2.1 e
    refine ⟨Foot pd bb, fun w132 hw132 => ?_⟩
    have hx132 : Ext w131 w132 := by subst hw132; exact Ext.drew _
    refine ⟨hnf hwb1, rc ss sp sf D.changes false, rfl, hB131.at rfl, ?_⟩
    refine cR_of (up_ok (h131.ext hx132)) ?_
    rintro x135 w136 ⟨rfl, h136, hf136⟩
    have hff : Fr (Foot pd bb) w131 w136 := (Fr.of hx132).trans hf136
    refine ⟨⟨hf136.size, hf136.block⟩, ?_⟩
    have hA136 : RAt w136 B (rc ss sp sf D.changes false) D.up := by
      have : RAt w131 B (rc ss sp sf D.changes false) D.up := ⟨ss, sp, sf, rfl, ⟨hRX.sure.ext hx131, hRX.pend.ext hx131, hRX.falls.ext hx131, hRX.f1, hRX.f2, hRX.f3⟩⟩
      exact this.foot hff hB
    exact fin w136 _ _ (D.down == D.down) (beq_self_eq_true _) h136 hA136 (play_mono (play_up hP) (Nat.le_succ _)) ((Fr.of hx131).trans hff) ((hB5.fr hf131 (by omega)).fr hff (hnf (by omega)))
  · -- Plan
    subst hcs
    intro b141 w142 hb141 hw142
    have hx142 : Ext w6 w142 := Ext.new hw142
    have hfs := ho.falls.ext hxw
    have hfsl := hfs.len
    refine ⟨o.fs, by rw [add_plain]; exact (hB3.ext hx142).cell rfl, ?_⟩
    have hone : ∀ u ∈ fallC o.falls, u.oneCell' = true := by
      intro u hu
      obtain ⟨f, _, hf⟩ := List.mem_flatMap.1 hu
      exact fall_one f u hf
    refine app_ok (base := w6.heap.size) mkz_47 rfl (by decide) (Own.made (e := 27) (size := 3) (c := 0) hb141 hw142 (Nat.le_refl _) rfl (by simp [maxLen])) (news := fallC o.falls)
      (by rw [fallC_len, hfsl]) (Ext.atO hx142 hfs.cells) hone (by simp only [maxLen]; omega) (by simp only; omega) hx142.size ?_
    intro x144 w145 hl144 ho144 _ hB145
    rw [List.nil_append] at ho144
    have hx145 : Ext w6 w145 := hB145 _ _ hx142 (Nat.le_refl _) hx142.size
    have hl : x144.len = o.falls.length := by rw [hl144]; simp [hfsl]
    -- the row that is handed in, and written after
    obtain ⟨g, hg6, hgl, hgB⟩ : ∃ g, w6.heap.size ≤ g ∧ g < w145.heap.size ∧ (x144.len ≠ 0 → x144.a = some ⟨g, 0, none⟩ ∧ ∃ xs : List Value, x144.len * 3 ≤ xs.length ∧ Blk w145 g 27 xs) := by
      by_cases h0 : x144.len = 0
      · exact ⟨b141, by rw [hb141]; exact Nat.le_refl _, Nat.lt_of_lt_of_le (Blk.new hb141 hw142).lt (hB145 w6.heap.size w142 ⟨rfl, rfl, rfl, Nat.le_refl _, fun _ _ => rfl⟩ (Nat.le_refl _) hx142.size).size, fun h => absurd h0 h⟩
      · obtain ⟨g, rest, h1, h2, h3, _⟩ := ho144.blk (by omega)
        exact ⟨g, h2, h3.lt, fun _ => ⟨h1, _, by rw [List.length_append, fallC_len]; omega, h3⟩⟩
    have h145 : DAt w145 (fun k => (base k ∧ k ≠ b1 ∧ k ≠ b5) ∧ k ≠ g) pd bb D := (h6.mono (base' := fun k => (base k ∧ k ≠ b1 ∧ k ≠ b5) ∧ k ≠ g) fun k hk hu => ⟨hu, by omega⟩).ext hx145
    have hnil := (Own.slAt (base := Up w6.heap.size) (pd := pd) (bb := bb) ho144 (fun k hk => hk) (Nat.lt_of_lt_of_le hpdl hxw.size) (Nat.lt_of_lt_of_le hbbl hxw.size)).nil
    refine cR_of (plan_ok h145 x144 o.falls hl ho144.at hnil (by omega) (fun k hk => ⟨hb6 hx145.size k hk, by omega⟩) ho.falls.keep) ?_
    rintro _ w149 ⟨h149, hf149⟩
    have hall : RAt w B (rc ss sp o.fs D.changes D.down) (Dk.plan D o.falls) := ⟨ss, sp, o.fs, rfl, plan_rat hRX ho.falls hfo⟩
    refine ⟨fun s w' => ∃ k : Nat, k ≤ o.falls.length ∧ s = (k : Int) ∧ DAt w' (fun k => (base k ∧ k ≠ b1 ∧ k ≠ b5) ∧ k ≠ g) pd bb (Dk.plan D o.falls) ∧ Fr (Foot pd bb) w6 w' ∧ (x144.len ≠ 0 → ∃ xs : List Value, x144.len * 3 ≤ xs.length ∧ Blk w' g 27 xs),
      fun s _ => o.falls.length - s.toNat, ⟨0, Nat.zero_le _, rfl, h149, (Fr.of hx145).trans hf149, fun h0 => ?_⟩, ?_⟩
    · obtain ⟨_, xs, h1, h2⟩ := hgB h0
      exact ⟨xs, h1, h2.fr hf149 (hnf (Nat.le_trans hxw.size hg6))⟩
    rintro s w151 ⟨k, hkl, rfl, h151, hf151, hr151⟩
    refine ⟨fun hlt => ?_, fun hge => ?_⟩
    · have hlt : k < o.falls.length := by have := of_decide_eq_true hlt; omega
      refine cR_of (changes_ok h151) ?_
      rintro x161 w162 ⟨rfl, rfl⟩
      have h0 : x144.len ≠ 0 := by omega
      obtain ⟨xs, hxs, hbx⟩ := hr151 h0
      refine ⟨⟨g, 0, none⟩, _, (hgB h0).1, by omega, by omega, rfl, ?_⟩
      show stA _ _ _ _ _
      rw [add_plain, Nat.zero_add, Int.toNat_natCast]
      refine stA_blk hbx rfl (by omega) (by intro v hv; exact fall_one ((Dk.plan D o.falls).changes, 0, 0) v hv) fun w165 hB165 hf165 => ?_
      rw [w64_eq (by omega) (by omega)]
      refine ⟨⟨k + 1, by omega, by omega, h151.fr hf165 fun k hk e => hk.2 e, Fr.later hf151 hf165 hg6, fun _ => ⟨_, ?_, hB165⟩⟩, by simp only; omega⟩
      unfold splice
      simp only [List.length_append, List.length_take, List.length_drop, List.length_cons, List.length_nil]
      omega
    · have hff : Fr (Foot pd bb) w w151 := hFx.trans hf151
      have hB1' := hB1.fr hf151 (hnf hwb1)
      have hB3' := hB3.fr hf151 (hnf (by omega))
      have hB5' := hB5.fr hf151 (hnf (by omega))
      refine ⟨o.fs, by rw [add_plain]; exact hB3'.cell rfl, ?_⟩
      show st1 _ _ _ _
      rw [add_plain]
      refine st1_blk hB1' (by simp) fun w167 hB167 hf167 => ?_
      have hB167 : Blk w167 b1 49 (rc ss sp o.fs D.changes D.down) := hB167
      have hff' : Fr (Foot pd bb) w w167 := Fr.later hff hf167 hwb1
      refine ⟨rc ss sp o.fs D.changes D.down, rfl, hB167.at rfl, ?_⟩
      exact fin w167 _ (Dk.plan D o.falls) true rfl ((h151.mono fun k _ hu => hu.1).fr hf167 fun k hk e => hk.2.1 e) (hall.foot hff' hB) (play_mono (play_plan hP _) (Nat.le_succ _)) hff' (hB5'.fr hf167 (by omega))
  · -- Clone
    refine cR_of (clone_ok h6) ?_
    rintro x173 w174 ⟨pd', bb', rfl, h174, hx174⟩
    obtain ⟨hpd', hbb', _, _⟩ := h174.lt
    intro w175 hw175
    have hx175 : Ext w174 w175 := by subst hw175; exact Ext.drew _
    have hB3' := hB3.ext hx174
    refine ⟨o.at_, by rw [add_plain]; exact hB3'.cell rfl, (o.c.toNat : Int), by rw [add_plain]; exact hB3'.cell rfl, ?_⟩
    refine cR_of (fill_ok w175 o.c [99, 108, 111, 110, 101]) ?_
    rintro x179 w180 ⟨ho179, hx180⟩
    refine ⟨hx175.trans hx180, ?_⟩
    have hx180' := (hx174.trans hx175).trans hx180
    obtain ⟨c1, c2, c3, c4⟩ := bare_write D o.at_ (fillOf o.c [99, 108, 111, 110, 101]) (fillOf_len _ _)
    refine cR_of (write_ok ((h174.ext hx175).ext hx180) hch hpn (upB hx180'.size) o.at_ x179 _ ho179.bytes) ?_
    rintro x182 w183 ⟨hx182, h183, hf183⟩
    rw [c1] at hx182
    generalize hE : ((Dk.bare D).write o.at_ (fillOf o.c [99, 108, 111, 110, 101])).1 = E at h183 c2 c3 c4
    have hx183 := footExt hf183 hx180' hpd' hbb'
    refine cR_of (flush_ok h183 (by have := hP.ch; omega)) ?_
    rintro x184 w185 ⟨hx184, h185, hf185⟩
    obtain ⟨c5, c6⟩ := bare_flush c2
    rw [c5, c3] at hx184
    rw [c3] at c6
    have hx185 := footExt hf185 hx183 hpd' hbb'
    intro w186 hw186
    have hx186 : Ext w185 w186 := by subst hw186; exact Ext.drew _
    have hb15 : some b1 ≠ some b5 := by simp; omega
    have hb35 : some b3 ≠ some b5 := by simp; omega
    have hB1' := hB1.ext hx185
    have hB3'' := hB3.ext hx185
    refine ⟨hb15, cs, hA.len, hB1'.at (by rw [List.drop_zero, List.take_length]), hb15, cs, hA.len, hB1'.at (by rw [List.drop_zero, List.take_length]), ?_⟩
    refine ⟨by simpa [add_plain] using hb35, o.at_, by rw [add_plain]; exact hB3''.cell rfl, ?_⟩
    have hx186' := hx185.trans hx186
    refine cR_of (why_ok w186 cs D (hA6.ext hx186') o.at_) ?_
    rintro x194 w195 ⟨rfl, hx195⟩
    refine ⟨hx195, ?_⟩
    have hx195' := hx186'.trans hx195
    have hd1 : w185.cell? (Addr.add ⟨b1, 0, none⟩ 4) = some (.bool D.down) := by
      rw [add_plain]
      exact hB1'.cell (by rw [hcs]; rfl)
    refine jn_of fun k1 hk1 => ?_
    refine ⟨fun _ => ?_, fun h => absurd (of_decide_eq_false h) (fun hn => hn hx182)⟩
    refine ⟨by simpa [add_plain] using hb15, D.down, hd1, ?_⟩
    have hb : (decide (x184 = 0) == !D.down) = true := by
      rw [hx184]
      cases D.down <;> rfl
    show k1 _ w195
    rw [hb, hk1]
    refine jn_of fun k2 hk2 => ?_
    refine ⟨fun _ => ?_, fun h => absurd h (by simp)⟩
    refine ⟨by simpa [add_plain] using hb15, D.down, hd1, ?_⟩
    refine cR_of (down_ok ((h185.ext hx186).ext hx195)) ?_
    rintro x213 w214 ⟨rfl, rfl⟩
    refine ⟨Ext.refl _, ?_⟩
    show k2 _ w195
    rw [hk2]
    exact fin w195 cs D (E.flush.1.down == D.down) (by rw [c6]; exact beq_self_eq_true _) (h6.ext hx195') (hA6.ext hx195') (play_mono hP (Nat.le_succ _)) (hFx.trans (Fr.of hx195')) (hB5.ext hx195')
end Go.Proofs.Ytagkcbbbdlmcjaa
end
section
/- The typed readings of the functions, and that the program meets each: written by gen.py (a program of this session). -/
set_option linter.unusedVariables false
set_option linter.unusedSimpArgs false
namespace Go.Proofs.Ytagkcbbbdlmcjaa
open Go.Lift
set_option maxRecDepth 100000 in
set_option maxHeartbeats 4000000 in
theorem s8_calls (K : Bool → World → Prop) (p0 : Int) (p1 : Sl) (w : World) (h : s8 K p0 p1 w) :
    Calls Try.prog 8 #[.int .i64 p0, Sl.v p1] w (Ret r8 K) := by
  unfold s8 at h
  refine calls_of_CW (n := 102) Try.func8 rfl rfl rfl ?_
  refine CW.seq ?_
  refine CW.region ?_
  refine RL.opS trivial rfl (OpW.assign (v := .bool false) rfl ?_)
  refine RL.nil ?_
  refine CW.seq ?_
  refine CW.seq ?_
  refine CW.region ?_
  refine RL.opS trivial rfl (OpW.callR (al := []) Try.func30 fb_30 fn_30 rfl h (fun x1 w2 h => ?_))
  refine RL.opS trivial rfl (OpW.not rfl ?_)
  refine RL.opS trivial rfl (OpW.move (v := .bool (!x1)) rfl ?_)
  refine jn_elim h ?_; clear h; intro k151 hk152 h
  refine RL.joinAt (A := Bool) 5 (fun s7 ρ => ρ 22 = .bool s7 ∧ ρ 0 = .int .i64 p0 ∧ ρ 1 = Sl.v p1) k151 ?_ ?_
  · rintro s7 ρ w8 ⟨e9, e10, e11⟩ h
    subst hk152
    dsimp only [List.drop]
    refine RL.nil ?_
    obtain ⟨ha, hc⟩ := h
    refine CW.cond (b := s7) e9 (fun hb12 => ?_) (fun hb12 => ?_)
    · have h := ha hb12; clear ha hc
      refine CW.seq ?_
      refine CW.region ?_
      refine RL.opS trivial rfl (OpW.callR (al := []) Try.func30 fb_30 fn_30 rfl h (fun x13 w14 h => ?_))
      refine RL.opS trivial rfl (OpW.assign (v := .bool x13) rfl ?_)
      refine RL.nil ?_
      refine CW.ret ?_
      exact ret_intro (res1 rfl rfl) ⟨x13, rfl, h⟩
    · have h := hc hb12; clear ha hc
      refine CW.skip ?_
      refine CW.seq ?_
      refine CW.region ?_
      refine RL.opS trivial rfl (OpW.move (v := .int .i64 p0) e10 ?_)
      refine RL.opS trivial rfl (OpW.callR (al := [.int .i64 p0]) Try.func15 fb_15 fn_15 rfl h (fun x15 w16 h => ?_))
      refine RL.opS trivial rfl (OpW.move (v := .tuple #[.pointer x15.1, .int .i64 x15.2]) rfl ?_)
      refine RL.opS trivial rfl (OpW.extract (v := .pointer x15.1) rfl rfl ?_)
      refine RL.opS trivial rfl (OpW.extract (v := .int .i64 x15.2) rfl rfl ?_)
      refine RL.opS trivial rfl (OpW.assign (v := .pointer x15.1) rfl ?_)
      refine RL.opS trivial rfl (OpW.assign (v := .int .i64 x15.2) rfl ?_)
      refine RL.nil ?_
      refine CW.seq ?_
      refine CW.seq ?_
      refine CW.region ?_
      refine RL.opS trivial rfl (OpW.move (v := .int .i64 x15.2) rfl ?_)
      refine RL.opS trivial rfl (OpW.bin (k := .i64) (a := x15.2) (b := 0) (v := .bool (!decide (x15.2 = 0))) rfl rfl rfl ?_)
      refine RL.opS trivial rfl (OpW.move (v := .bool (!decide (x15.2 = 0))) rfl ?_)
      refine jn_elim h ?_; clear h; intro k149 hk150 h
      refine RL.joinAt (A := Bool) 5 (fun s21 ρ => ρ 36 = .bool s21 ∧ ρ 0 = .int .i64 p0 ∧ ρ 1 = Sl.v p1 ∧ ρ 5 = .pointer x15.1) k149 ?_ ?_
      · rintro s21 ρ w22 ⟨e23, e24, e25, e26⟩ h
        subst hk150
        dsimp only [List.drop]
        refine RL.nil ?_
        obtain ⟨ha, hc⟩ := h
        refine CW.cond (b := s21) e23 (fun hb27 => ?_) (fun hb27 => ?_)
        · have h := ha hb27; clear ha hc
          refine CW.seq ?_
          refine CW.region ?_
          refine RL.opS trivial rfl (OpW.assign (v := .bool false) rfl ?_)
          refine RL.nil ?_
          refine CW.ret ?_
          exact ret_intro (res1 rfl rfl) ⟨false, rfl, h⟩
        · have h := hc hb27; clear ha hc
          refine CW.skip ?_
          refine CW.seq ?_
          refine CW.region ?_
          refine RL.opS trivial rfl (OpW.move (v := .int .i64 p0) e24 ?_)
          refine RL.opS trivial rfl (OpW.callR (al := [.int .i64 p0]) Try.func24 fb_24 fn_24 rfl h (fun x28 w29 h => ?_))
          obtain ⟨hl_b30, ho_b30, h⟩ := h
          obtain ⟨b30, hb30_⟩ : ∃ b_, b_ = w29.heap.size := ⟨_, rfl⟩
          obtain ⟨w31, hw31_⟩ : ∃ w_, w_ = w29.alloc (.cells (List.toArray x28) 49) := ⟨_, rfl⟩
          have h := h b30 w31 hb30_ hw31_
          refine RL.opS trivial rfl (OpW.allocZ (b := b30) zero_49 hb30_ ?_)
          refine RL.opN trivial (OpW.storeF (zs := [Value.slice none 0 0, Value.slice none 0 0, Value.slice none 0 0, Value.int .i64 0, Value.bool false]) (cs := x28) size_49 rfl rfl hl_b30 (by decide) ho_b30 hb30_ hw31_ ?_)
          refine RL.nil ?_
          refine CW.seq ?_
          refine CW.seq ?_
          refine CW.region ?_
          refine RL.opS trivial rfl (OpW.move (v := Sl.v p1) e25 ?_)
          refine RL.opS trivial rfl (OpW.len (s := p1) slice_61 rfl ?_)
          refine RL.opS trivial rfl (OpW.move (v := .int .i64 0) rfl ?_)
          refine RL.nil ?_
          refine CW.block ?_
          obtain ⟨I147, mu148, hI, hs⟩ := h
          refine CW.loop (σ := Int) (fun s32 ρ => ρ 41 = .int .i64 s32 ∧ ρ 0 = .int .i64 p0 ∧ ρ 5 = .pointer x15.1 ∧ ρ 7 = .pointer (some ⟨b30, 0, none⟩) ∧ ρ 39 = Sl.v p1 ∧ ρ 40 = .int .i64 (p1.len : Int)) I147 mu148 0 ⟨rfl, e24, e26, rfl, rfl, rfl⟩ hI ?_
          rintro s32 ρ w33 ⟨e35, e36, e37, e38, e39, e40⟩ hI
          have h := hs s32 w33 hI
          clear hs hI
          refine CW.seq ?_
          refine CW.region ?_
          refine RL.opS trivial rfl (OpW.bin (k := .i64) (a := s32) (b := (p1.len : Int)) (v := .bool (decide (s32 < (p1.len : Int)))) e35 e40 rfl ?_)
          refine RL.nil ?_
          refine CW.seq ?_
          obtain ⟨ha, hc⟩ := h
          refine CW.cond (b := (decide (s32 < (p1.len : Int)))) rfl (fun hb41 => ?_) (fun hb41 => ?_)
          · have h := ha hb41; clear ha hc
            refine CW.skip ?_
            refine CW.seq ?_
            refine CW.block ?_
            refine CW.seq ?_
            refine CW.region ?_
            obtain ⟨a42_, a42, h1, h2, h3, h4, h⟩ := h
            refine RL.opS trivial rfl (OpW.indexE (a' := a42) slice_61 e39 e35 h1 h2 h3 h4 ?_)
            obtain ⟨x44, h1, h2, h⟩ := h
            refine RL.opS trivial rfl (OpW.loadA agg_65 rfl h1 h2 ?_)
            obtain ⟨hl_b45, ho_b45, h⟩ := h
            obtain ⟨b45, hb45_⟩ : ∃ b_, b_ = w33.heap.size := ⟨_, rfl⟩
            obtain ⟨w46, hw46_⟩ : ∃ w_, w_ = w33.alloc (.cells (List.toArray x44) 65) := ⟨_, rfl⟩
            have h := h b45 w46 hb45_ hw46_
            refine RL.opS trivial rfl (OpW.allocZ (b := b45) zero_65 hb45_ ?_)
            refine RL.opN trivial (OpW.storeF (zs := [Value.int .i64 0, Value.int .i64 0, Value.int .u8 0, str [], Value.bool false, Value.int .i64 0, Value.int .u64 0, Value.int .i64 0, Value.slice none 0 0]) (cs := x44) size_65 rfl rfl hl_b45 (by decide) ho_b45 hb45_ hw46_ ?_)
            refine RL.nil ?_
            refine CW.seq ?_
            refine CW.region ?_
            refine RL.opS trivial rfl (OpW.move (v := .pointer x15.1) e37 ?_)
            obtain ⟨x47, h1, h2, h⟩ := h
            refine RL.opS trivial rfl (OpW.loadA agg_49 e38 h1 h2 ?_)
            obtain ⟨x48, h1, h2, h⟩ := h
            refine RL.opS trivial rfl (OpW.loadA agg_65 rfl h1 h2 ?_)
            refine RL.opS trivial rfl (OpW.callR (al := [.pointer x15.1, aggv x47, aggv x48]) Try.func40 fb_40 fn_40 rfl h (fun x49 w50 h => ?_))
            refine RL.opS trivial rfl (OpW.move (v := .tuple #[aggv x49.1, .bool x49.2]) rfl ?_)
            refine RL.opS trivial rfl (OpW.extract (v := aggv x49.1) rfl rfl ?_)
            refine RL.opS trivial rfl (OpW.extract (v := .bool x49.2) rfl rfl ?_)
            obtain ⟨hl_b51, ho_b51, h⟩ := h
            obtain ⟨b51, hb51_⟩ : ∃ b_, b_ = w50.heap.size := ⟨_, rfl⟩
            obtain ⟨w52, hw52_⟩ : ∃ w_, w_ = w50.alloc (.cells (List.toArray x49.1) 49) := ⟨_, rfl⟩
            have h := h b51 w52 hb51_ hw52_
            refine RL.opS trivial rfl (OpW.allocZ (b := b51) zero_49 hb51_ ?_)
            refine RL.opN trivial (OpW.storeF (zs := [Value.slice none 0 0, Value.slice none 0 0, Value.slice none 0 0, Value.int .i64 0, Value.bool false]) (cs := x49.1) size_49 rfl rfl hl_b51 (by decide) ho_b51 hb51_ hw52_ ?_)
            refine RL.opS trivial rfl (OpW.assign (v := .bool x49.2) rfl ?_)
            refine RL.nil ?_
            refine CW.seq ?_
            refine CW.region ?_
            obtain ⟨x53, h1, h2, h⟩ := h
            refine RL.opS trivial rfl (OpW.loadA agg_49 rfl h1 h2 ?_)
            obtain ⟨g_, o_, e_, cur_, ha_, h1, h2, h3, h4, h⟩ := h
            obtain ⟨w54, hw54_⟩ : ∃ w_, w_ = w52.setRow g_ (cur_.toList.take o_ ++ x53 ++ cur_.toList.drop (o_ + List.length x53)).toArray := ⟨_, rfl⟩
            have h := h w54 hw54_
            refine RL.opN trivial (OpW.storeAE (cs := x53) size_49 e38 rfl ha_ h1 h2 h3 h4 hw54_ ?_)
            refine RL.nil ?_
            refine CW.seq ?_
            obtain ⟨w55, hw55_⟩ : ∃ w_, w_ = w54.drew := ⟨_, rfl⟩
            have h := h w55 hw55_
            have hx56 : Ext w54 w55 := by rw [hw55_]; exact Ext.drew _
            refine CW.draws (m := 24) (listed := #[false, false, false, false, false, false, false, false, false, false, false, false, false, false, false, false, false, false, false, false, false, false, false, false]) mixed [0, 1, 2, 3, 4, 5, 6, 7, 8, 9, 10, 11, 12, 13, 14, 15, 16, 17, 18, 19, 20, 21, 22, 23] (Ext w54) rfl rfl ?_
            rw [← hw55_]
            refine DL.takeP (listed' := #[true, false, false, false, false, false, false, false, false, false, false, false, false, false, false, false, false, false, false, false, false, false, false, false]) (v := .bool x49.2) 0 rfl rfl (by kernel_rfl) rfl trivial rfl (fun w_ K_ h_ => OpW.move (v := .bool x49.2) rfl h_) ?_
            refine DL.takeP (listed' := #[true, true, false, false, false, false, false, false, false, false, false, false, false, false, false, false, false, false, false, false, false, false, false, false]) (v := .bool (!x49.2)) 1 rfl rfl (by kernel_rfl) rfl trivial rfl (fun w_ K_ h_ => OpW.not rfl h_) ?_
            refine DL.takeP (listed' := #[true, true, true, false, false, false, false, false, false, false, false, false, false, false, false, false, false, false, false, false, false, false, false, false]) (v := .bool (!x49.2)) 2 rfl rfl (by kernel_rfl) rfl trivial rfl (fun w_ K_ h_ => OpW.move (v := .bool (!x49.2)) rfl h_) ?_
            refine jn_elim h ?_; clear h; intro k110 hk111 h
            refine DL.cutS (A := Bool) (fun s63 ρ => ρ 61 = .bool s63 ∧ ρ 0 = .int .i64 p0 ∧ ρ 5 = .pointer x15.1 ∧ ρ 7 = .pointer (some ⟨b30, 0, none⟩) ∧ ρ 39 = Sl.v p1 ∧ ρ 40 = .int .i64 (p1.len : Int) ∧ ρ 41 = .int .i64 s32) k110 15 #[true, true, true, true, true, true, true, true, true, false, false, false, false, false, false, false, false, false, false, false, false, false, false, false] ?_ ?_
            · rintro s63 ρ w64 ⟨e66, e67, e68, e69, e70, e71, e72⟩ hx65 h
              subst hk111
              refine DL.takeP (listed' := #[true, true, true, true, true, true, true, true, true, true, false, false, false, false, false, false, false, false, false, false, false, false, false, false]) (v := .bool s63) 9 rfl rfl (by kernel_rfl) rfl trivial rfl (fun w_ K_ h_ => OpW.move (v := .bool s63) e66 h_) ?_
              refine jn_elim h ?_; clear h; intro k108 hk109 h
              refine DL.cutS (A := Bool) (fun s79 ρ => ρ 69 = .bool s79 ∧ ρ 0 = .int .i64 p0 ∧ ρ 5 = .pointer x15.1 ∧ ρ 7 = .pointer (some ⟨b30, 0, none⟩) ∧ ρ 39 = Sl.v p1 ∧ ρ 40 = .int .i64 (p1.len : Int) ∧ ρ 41 = .int .i64 s32) k108 7 #[true, true, true, true, true, true, true, true, true, true, true, true, true, true, true, true, true, false, false, false, false, false, false, false] ?_ ?_
              · rintro s79 ρ w80 ⟨e82, e83, e84, e85, e86, e87, e88⟩ hx81 h
                subst hk109
                refine DL.takeP (listed' := #[true, true, true, true, true, true, true, true, true, true, true, true, true, true, true, true, true, true, false, false, false, false, false, false]) (v := .bool s79) 17 rfl rfl (by kernel_rfl) rfl trivial rfl (fun w_ K_ h_ => OpW.move (v := .bool s79) e82 h_) ?_
                refine jn_elim h ?_; clear h; intro k106 hk107 h
                refine DL.cut (A := Bool) (fun s95 ρ => ρ 76 = .bool s95 ∧ ρ 0 = .int .i64 p0 ∧ ρ 5 = .pointer x15.1 ∧ ρ 7 = .pointer (some ⟨b30, 0, none⟩) ∧ ρ 39 = Sl.v p1 ∧ ρ 40 = .int .i64 (p1.len : Int) ∧ ρ 41 = .int .i64 s32) k106 0 #[true, true, true, true, true, true, true, true, true, true, true, true, true, true, true, true, true, true, true, true, true, true, true, true] ?_ ?_
                · rintro s95 ρ w96 ⟨e98, e99, e100, e101, e102, e103, e104⟩ h
                  subst hk107
                  refine DL.done (by kernel_rfl) ?_
                  obtain ⟨ha, hc⟩ := h
                  refine CW.cond (b := s95) e98 (fun hb105 => ?_) (fun hb105 => ?_)
                  · have h := ha hb105; clear ha hc
                    refine CW.seq ?_
                    refine CW.region ?_
                    refine RL.opS trivial rfl (OpW.assign (v := .bool false) rfl ?_)
                    refine RL.nil ?_
                    refine CW.ret ?_
                    exact ret_intro (res1 rfl rfl) ⟨false, rfl, h⟩
                  · have h := hc hb105; clear ha hc
                    refine CW.skip ?_
                    refine CW.region ?_
                    refine RL.opS trivial rfl (OpW.bin (k := .i64) (a := s32) (b := 1) (v := .int .i64 (IntKind.i64.wrap (s32 + 1))) e104 rfl rfl ?_)
                    refine RL.opS trivial rfl (OpW.move (v := .int .i64 (IntKind.i64.wrap (s32 + 1))) rfl ?_)
                    refine RL.nil ?_
                    exact ⟨(IntKind.i64.wrap (s32 + 1)), ⟨rfl, e99, e100, e101, e102, e103⟩, h⟩
                · intro hJJ89; clear hk107
                  obtain ⟨ha, hc⟩ := h
                  rcases Bool.eq_false_or_eq_true s79 with hb90 | hb90
                  · have h := ha hb90; clear ha hc
                    refine DL.skipP (listed' := #[true, true, true, true, true, true, true, true, true, true, true, true, true, true, true, true, true, true, true, false, false, false, false, false]) 18 rfl (by kernel_rfl) rfl (notWanted_of rfl rfl hb90) rfl ?_
                    refine DL.skipP (listed' := #[true, true, true, true, true, true, true, true, true, true, true, true, true, true, true, true, true, true, true, false, true, false, false, false]) 20 rfl (by kernel_rfl) rfl (notWanted_of rfl rfl hb90) rfl ?_
                    refine DL.skipP (listed' := #[true, true, true, true, true, true, true, true, true, true, true, true, true, true, true, true, true, true, true, false, true, true, false, false]) 21 rfl (by kernel_rfl) rfl (notWanted_of rfl rfl hb90) rfl ?_
                    refine DL.skipX (listed' := #[true, true, true, true, true, true, true, true, true, true, true, true, true, true, true, true, true, true, true, true, true, true, false, false]) 19 rfl (by kernel_rfl) rfl (notWanted_of rfl rfl hb90) rfl ?_
                    refine DL.skipP (listed' := #[true, true, true, true, true, true, true, true, true, true, true, true, true, true, true, true, true, true, true, true, true, true, true, false]) 22 rfl (by kernel_rfl) rfl (notWanted_of rfl rfl hb90) rfl ?_
                    refine DL.takeP (listed' := #[true, true, true, true, true, true, true, true, true, true, true, true, true, true, true, true, true, true, true, true, true, true, true, true]) (v := .bool true) 23 rfl rfl (by kernel_rfl) rfl trivial rfl (fun w_ K_ h_ => OpW.pick (b := true) (v := .bool true) (congrArg Value.bool hb90) rfl h_) ?_
                    exact hJJ89 _ _ ⟨true, ⟨rfl, e83, e84, e85, e86, e87, e88⟩, h⟩
                  · have h := hc hb90; clear ha hc
                    refine DL.takeP (listed' := #[true, true, true, true, true, true, true, true, true, true, true, true, true, true, true, true, true, true, true, false, false, false, false, false]) (v := .pointer x15.1) 18 rfl rfl (by kernel_rfl) rfl (wanted_of rfl rfl hb90) rfl (fun w_ K_ h_ => OpW.move (v := .pointer x15.1) e84 h_) ?_
                    refine DL.takeP (listed' := #[true, true, true, true, true, true, true, true, true, true, true, true, true, true, true, true, true, true, true, false, true, false, false, false]) (v := .pointer (some (Addr.add ⟨b30, 0, none⟩ 3))) 20 rfl rfl (by kernel_rfl) rfl (wanted_of rfl rfl hb90) rfl (fun w_ K_ h_ => OpW.fieldAddr field_49_3 e85 h_) ?_
                    obtain ⟨x91, h1, h⟩ := h
                    refine DL.takeK (listed' := #[true, true, true, true, true, true, true, true, true, true, true, true, true, true, true, true, true, true, true, false, true, true, false, false]) (v := .int .i64 x91) 21 rfl rfl (by kernel_rfl) (by kernel_rfl) rfl (wanted_of rfl rfl hb90) rfl hx81 (fun w_ hS_ K_ h_ => OpW.load1 (v := .int .i64 x91) one_3 rfl (hS_.cell h1) h_) ?_
                    refine DL.execS (listed' := #[true, true, true, true, true, true, true, true, true, true, true, true, true, true, true, true, true, true, true, true, true, true, false, false]) 19 rfl (by kernel_rfl) rfl (wanted_of rfl rfl hb90) rfl (OpW.callR (al := [.pointer x15.1]) Try.func19 fb_19 fn_19 rfl h (fun x92 w93 h => ?_))
                    obtain ⟨hx94, h⟩ := h
                    refine ⟨(fun _ _ => hx94), ?_⟩
                    refine DL.takeP (listed' := #[true, true, true, true, true, true, true, true, true, true, true, true, true, true, true, true, true, true, true, true, true, true, true, false]) (v := .bool (!decide (x92 = x91))) 22 rfl rfl (by kernel_rfl) rfl (wanted_of rfl rfl hb90) rfl (fun w_ K_ h_ => OpW.bin (k := .i64) (a := x92) (b := x91) (v := .bool (!decide (x92 = x91))) rfl rfl rfl h_) ?_
                    refine DL.takeP (listed' := #[true, true, true, true, true, true, true, true, true, true, true, true, true, true, true, true, true, true, true, true, true, true, true, true]) (v := .bool (!decide (x92 = x91))) 23 rfl rfl (by kernel_rfl) rfl trivial rfl (fun w_ K_ h_ => OpW.pick (b := false) (v := .bool (!decide (x92 = x91))) (congrArg Value.bool hb90) rfl h_) ?_
                    exact hJJ89 _ _ ⟨(!decide (x92 = x91)), ⟨rfl, e83, e84, e85, e86, e87, e88⟩, h⟩
              · intro hJJ73; clear hk109
                obtain ⟨ha, hc⟩ := h
                rcases Bool.eq_false_or_eq_true s63 with hb74 | hb74
                · have h := ha hb74; clear ha hc
                  refine DL.skipP (listed' := #[true, true, true, true, true, true, true, true, true, true, true, false, false, false, false, false, false, false, false, false, false, false, false, false]) 10 rfl (by kernel_rfl) rfl (notWanted_of rfl rfl hb74) rfl ?_
                  refine DL.skipP (listed' := #[true, true, true, true, true, true, true, true, true, true, true, false, true, false, false, false, false, false, false, false, false, false, false, false]) 12 rfl (by kernel_rfl) rfl (notWanted_of rfl rfl hb74) rfl ?_
                  refine DL.skipP (listed' := #[true, true, true, true, true, true, true, true, true, true, true, false, true, true, false, false, false, false, false, false, false, false, false, false]) 13 rfl (by kernel_rfl) rfl (notWanted_of rfl rfl hb74) rfl ?_
                  refine DL.skipP (listed' := #[true, true, true, true, true, true, true, true, true, true, true, false, true, true, true, false, false, false, false, false, false, false, false, false]) 14 rfl (by kernel_rfl) rfl (notWanted_of rfl rfl hb74) rfl ?_
                  refine DL.skipX (listed' := #[true, true, true, true, true, true, true, true, true, true, true, true, true, true, true, false, false, false, false, false, false, false, false, false]) 11 rfl (by kernel_rfl) rfl (notWanted_of rfl rfl hb74) rfl ?_
                  refine DL.skipP (listed' := #[true, true, true, true, true, true, true, true, true, true, true, true, true, true, true, true, false, false, false, false, false, false, false, false]) 15 rfl (by kernel_rfl) rfl (notWanted_of rfl rfl hb74) rfl ?_
                  refine DL.takeP (listed' := #[true, true, true, true, true, true, true, true, true, true, true, true, true, true, true, true, true, false, false, false, false, false, false, false]) (v := .bool true) 16 rfl rfl (by kernel_rfl) rfl trivial rfl (fun w_ K_ h_ => OpW.pick (b := true) (v := .bool true) (congrArg Value.bool hb74) rfl h_) ?_
                  exact hJJ73 _ _ ⟨true, ⟨rfl, e67, e68, e69, e70, e71, e72⟩, hx65, h⟩
                · have h := hc hb74; clear ha hc
                  refine DL.takeP (listed' := #[true, true, true, true, true, true, true, true, true, true, true, false, false, false, false, false, false, false, false, false, false, false, false, false]) (v := .pointer x15.1) 10 rfl rfl (by kernel_rfl) rfl (wanted_of rfl rfl hb74) rfl (fun w_ K_ h_ => OpW.move (v := .pointer x15.1) e68 h_) ?_
                  refine DL.takeP (listed' := #[true, true, true, true, true, true, true, true, true, true, true, false, true, false, false, false, false, false, false, false, false, false, false, false]) (v := .pointer (some (Addr.add ⟨b30, 0, none⟩ 1))) 12 rfl rfl (by kernel_rfl) rfl (wanted_of rfl rfl hb74) rfl (fun w_ K_ h_ => OpW.fieldAddr field_49_1 e69 h_) ?_
                  obtain ⟨x75, h1, h⟩ := h
                  refine DL.takeK (listed' := #[true, true, true, true, true, true, true, true, true, true, true, false, true, true, false, false, false, false, false, false, false, false, false, false]) (v := Sl.v x75) 13 rfl rfl (by kernel_rfl) (by kernel_rfl) rfl (wanted_of rfl rfl hb74) rfl hx65 (fun w_ hS_ K_ h_ => OpW.load1 (v := Sl.v x75) one_46 rfl (hS_.cell h1) h_) ?_
                  refine DL.takeP (listed' := #[true, true, true, true, true, true, true, true, true, true, true, false, true, true, true, false, false, false, false, false, false, false, false, false]) (v := .int .i64 (x75.len : Int)) 14 rfl rfl (by kernel_rfl) rfl (wanted_of rfl rfl hb74) rfl (fun w_ K_ h_ => OpW.len (s := x75) slice_46 rfl h_) ?_
                  refine DL.execS (listed' := #[true, true, true, true, true, true, true, true, true, true, true, true, true, true, true, false, false, false, false, false, false, false, false, false]) 11 rfl (by kernel_rfl) rfl (wanted_of rfl rfl hb74) rfl (OpW.callR (al := [.pointer x15.1]) Try.func23 fb_23 fn_23 rfl h (fun x76 w77 h => ?_))
                  obtain ⟨hx78, h⟩ := h
                  refine ⟨(fun _ _ => hx78), ?_⟩
                  refine DL.takeP (listed' := #[true, true, true, true, true, true, true, true, true, true, true, true, true, true, true, true, false, false, false, false, false, false, false, false]) (v := .bool (!decide (x76 = (x75.len : Int)))) 15 rfl rfl (by kernel_rfl) rfl (wanted_of rfl rfl hb74) rfl (fun w_ K_ h_ => OpW.bin (k := .i64) (a := x76) (b := (x75.len : Int)) (v := .bool (!decide (x76 = (x75.len : Int)))) rfl rfl rfl h_) ?_
                  refine DL.takeP (listed' := #[true, true, true, true, true, true, true, true, true, true, true, true, true, true, true, true, true, false, false, false, false, false, false, false]) (v := .bool (!decide (x76 = (x75.len : Int)))) 16 rfl rfl (by kernel_rfl) rfl trivial rfl (fun w_ K_ h_ => OpW.pick (b := false) (v := .bool (!decide (x76 = (x75.len : Int)))) (congrArg Value.bool hb74) rfl h_) ?_
                  exact hJJ73 _ _ ⟨(!decide (x76 = (x75.len : Int))), ⟨rfl, e67, e68, e69, e70, e71, e72⟩, hx78, h⟩
            · intro hJJ57; clear hk111
              obtain ⟨ha, hc⟩ := h
              rcases Bool.eq_false_or_eq_true (!x49.2) with hb58 | hb58
              · have h := ha hb58; clear ha hc
                refine DL.skipP (listed' := #[true, true, true, true, false, false, false, false, false, false, false, false, false, false, false, false, false, false, false, false, false, false, false, false]) 3 rfl (by kernel_rfl) rfl (notWanted_of rfl rfl hb58) rfl ?_
                refine DL.skipP (listed' := #[true, true, true, true, false, true, false, false, false, false, false, false, false, false, false, false, false, false, false, false, false, false, false, false]) 5 rfl (by kernel_rfl) rfl (notWanted_of rfl rfl hb58) rfl ?_
                refine DL.skipP (listed' := #[true, true, true, true, false, true, true, false, false, false, false, false, false, false, false, false, false, false, false, false, false, false, false, false]) 6 rfl (by kernel_rfl) rfl (notWanted_of rfl rfl hb58) rfl ?_
                refine DL.skipX (listed' := #[true, true, true, true, true, true, true, false, false, false, false, false, false, false, false, false, false, false, false, false, false, false, false, false]) 4 rfl (by kernel_rfl) rfl (notWanted_of rfl rfl hb58) rfl ?_
                refine DL.skipP (listed' := #[true, true, true, true, true, true, true, true, false, false, false, false, false, false, false, false, false, false, false, false, false, false, false, false]) 7 rfl (by kernel_rfl) rfl (notWanted_of rfl rfl hb58) rfl ?_
                refine DL.takeP (listed' := #[true, true, true, true, true, true, true, true, true, false, false, false, false, false, false, false, false, false, false, false, false, false, false, false]) (v := .bool true) 8 rfl rfl (by kernel_rfl) rfl trivial rfl (fun w_ K_ h_ => OpW.pick (b := true) (v := .bool true) (congrArg Value.bool hb58) rfl h_) ?_
                exact hJJ57 _ _ ⟨true, ⟨rfl, e36, e37, e38, e39, e40, e35⟩, hx56, h⟩
              · have h := hc hb58; clear ha hc
                refine DL.takeP (listed' := #[true, true, true, true, false, false, false, false, false, false, false, false, false, false, false, false, false, false, false, false, false, false, false, false]) (v := .pointer x15.1) 3 rfl rfl (by kernel_rfl) rfl (wanted_of rfl rfl hb58) rfl (fun w_ K_ h_ => OpW.move (v := .pointer x15.1) e37 h_) ?_
                refine DL.takeP (listed' := #[true, true, true, true, false, true, false, false, false, false, false, false, false, false, false, false, false, false, false, false, false, false, false, false]) (v := .pointer (some (Addr.add ⟨b30, 0, none⟩ 4))) 5 rfl rfl (by kernel_rfl) rfl (wanted_of rfl rfl hb58) rfl (fun w_ K_ h_ => OpW.fieldAddr field_49_4 e38 h_) ?_
                obtain ⟨x59, h1, h⟩ := h
                refine DL.takeK (listed' := #[true, true, true, true, false, true, true, false, false, false, false, false, false, false, false, false, false, false, false, false, false, false, false, false]) (v := .bool x59) 6 rfl rfl (by kernel_rfl) (by kernel_rfl) rfl (wanted_of rfl rfl hb58) rfl hx56 (fun w_ hS_ K_ h_ => OpW.load1 (v := .bool x59) one_4 rfl (hS_.cell h1) h_) ?_
                refine DL.execS (listed' := #[true, true, true, true, true, true, true, false, false, false, false, false, false, false, false, false, false, false, false, false, false, false, false, false]) 4 rfl (by kernel_rfl) rfl (wanted_of rfl rfl hb58) rfl (OpW.callR (al := [.pointer x15.1]) Try.func38 fb_38 fn_38 rfl h (fun x60 w61 h => ?_))
                obtain ⟨hx62, h⟩ := h
                refine ⟨(fun _ _ => hx62), ?_⟩
                refine DL.takeP (listed' := #[true, true, true, true, true, true, true, true, false, false, false, false, false, false, false, false, false, false, false, false, false, false, false, false]) (v := .bool (!(x60 == x59))) 7 rfl rfl (by kernel_rfl) rfl (wanted_of rfl rfl hb58) rfl (fun w_ K_ h_ => OpW.boolCmp (b := !(x60 == x59)) ub_4 rfl rfl rfl h_) ?_
                refine DL.takeP (listed' := #[true, true, true, true, true, true, true, true, true, false, false, false, false, false, false, false, false, false, false, false, false, false, false, false]) (v := .bool (!(x60 == x59))) 8 rfl rfl (by kernel_rfl) rfl trivial rfl (fun w_ K_ h_ => OpW.pick (b := false) (v := .bool (!(x60 == x59))) (congrArg Value.bool hb58) rfl h_) ?_
                exact hJJ57 _ _ ⟨(!(x60 == x59)), ⟨rfl, e36, e37, e38, e39, e40, e35⟩, hx62, h⟩
          · have h := hc hb41; clear ha hc
            refine CW.exit ?_
            refine CW.seq ?_
            refine CW.region ?_
            refine RL.opS trivial rfl (OpW.move (v := .pointer x15.1) e37 ?_)
            refine RL.opS trivial rfl (OpW.callR (al := [.pointer x15.1]) Try.func27 fb_27 fn_27 rfl h (fun x112 w113 h => ?_))
            refine RL.nil ?_
            refine CW.seq ?_
            refine CW.region ?_
            refine RL.opS trivial rfl (OpW.fieldAddr field_49_4 e38 ?_)
            obtain ⟨u_, h1, h2, h⟩ := h
            obtain ⟨w114, hw114_⟩ : ∃ w_, w_ = w113.setCell (Addr.add ⟨b30, 0, none⟩ 4) (.bool false) := ⟨_, rfl⟩
            have h := h w114 hw114_
            refine RL.opN trivial (OpW.store1E (v := .bool false) size_4 rfl rfl rfl h1 h2 hw114_ ?_)
            refine RL.nil ?_
            refine CW.seq ?_
            refine CW.seq ?_
            refine CW.region ?_
            refine RL.opS trivial rfl (OpW.move (v := .int .i64 p0) e36 ?_)
            refine RL.opS trivial rfl (OpW.move (v := .int .i64 0) rfl ?_)
            refine RL.nil ?_
            refine CW.block ?_
            obtain ⟨I145, mu146, hI, hs⟩ := h
            refine CW.loop (σ := Int) (fun s115 ρ => ρ 82 = .int .i64 s115 ∧ ρ 5 = .pointer x15.1 ∧ ρ 7 = .pointer (some ⟨b30, 0, none⟩) ∧ ρ 81 = .int .i64 p0) I145 mu146 0 ⟨rfl, e37, e38, rfl⟩ hI ?_
            rintro s115 ρ w116 ⟨e118, e119, e120, e121⟩ hI
            have h := hs s115 w116 hI
            clear hs hI
            refine CW.seq ?_
            refine CW.region ?_
            refine RL.opS trivial rfl (OpW.bin (k := .i64) (a := s115) (b := p0) (v := .bool (decide (s115 < p0))) e118 e121 rfl ?_)
            refine RL.nil ?_
            refine CW.seq ?_
            obtain ⟨ha, hc⟩ := h
            refine CW.cond (b := (decide (s115 < p0))) rfl (fun hb122 => ?_) (fun hb122 => ?_)
            · have h := ha hb122; clear ha hc
              refine CW.skip ?_
              refine CW.seq ?_
              refine CW.block ?_
              refine CW.seq ?_
              refine CW.region ?_
              refine RL.opS trivial rfl (OpW.move (v := .int .i64 s115) e118 ?_)
              refine RL.opS trivial rfl (OpW.assign (v := .int .i64 s115) rfl ?_)
              refine RL.nil ?_
              refine CW.seq ?_
              refine CW.region ?_
              refine RL.opS trivial rfl (OpW.move (v := .pointer x15.1) e119 ?_)
              refine RL.opS trivial rfl (OpW.move (v := .int .i64 s115) rfl ?_)
              refine RL.opS trivial rfl (OpW.callR (al := [.pointer x15.1, .int .i64 s115]) Try.func28 fb_28 fn_28 rfl h (fun x123 w124 h => ?_))
              refine RL.opS trivial rfl (OpW.move (v := .tuple #[Sl.v x123.1, .int .i64 x123.2]) rfl ?_)
              refine RL.opS trivial rfl (OpW.extract (v := Sl.v x123.1) rfl rfl ?_)
              refine RL.opS trivial rfl (OpW.extract (v := .int .i64 x123.2) rfl rfl ?_)
              refine RL.opS trivial rfl (OpW.assign (v := Sl.v x123.1) rfl ?_)
              refine RL.opS trivial rfl (OpW.assign (v := .int .i64 x123.2) rfl ?_)
              refine RL.nil ?_
              refine CW.seq ?_
              obtain ⟨w125, hw125_⟩ : ∃ w_, w_ = w124.drew := ⟨_, rfl⟩
              have h := h w125 hw125_
              have hx126 : Ext w124 w125 := by rw [hw125_]; exact Ext.drew _
              refine CW.draws (m := 10) (listed := #[false, false, false, false, false, false, false, false, false, false]) mixed [0, 1, 2, 3, 4, 5, 6, 7, 8, 9] (Ext w124) rfl rfl ?_
              rw [← hw125_]
              refine DL.takeP (listed' := #[true, false, false, false, false, false, false, false, false, false]) (v := .int .i64 x123.2) 0 rfl rfl (by kernel_rfl) rfl trivial rfl (fun w_ K_ h_ => OpW.move (v := .int .i64 x123.2) rfl h_) ?_
              refine DL.takeP (listed' := #[true, true, false, false, false, false, false, false, false, false]) (v := .bool (!decide (x123.2 = 0))) 1 rfl rfl (by kernel_rfl) rfl trivial rfl (fun w_ K_ h_ => OpW.bin (k := .i64) (a := x123.2) (b := 0) (v := .bool (!decide (x123.2 = 0))) rfl rfl rfl h_) ?_
              refine DL.takeP (listed' := #[true, true, true, false, false, false, false, false, false, false]) (v := .bool (!decide (x123.2 = 0))) 2 rfl rfl (by kernel_rfl) rfl trivial rfl (fun w_ K_ h_ => OpW.move (v := .bool (!decide (x123.2 = 0))) rfl h_) ?_
              refine jn_elim h ?_; clear h; intro k143 hk144 h
              refine DL.cut (A := Bool) (fun s134 ρ => ρ 100 = .bool s134 ∧ ρ 5 = .pointer x15.1 ∧ ρ 7 = .pointer (some ⟨b30, 0, none⟩) ∧ ρ 81 = .int .i64 p0 ∧ ρ 82 = .int .i64 s115) k143 0 #[true, true, true, true, true, true, true, true, true, true] ?_ ?_
              · rintro s134 ρ w135 ⟨e137, e138, e139, e140, e141⟩ h
                subst hk144
                refine DL.done (by kernel_rfl) ?_
                obtain ⟨ha, hc⟩ := h
                refine CW.cond (b := s134) e137 (fun hb142 => ?_) (fun hb142 => ?_)
                · have h := ha hb142; clear ha hc
                  refine CW.seq ?_
                  refine CW.region ?_
                  refine RL.opS trivial rfl (OpW.assign (v := .bool false) rfl ?_)
                  refine RL.nil ?_
                  refine CW.ret ?_
                  exact ret_intro (res1 rfl rfl) ⟨false, rfl, h⟩
                · have h := hc hb142; clear ha hc
                  refine CW.skip ?_
                  refine CW.region ?_
                  refine RL.opS trivial rfl (OpW.bin (k := .i64) (a := s115) (b := 1) (v := .int .i64 (IntKind.i64.wrap (s115 + 1))) e141 rfl rfl ?_)
                  refine RL.opS trivial rfl (OpW.move (v := .int .i64 (IntKind.i64.wrap (s115 + 1))) rfl ?_)
                  refine RL.nil ?_
                  exact ⟨(IntKind.i64.wrap (s115 + 1)), ⟨rfl, e138, e139, e140⟩, h⟩
              · intro hJJ127; clear hk144
                obtain ⟨ha, hc⟩ := h
                rcases Bool.eq_false_or_eq_true (!decide (x123.2 = 0)) with hb128 | hb128
                · have h := ha hb128; clear ha hc
                  refine DL.skipP (listed' := #[true, true, true, true, false, false, false, false, false, false]) 3 rfl (by kernel_rfl) rfl (notWanted_of rfl rfl hb128) rfl ?_
                  refine DL.skipP (listed' := #[true, true, true, true, true, false, false, false, false, false]) 4 rfl (by kernel_rfl) rfl (notWanted_of rfl rfl hb128) rfl ?_
                  refine DL.skipP (listed' := #[true, true, true, true, true, true, false, false, false, false]) 5 rfl (by kernel_rfl) rfl (notWanted_of rfl rfl hb128) rfl ?_
                  refine DL.skipP (listed' := #[true, true, true, true, true, true, true, false, false, false]) 6 rfl (by kernel_rfl) rfl (notWanted_of rfl rfl hb128) rfl ?_
                  refine DL.skipX (listed' := #[true, true, true, true, true, true, true, true, false, false]) 7 rfl (by kernel_rfl) rfl (notWanted_of rfl rfl hb128) rfl ?_
                  refine DL.skipP (listed' := #[true, true, true, true, true, true, true, true, true, false]) 8 rfl (by kernel_rfl) rfl (notWanted_of rfl rfl hb128) rfl ?_
                  refine DL.takeP (listed' := #[true, true, true, true, true, true, true, true, true, true]) (v := .bool true) 9 rfl rfl (by kernel_rfl) rfl trivial rfl (fun w_ K_ h_ => OpW.pick (b := true) (v := .bool true) (congrArg Value.bool hb128) rfl h_) ?_
                  exact hJJ127 _ _ ⟨true, ⟨rfl, e119, e120, e121, e118⟩, h⟩
                · have h := hc hb128; clear ha hc
                  refine DL.takeP (listed' := #[true, true, true, true, false, false, false, false, false, false]) (v := Sl.v x123.1) 3 rfl rfl (by kernel_rfl) rfl (wanted_of rfl rfl hb128) rfl (fun w_ K_ h_ => OpW.move (v := Sl.v x123.1) rfl h_) ?_
                  obtain ⟨x129, h1, h2, h⟩ := h
                  refine DL.takeK (listed' := #[true, true, true, true, true, false, false, false, false, false]) (v := str x129) 4 rfl rfl (by kernel_rfl) (by kernel_rfl) rfl (wanted_of rfl rfl hb128) rfl hx126 (fun w_ hS_ K_ h_ => OpW.b2s bsl_39 str_9 rfl h1 (hS_.atO h2) h_) ?_
                  obtain ⟨x130, h1, h2, h⟩ := h
                  refine DL.takeK (listed' := #[true, true, true, true, true, true, false, false, false, false]) (v := aggv x130) 5 rfl rfl (by kernel_rfl) (by kernel_rfl) rfl (wanted_of rfl rfl hb128) rfl hx126 (fun w_ hS_ K_ h_ => OpW.loadA agg_49 e120 h1 (hS_.at h2) h_) ?_
                  refine DL.takeP (listed' := #[true, true, true, true, true, true, true, false, false, false]) (v := .int .i64 s115) 6 rfl rfl (by kernel_rfl) rfl (wanted_of rfl rfl hb128) rfl (fun w_ K_ h_ => OpW.move (v := .int .i64 s115) rfl h_) ?_
                  refine DL.execS (listed' := #[true, true, true, true, true, true, true, true, false, false]) 7 rfl (by kernel_rfl) rfl (wanted_of rfl rfl hb128) rfl (OpW.callR (al := [aggv x130, .int .i64 s115]) Try.func29 fb_29 fn_29 rfl h (fun x131 w132 h => ?_))
                  obtain ⟨hx133, h⟩ := h
                  refine ⟨(fun _ _ => hx133), ?_⟩
                  refine DL.takeP (listed' := #[true, true, true, true, true, true, true, true, true, false]) (v := .bool (!decide (x129 = x131))) 8 rfl rfl (by kernel_rfl) rfl (wanted_of rfl rfl hb128) rfl (fun w_ K_ h_ => OpW.strCmp (b := !decide (x129 = x131)) rfl rfl rfl h_) ?_
                  refine DL.takeP (listed' := #[true, true, true, true, true, true, true, true, true, true]) (v := .bool (!decide (x129 = x131))) 9 rfl rfl (by kernel_rfl) rfl trivial rfl (fun w_ K_ h_ => OpW.pick (b := false) (v := .bool (!decide (x129 = x131))) (congrArg Value.bool hb128) rfl h_) ?_
                  exact hJJ127 _ _ ⟨(!decide (x129 = x131)), ⟨rfl, e119, e120, e121, e118⟩, h⟩
            · have h := hc hb122; clear ha hc
              refine CW.exit ?_
              refine CW.seq ?_
              refine CW.region ?_
              refine RL.opS trivial rfl (OpW.assign (v := .bool true) rfl ?_)
              refine RL.nil ?_
              refine CW.ret ?_
              exact ret_intro (res1 rfl rfl) ⟨true, rfl, h⟩
      · clear hk150
        dsimp only [List.take]
        obtain ⟨ha, hc⟩ := h
        rcases Bool.eq_false_or_eq_true (!decide (x15.2 = 0)) with hb17 | hb17
        · have h := ha hb17; clear ha hc
          refine RL.skipS (notWanted_of rfl rfl hb17) rfl ?_
          refine RL.skipS (notWanted_of rfl rfl hb17) rfl ?_
          refine RL.skipS (notWanted_of rfl rfl hb17) rfl ?_
          refine RL.skipS (notWanted_of rfl rfl hb17) rfl ?_
          refine RL.opS trivial rfl (OpW.pick (b := true) (v := .bool true) (congrArg Value.bool hb17) rfl ?_)
          refine RL.nil ?_
          exact ⟨true, ⟨rfl, e10, e11, rfl⟩, h⟩
        · have h := hc hb17; clear ha hc
          refine RL.opS (wanted_of rfl rfl hb17) rfl (OpW.move (v := .pointer x15.1) rfl ?_)
          refine RL.opS (wanted_of rfl rfl hb17) rfl (OpW.callR (al := [.pointer x15.1]) Try.func39 fb_39 fn_39 rfl h (fun x19 w20 h => ?_))
          refine RL.opS (wanted_of rfl rfl hb17) rfl (OpW.move (v := .int .i64 p0) e10 ?_)
          refine RL.opS (wanted_of rfl rfl hb17) rfl (OpW.bin (k := .i64) (a := x19) (b := p0) (v := .bool (!decide (x19 = p0))) rfl rfl rfl ?_)
          refine RL.opS trivial rfl (OpW.pick (b := false) (v := .bool (!decide (x19 = p0))) (congrArg Value.bool hb17) rfl ?_)
          refine RL.nil ?_
          exact ⟨(!decide (x19 = p0)), ⟨rfl, e10, e11, rfl⟩, h⟩
  · clear hk152
    dsimp only [List.take]
    obtain ⟨ha, hc⟩ := h
    rcases Bool.eq_false_or_eq_true (!x1) with hb3 | hb3
    · have h := ha hb3; clear ha hc
      refine RL.skipS (notWanted_of rfl rfl hb3) rfl ?_
      refine RL.skipS (notWanted_of rfl rfl hb3) rfl ?_
      refine RL.skipS (notWanted_of rfl rfl hb3) rfl ?_
      refine RL.skipS (notWanted_of rfl rfl hb3) rfl ?_
      refine RL.opS trivial rfl (OpW.pick (b := true) (v := .bool true) (congrArg Value.bool hb3) rfl ?_)
      refine RL.nil ?_
      exact ⟨true, ⟨rfl, rfl, rfl⟩, h⟩
    · have h := hc hb3; clear ha hc
      refine RL.opS (wanted_of rfl rfl hb3) rfl (OpW.move (v := .int .i64 p0) rfl ?_)
      refine RL.opS (wanted_of rfl rfl hb3) rfl (OpW.move (v := Sl.v p1) rfl ?_)
      refine RL.opS (wanted_of rfl rfl hb3) rfl (OpW.callR (al := [.int .i64 p0, Sl.v p1]) Try.func31 fb_31 fn_31 rfl h (fun x5 w6 h => ?_))
      refine RL.opS (wanted_of rfl rfl hb3) rfl (OpW.not rfl ?_)
      refine RL.opS trivial rfl (OpW.pick (b := false) (v := .bool (!x5)) (congrArg Value.bool hb3) rfl ?_)
      refine RL.nil ?_
      exact ⟨(!x5), ⟨rfl, rfl, rfl⟩, h⟩
end Go.Proofs.Ytagkcbbbdlmcjaa
end
section
/- DiskPlays: whatever is done with a disk, with falls at any change: each answer, and every block, is the document's: the law answers true and leaves all that was there. -/
set_option linter.unusedVariables false
set_option linter.unusedSimpArgs false
namespace Go.Proofs.Ytagkcbbbdlmcjaa
open Go.Lift Go.Lift.Disk Go.RowKit
theorem read_up' {w : World} {base : Nat → Prop} {pd bb : Nat} {D : Dk} (h : DAt w base pd bb D) (hd : D.down = false) {i : Nat} (hi : i < D.bl.length) :
    Calls Try.prog 28 #[.pointer (dp pd), .int .i64 (i : Int)] w (Ret r28 fun x w' => Ext w w' ∧ x.2 = 0 ∧ Bytes w' x.1 (bAt D.bl i).1) := by
  have hwhy : D.why (i : Int) = 0 := by
    unfold Dk.why
    rw [if_neg (by rw [hd]; simp), if_neg (by omega)]
  refine Ret.mono (read_ok h (i : Int)) ?_
  rintro x w' ⟨hx, hr⟩
  rcases hr with ⟨hr, _⟩ | ⟨_, hr1, hr2⟩
  · exact absurd hwhy hr
  · rw [Int.toNat_natCast] at hr2
    exact ⟨hx, hr1, hr2.bytes⟩
theorem far_falls {w : World} {B : Nat → Prop} {s : Sl} {l : List Fall} (h : FallsAt w s l) (hB : ∀ k, k < w.heap.size → B k) : Far B s := by
  have h1 : Far (fun _ => True) s := fun _ _ _ => trivial
  refine h1.mono h.cells ?_ fun k hk _ => hB k hk
  intro h0 e
  have h3 := congrArg List.length e
  have h4 := h.len
  rw [fallC_len] at h3
  simp only [List.length_nil] at h3
  omega
theorem diskPlays_ok (w : World) (n0 : Int) (_hw0 : (Lit.int .i64 n0).wf = true) (p : Sl) (l1 : List OpA) (h1 : OpsAt w p l1) (hlc1 : p.len ≤ p.cap) (hcm1 : p.cap ≤ maxLen) :
    Calls Try.prog 8 #[.int .i64 n0, p.v] w (Ret r8 fun x w' => x = true ∧ Ext w w') := by
  apply s8_calls
  refine cR_of (lives3_ok w) ?_
  rintro x1 w2 ⟨rfl, hx2⟩
  refine jn_of fun k1 hk1 => ⟨fun h => absurd h (by decide), fun _ => ?_⟩
  refine cR_of (fits_ok w2 n0 p l1 (h1.ext hx2) (Nat.le_trans hlc1 hcm1)) ?_
  rintro x5 w8 ⟨hfit, hx8⟩
  have hxw8 := hx2.trans hx8
  rw [hk1]
  refine ⟨fun _ => cR_of (lives3_ok w8) fun x w' ⟨hx, hw⟩ => ⟨hx, hxw8.trans hw⟩, fun hf5 => ?_⟩
  obtain ⟨hn1, hn12, hl60, hall⟩ := hfit (by simpa using hf5)
  obtain ⟨n, rfl⟩ := Int.eq_ofNat_of_zero_le (show 0 ≤ n0 by omega)
  refine cR_of (new_ok w8 n (by omega) (by omega)) ?_
  rintro x15 w16 ⟨pd, bb, rfl, h16, hx16⟩
  obtain ⟨hpd, hbb, hpdl, hbbl⟩ := h16.lt
  have hpd : w8.heap.size ≤ pd := hpd
  have hbb : w8.heap.size ≤ bb := hbb
  refine jn_of fun k2 hk2 => ⟨fun h => absurd h (by simp), fun _ => ?_⟩
  refine cR_of (blocks_ok h16) ?_
  rintro x19 w20 ⟨rfl, rfl⟩
  have hfl : (fresh n).bl.length = n := by simp [fresh]
  rw [hfl, hk2]
  refine ⟨fun h => absurd h (by simp), fun _ => ?_⟩
  obtain ⟨B, hBd⟩ : ∃ B : Nat → Prop, B = fun k => ¬ Foot pd bb k := ⟨_, rfl⟩
  have hBF : ∀ k, B k → ¬ Foot pd bb k := fun k hk => by rw [hBd] at hk; exact hk
  have hBn : ∀ {w' : World}, w16.heap.size ≤ w'.heap.size → ∀ k, w'.heap.size ≤ k → B k := by
    intro w' hs k hk
    rw [hBd]
    rintro (e | e) <;> omega
  have hBlow : ∀ k, k < w.heap.size → B k := by
    intro k hk
    have := hxw8.size
    rw [hBd]
    rintro (e | e) <;> omega
  refine cR_of (rnew_ok (B := B) w16 (hBn (Nat.le_refl _)) n (by omega)) ?_
  rintro x28 w29 ⟨hA29, hx29⟩
  refine ⟨hA29.len, hA29.one, fun b30 w31 hb30 hw31 => ?_⟩
  have hx31 : Ext w29 w31 := Ext.new hw31
  have hB31 : Blk w31 b30 49 x28 := Blk.new hb30 hw31
  have hx29' := hx29.trans hx31
  have hx31' := hx16.trans hx29'
  have hb8 : w8.heap.size ≤ b30 := by rw [hb30]; exact (hx16.trans hx29).size
  have hb16 : w16.heap.size ≤ b30 := by rw [hb30]; exact hx29.size
  have h31 : DAt w31 (fun k => Up w8.heap.size k ∧ k ≠ b30) pd bb (fresh n) := (h16.mono (base' := fun k => Up w8.heap.size k ∧ k ≠ b30) fun k hk hu => ⟨hu, by omega⟩).ext hx29'
  have hp1 := h1.len
  have hlt31 : b30 < w31.heap.size := hB31.lt
  refine ⟨fun s w' => ∃ (k : Nat) (D : Dk) (cs : List Value), k ≤ l1.length ∧ s = (k : Int) ∧ DAt w' (fun k => Up w8.heap.size k ∧ k ≠ b30) pd bb D ∧ RAt w' B cs D ∧ Blk w' b30 49 cs ∧ Play n k D ∧ Ext w8 w' ∧ w31.heap.size ≤ w'.heap.size,
    fun s _ => l1.length - s.toNat, ⟨0, fresh n, x28, Nat.zero_le _, rfl, h31, hA29.ext hx31, hB31, play_fresh n, hx31', Nat.le_refl _⟩, ?_⟩
  rintro s w33 ⟨k, D, cs, hk, rfl, hD, hA, hB, hP, hx33, hs33⟩
  have hx33w := hxw8.trans hx33
  refine ⟨fun hlt => ?_, fun hge => ?_⟩
  · have hkl : k < l1.length := by have := of_decide_eq_true hlt; omega
    obtain ⟨a, ha, hat⟩ := (h1.ext hx33w).get hkl
    refine ⟨a, _, ha, by omega, by omega, rfl, ?_⟩
    rw [Int.toNat_natCast]
    refine ⟨_, rfl, hat, rfl, opCells_one _, fun b45 w46 hb45 hw46 => ?_⟩
    have hx46 : Ext w33 w46 := Ext.new hw46
    have hBo : Blk w46 b45 65 l1[k].cells := Blk.new hb45 hw46
    have hB46 := hB.ext hx46
    have hx46w := hx33w.trans hx46
    refine ⟨cs, hA.len, hB46.at (by rw [List.drop_zero, List.take_length]), l1[k].cells, rfl, hBo.at rfl, ?_⟩
    have ho := h1.ok _ (List.getElem_mem hkl)
    have ho46 := (h1.ext hx46w).ok _ (List.getElem_mem hkl)
    have hs46 := hx46.size
    refine cR_of (play_ok (hD.ext hx46) (fun k hk => ⟨Nat.le_trans (hx33.trans hx46).size hk, by omega⟩) hBF (hBn (Nat.le_trans hx29'.size (Nat.le_trans hs33 hs46))) cs (hA.ext hx46) hP (by omega) l1[k] ho46 (hall _ (List.getElem_mem hkl)).2 (far_falls ho.falls hBlow)) ?_
    rintro ⟨cs2, e2⟩ w50 ⟨he2, D', hD50, hA50, hP', hf50⟩
    simp only at he2 hA50
    subst he2
    refine ⟨hA50.len, hA50.one, fun b51 w52 hb51 hw52 => ?_⟩
    have hx52 : Ext w50 w52 := Ext.new hw52
    have hB51 : Blk w52 b51 49 cs2 := Blk.new hb51 hw52
    refine ⟨cs2, hA50.len, hB51.at (by rw [List.drop_zero, List.take_length]), ?_⟩
    have hb30n : ¬ Foot pd bb b30 := by rintro (e | e) <;> omega
    have hB52 := (hB46.fr hf50 hb30n).ext hx52
    obtain ⟨ss0, sp0, sf0, hcs0, _⟩ := id hA
    rw [hcs0] at hB52
    refine put_ans (hA50.ext hx52) hB52 fun w54 hA54 hB54 hf54 => ?_
    have hD54 := (hD50.ext hx52).fr hf54 fun k hk e => hk.2 e
    have hx52' : Ext w8 w52 := (footExt hf50 (hx33.trans hx46) hpd hbb).trans hx52
    have hx54 : Ext w8 w54 := hf54.ext hx52' fun k _ e => by rw [e]; exact hb8
    obtain ⟨ss, sp, sf, hcs, hRX⟩ := id hA54
    intro w55 hw55
    have hx55 : Ext w54 w55 := by subst hw55; exact Ext.drew _
    refine jn_of fun k3 hk3 => ⟨fun h => absurd h (by simp), fun _ => ?_⟩
    rw [hcs] at hB54
    refine ⟨D'.down, by rw [add_plain]; exact hB54.cell rfl, ?_⟩
    refine cR_of (down_ok (hD54.ext hx55)) ?_
    rintro x60 w61 ⟨rfl, rfl⟩
    refine ⟨hx55, ?_⟩
    rw [show (!(D'.down == D'.down)) = false by simp, hk3]
    refine jn_of fun k4 hk4 => ⟨fun h => absurd h (by simp), fun _ => ?_⟩
    refine ⟨sp, by rw [add_plain]; exact hB54.cell rfl, ?_⟩
    refine cR_of (pending_ok (hD54.ext hx55)) ?_
    rintro x76 w77 ⟨rfl, rfl⟩
    refine ⟨hx55, ?_⟩
    have hpl := hRX.pend.len
    rw [show (!decide ((D'.pend.length : Int) = (sp.len : Int))) = false by simp [hpl], hk4]
    refine jn_of fun k5 hk5 => ⟨fun h => absurd h (by simp), fun _ => ?_⟩
    refine ⟨(D'.changes : Int), by rw [add_plain]; exact hB54.cell rfl, ?_⟩
    refine cR_of (changes_ok (hD54.ext hx55)) ?_
    rintro x92 w93 ⟨rfl, rfl⟩
    refine ⟨hx55, ?_⟩
    rw [show (!decide ((D'.changes : Int) = (D'.changes : Int))) = false by simp, hk5]
    refine ⟨fun h => absurd h (by simp), fun _ => ?_⟩
    rw [w64_eq (by omega) (by omega)]
    refine ⟨⟨k + 1, D', cs2, by omega, by omega, hD54.ext hx55, hA54.ext hx55, by rw [hcs]; exact hB54.ext hx55, hP', hx54.trans hx55, ?_⟩, by simp only; omega⟩
    have := hf50.size; have := hx52.size; have := hf54.size; have := hx55.size
    omega
  · refine cR_of (up_ok hD) ?_
    rintro x112 w113 ⟨_, h113, hf113⟩
    have hb30n : ¬ Foot pd bb b30 := by rintro (e | e) <;> omega
    have hB113 := hB.fr hf113 hb30n
    have hA113 := hA.foot hf113 hBF
    obtain ⟨ss0, sp0, sf0, hcs0, _⟩ := id hA113
    rw [hcs0] at hB113
    show st1 _ _ _ _
    rw [add_plain]
    refine st1_blk hB113 (by simp) fun w114 hB114 hf114 => ?_
    have hA114 := hA113.fr hB113 hf114
    obtain ⟨ss, sp, sf, hcs, hRX⟩ := hA114
    have hB114 : Blk w114 b30 49 (rc ss sp sf D.changes false) := by
      have e : rc ss0 sp0 sf0 D.changes D.down = rc ss sp sf D.changes D.down := hcs0.symm.trans hcs
      have e2 := congrArg (fun l => l.set 4 (Value.bool false)) e
      have e3 : (rc ss sp sf D.changes D.down).set 4 (Value.bool false) = rc ss sp sf D.changes false := rfl
      rw [← e3, ← e2]
      exact hB114
    have hU : RAt w114 B (rc ss sp sf D.changes false) D.up := ⟨ss, sp, sf, rfl, ⟨hRX.sure, hRX.pend, hRX.falls, hRX.f1, hRX.f2, hRX.f3⟩⟩
    have hx114 : Ext w8 w114 := hf114.ext (footExt hf113 hx33 hpd hbb) fun k _ e => by rw [e]; exact hb8
    have hD114 := h113.fr hf114 fun k hk e => hk.2 e
    have hlen := hP.len
    refine ⟨fun st w' => ∃ i : Nat, i ≤ n ∧ st = (i : Int) ∧ Ext w114 w', fun st _ => n - st.toNat, ⟨0, Nat.zero_le _, rfl, Ext.refl _⟩, ?_⟩
    rintro st w116 ⟨i, hi, rfl, hx116⟩
    refine ⟨fun hlt => ?_, fun _ => ⟨rfl, (hxw8.trans hx114).trans hx116⟩⟩
    have hlt : i < n := by have := of_decide_eq_true hlt; omega
    refine cR_of (read_up' (hD114.ext hx116) rfl (i := i) (by show i < D.bl.length; omega)) ?_
    rintro x123 w124 ⟨hx124, he, hb⟩
    intro w125 hw125
    have hx125 : Ext w124 w125 := by subst hw125; exact Ext.drew _
    refine jn_of fun k3 hk3 => ?_
    rw [he]
    refine ⟨fun h => absurd h (by simp), fun _ => ?_⟩
    have hx124' := hx116.trans hx124
    refine ⟨_, hb.1, hb.2, rc ss sp sf D.changes false, rfl, (hB114.ext hx124').at rfl, ?_⟩
    refine cR_of (now_ok w125 _ D.up (hU.ext (hx124'.trans hx125)) (by show D.pend.length ≤ _; have := hP.pend; omega) i (by show i < D.bl.length; omega)) ?_
    rintro x131 w132 ⟨rfl, hx132⟩
    refine ⟨hx125.trans hx132, ?_⟩
    have e : (bAt D.up.bl i).1 = lastOf D.up.pend i (bAt D.up.bl i).2 := hP.now i hlt
    rw [e, hk3]
    refine ⟨fun h => absurd h (by simp), fun _ => ?_⟩
    rw [w64_eq (by omega) (by omega)]
    exact ⟨⟨i + 1, by omega, by omega, (hx124'.trans hx125).trans hx132⟩, by simp only; omega⟩
end Go.Proofs.Ytagkcbbbdlmcjaa
end
