/- Parts of a proof, one behind the other: readings of functions, what they do, and what follows. -/
import Derived.Test.YtagkcbbbdlmcjaaMWR4
section
/- The journal's own trial at the head of each law; scripts of a size. -/
set_option linter.unusedVariables false
set_option linter.unusedSimpArgs false
namespace Go.Proofs.Ytagkcbbbdlmcjaa
open Go.Lift Go.Lift.Disk Go.Lift.Crc Go.Lift.Wal Go.RowKit
/-- a journal's struct, whatever its disk does -/
def LogAt (w : World) (pd pl frm room : Nat) (L : Lg) : Prop := ∃ sd : Sl, Blk w pl 95 (logC pd frm room L.seq sd L.count L.broken) ∧ sd.len = L.data.length ∧ LgWf L frm room
section
variable {w w' : World} {lo : Nat → Prop} {pd bb pl frm room : Nat} {D : Dk} {L : Lg}
theorem WAt.log (h : WAt w lo pd bb pl frm room D L) : LogAt w pd pl frm room L := by
  obtain ⟨g, sd, h⟩ := h
  exact ⟨sd, h.log, h.data.1.symm, h.wf⟩
theorem LogAt.fr {X : Nat → Prop} (h : LogAt w pd pl frm room L) (hf : Fr X w w') (hX : ¬ X pl) : LogAt w' pd pl frm room L := by
  obtain ⟨sd, h1, h2⟩ := h
  exact ⟨sd, h1.fr hf hX, h2⟩
theorem LogAt.ext (h : LogAt w pd pl frm room L) (hx : Ext w w') : LogAt w' pd pl frm room L := h.fr (X := fun _ => False) (Fr.of hx) fun h => h
theorem room_ok2 (h : LogAt w pd pl frm room L) : Calls Try.prog 17 #[.pointer (lp pl)] w (Ret r17 fun x w' => x = (room : Int) - (L.data.length : Int) ∧ Ext w w') := by
  obtain ⟨sd, h1, h2, h3⟩ := h
  apply s17_calls
  refine ⟨fun h => absurd h (by simp), fun _ => ?_⟩
  intro w2 hw2
  have hx2 : Ext w w2 := by subst hw2; exact Ext.drew _
  refine ⟨_, rfl, (room : Int), by rw [add_plain]; exact h1.cell rfl, _, rfl, sd, by rw [add_plain]; exact h1.cell rfl, ?_, hx2⟩
  have h4 := h3.hroom
  have h5 := h3.hdata
  rw [w64_eq (by omega) (by omega)]
  omega
theorem len_ok2 (h : LogAt w pd pl frm room L) : Calls Try.prog 22 #[.pointer (lp pl)] w (Ret r22 fun x w' => x = (L.count : Int) ∧ w = w') := by
  obtain ⟨sd, h1, h2, h3⟩ := h
  apply s22_calls
  refine ⟨fun h => absurd h (by simp), fun _ => ?_⟩
  exact ⟨_, rfl, (L.count : Int), by rw [add_plain]; exact h1.cell rfl, rfl, rfl⟩
theorem broken_ok2 (h : LogAt w pd pl frm room L) : Calls Try.prog 46 #[.pointer (lp pl)] w (Ret r46 fun x w' => x = L.broken ∧ w = w') := by
  obtain ⟨sd, h1, h2, h3⟩ := h
  apply s46_calls
  refine jn_of fun k hk => ⟨fun h => absurd h (by simp), fun _ => ?_⟩
  refine ⟨_, rfl, L.broken, by rw [add_plain]; exact h1.cell rfl, ?_⟩
  rw [hk]
  exact ⟨rfl, rfl⟩
theorem wfootExt {w0 : World} (hf : Fr (WFoot pd bb pl) w w') (hx : Ext w0 w) (h1 : w0.heap.size ≤ pd) (h2 : w0.heap.size ≤ bb) (h3 : w0.heap.size ≤ pl) : Ext w0 w' :=
  hf.ext hx fun k _ hk => by
    rcases hk with (e | e) | e <;> rw [e] <;> assumption
end
theorem open_fresh {D : Dk} {frm room : Nat} (h0 : D.down = false) (h1 : (headOf D frm room).1 = 0) (h2 : (headW D frm 1 0).2 = 0) : openD D frm room = ((headW D frm 1 0).1, .is ⟨1, [], 0, false⟩ []) := by
  unfold openD
  rw [if_neg (by rw [h0]; simp), if_pos h1, if_pos h2]
theorem open_found {D : Dk} {frm room sq n : Nat} {A : List UInt8} {rs : List (List UInt8)} (h0 : D.down = false) (h1 : headOf D frm room = (sq, n)) (hs : sq ≠ 0) (h2 : dataOf D frm n = A) (h3 : parse A = (rs, 0)) : openD D frm room = (D, .is ⟨sq, A, rs.length, false⟩ rs) := by
  unfold openD
  rw [if_neg (by rw [h0]; simp), h1]
  simp only
  rw [if_neg hs, h2, h3]
  rfl
theorem add_done {D : Dk} {L : Lg} {frm room : Nat} {l : List (List UInt8)} {A : List UInt8} (hb : L.broken = false) (hl : l ≠ []) (hg : gather l room L.data = some A) (hs : L.seq ≠ last)
    (he : (addHead (layF (A.length / 512 + 1) D frm A (L.data.length / 512)) frm (L.seq + 1) A.length).2 = 0) :
    addD D L frm room l = ((addHead (layF (A.length / 512 + 1) D frm A (L.data.length / 512)) frm (L.seq + 1) A.length).1, ⟨L.seq + 1, A, L.count + l.length, false⟩, 0) := by
  unfold addD
  rw [if_neg (by rw [hb]; simp), if_neg hl, hg]
  simp only
  rw [if_neg hs, if_pos he]
def wvA : List UInt8 := frameB [97, 98] ++ frameB []
theorem wv_gather : gather [[97, 98], []] 512 [] = some wvA := by decide +kernel
def wvD1 : Dk := (headW (fresh 4) 1 1 0).1
theorem wv_head0 : (headOf (fresh 4) 1 512).1 = 0 := by decide +kernel
theorem wv_e1 : (headW (fresh 4) 1 1 0).2 = 0 := by decide +kernel
def wvR : Dk × Int := addHead (layF (wvA.length / 512 + 1) wvD1 1 wvA 0) 1 2 wvA.length
theorem wv_e2 : wvR.2 = 0 := by decide +kernel
theorem wv_down : wvR.1.down = false := by decide +kernel
theorem wv_head : headOf wvR.1 1 512 = (2, 12) := by decide +kernel
theorem wv_data : dataOf wvR.1 1 12 = wvA := by decide +kernel
theorem wv_parse : parse wvA = ([[97, 98], []], 0) := by decide +kernel
theorem wv_len : wvA.length = 12 := by decide +kernel
theorem wv_b0 : Bnd (fresh 4) 2 := by unfold Bnd; decide +kernel
theorem wv_b1 : Bnd wvD1 5000 := by unfold Bnd; decide +kernel
theorem wv_b2 : Bnd wvR.1 2 := by unfold Bnd; decide +kernel
theorem wv_open1 : openD (fresh 4) 1 (roomOf 3) = (wvD1, .is ⟨1, [], 0, false⟩ []) := open_fresh rfl wv_head0 wv_e1
theorem wv_add : addD wvD1 ⟨1, [], 0, false⟩ 1 (roomOf 3) [[97, 98], []] = (wvR.1, ⟨2, wvA, 2, false⟩, 0) := add_done rfl (by simp) wv_gather (by decide) wv_e2
theorem wv_open2 : openD wvR.1 1 (roomOf 3) = (wvR.1, .is ⟨2, wvA, 2, false⟩ [[97, 98], []]) := open_found wv_down wv_head (by decide) wv_data wv_parse
theorem addD_bl (D : Dk) : wvR.1.bl.length = 4 := by decide +kernel
theorem lives4_ok (w : World) : Calls Try.prog 13 #[] w (Ret r13 fun x w' => x = true ∧ Ext w w') := by
  apply s13_calls
  refine cR_of (new_ok w 4 (by decide) (by decide)) ?_
  rintro x1 w2 ⟨pd, bb, rfl, h2, hx2⟩
  obtain ⟨hpd, hbb, _, _⟩ := h2.lt
  have hpd : w.heap.size ≤ pd := hpd
  have hbb : w.heap.size ≤ bb := hbb
  have ho := open_ok h2 (upB hx2.size) 1 3 (by decide) (by simp [fresh]) wv_b0
  rw [wv_open1] at ho
  refine cR_of ho ?_
  rintro ⟨x3a, x3b, x3c⟩ w4 ⟨pl, e1, hpl, e2, hrs, hW, hf4⟩
  simp only at e1 e2 hrs
  subst e1; subst e2
  have hx4 := footExt hf4 hx2 hpd hbb
  have hplw : w.heap.size ≤ pl := Nat.le_trans hx2.size hpl
  have hrl := hrs.len
  have hrl : x3b.len = 0 := hrl
  refine jn_of fun k1 hk1 => ⟨fun h => absurd h (by simp), fun _ => ?_⟩
  simp only
  rw [hrl, hk1]
  refine jn_of fun k2 hk2 => ⟨fun h => absurd h (by simp), fun _ => ?_⟩
  rw [hk2]
  refine jn_of fun k3 hk3 => ⟨fun h => absurd h (by simp), fun _ => ?_⟩
  intro b22 w23 hb22 hw23
  refine ⟨b22, 0, _, 5, (0, 0), rfl, by rw [hb22, hw23]; exact heap_new _ _, ?_⟩
  intro w24 hw24
  obtain ⟨hA, hx24⟩ := at_frozen_new hb22 hw23 hw24
  intro b25 w26 hb25 hw26
  have hx26 : Ext w24 w26 := Ext.new hw26
  have hx26' := hx24.trans hx26
  have hp : Parts w26 ⟨some ⟨b25, 0, none⟩, 2, 2⟩ [[97, 98], []] := by
    refine ⟨[⟨some ⟨b22, 0, none⟩, 2, 2⟩, nilSl], rfl, rfl, At.new hb25 hw26, ?_⟩
    intro k s c hs hc
    rcases k with _ | _ | k
    · simp at hs hc
      subst hs; subst hc
      exact ⟨rfl, hx26.at hA⟩
    · simp at hs hc
      subst hs; subst hc
      exact ⟨rfl, rfl⟩
    · simp at hs
  have ha := add_ok (hW.ext hx26') (upB (hx4.trans hx26').size) wv_b1 _ _ hp (by decide) (by decide)
  rw [wv_add] at ha
  refine cR_of ha ?_
  rintro x27 w28 ⟨rfl, hW28, hf28⟩
  have hx28 := wfootExt hf28 (hx4.trans hx26') hpd hbb hplw
  rw [hk3]
  refine ⟨fun h => absurd h (by simp), fun _ => ?_⟩
  have ho2 := open_ok hW28.disk (upB hx28.size) 1 3 (by decide) (by show 1 + 3 ≤ wvR.1.bl.length; rw [addD_bl wvD1]; decide) wv_b2
  have e3 : openD (wvR.1, (⟨2, wvA, 2, false⟩ : Lg), (0 : Int)).1 1 (roomOf 3) = (wvR.1, .is ⟨2, wvA, 2, false⟩ [[97, 98], []]) := wv_open2
  rw [e3] at ho2
  obtain ⟨_, _, _, hpll, hpdl, hbbl⟩ := hW28.lt
  have hLog := hW28.log
  have hpln : ¬ Foot pd bb pl := by
    obtain ⟨g, sd, hX⟩ := hW28
    exact hX.lt.2.2.2.1
  refine cR_of ho2 ?_
  rintro ⟨x35a, x35b, x35c⟩ w36 ⟨pl2, e1, hpl2, e2, hrs2, hW2, hf36⟩
  simp only at e1 e2 hrs2
  subst e1; subst e2
  have hx36 := footExt hf36 hx28 hpd hbb
  have hLog36 := hLog.fr hf36 hpln
  have hp2 := hrs2.parts
  have hrl2 := hrs2.len
  have hrl2 : x35b.len = 2 := hrl2
  refine jn_of fun k4 hk4 => ⟨fun _ => ?_, fun h => absurd h (by simp)⟩
  simp only
  rw [hrl2, hk4]
  refine jn_of fun k5 hk5 => ⟨fun _ => ?_, fun h => absurd h (by simp)⟩
  obtain ⟨a, s, ha', hc, hb⟩ := hp2.get (k := 0) (by decide)
  refine ⟨a, _, ha', by decide, by simp only; omega, rfl, s, hc, _, hb.1, hb.2, ?_⟩
  rw [hk5]
  refine jn_of fun k6 hk6 => ⟨fun _ => ?_, fun h => absurd h (by simp)⟩
  obtain ⟨a, s, ha', hc, hb⟩ := hp2.get (k := 1) (by decide)
  have hsl : s.len = 0 := hb.1.symm
  refine ⟨a, _, ha', by decide, by simp only; omega, rfl, s, hc, ?_⟩
  show k6 _ _
  rw [hsl, hk6]
  refine jn_of fun k7 hk7 => ⟨fun _ => ?_, fun h => absurd h (by simp)⟩
  refine cR_of (room_ok2 hLog36) ?_
  rintro x66 w67 ⟨rfl, hx67⟩
  have e5 : ((roomOf 3 : Nat) : Int) - (((wvR.1, (⟨2, wvA, 2, false⟩ : Lg), (0 : Int)).2.1.data.length : Nat) : Int) = 500 := by
    show ((512 : Nat) : Int) - ((wvA.length : Nat) : Int) = 500
    rw [wv_len]; rfl
  rw [e5, hk7]
  refine jn_of fun k8 hk8 => ⟨fun _ => ?_, fun h => absurd h (by simp)⟩
  refine cR_of (len_ok2 (hLog36.ext hx67)) ?_
  rintro x74 w75 ⟨rfl, rfl⟩
  rw [hk8]
  exact ⟨rfl, hx36.trans hx67⟩

/-! ### scripts -/
structure OpJ where
  kind : Int
  ts : Sl
  texts : List (List UInt8)
  fall : Fall
def OpJ.cells (o : OpJ) : List Value := [.int .i64 o.kind, o.ts.v, .int .i64 o.fall.1, .int .u64 o.fall.2.1, .int .i64 o.fall.2.2]
structure OpJ.Ok (w : World) (o : OpJ) : Prop where
  texts : Parts w o.ts o.texts
  keep : 0 ≤ o.fall.2.1 ∧ o.fall.2.1 < 18446744073709551616
structure OpsJ (w : World) (s : Sl) (l : List OpJ) : Prop where
  len : s.len = l.length
  cells : AtO w s.a (l.flatMap OpJ.cells)
  ok : ∀ o ∈ l, o.Ok w
theorem OpJ.Ok.ext {w w' : World} {o : OpJ} (h : o.Ok w) (hx : Ext w w') : o.Ok w' := ⟨h.texts.ext hx, h.keep⟩
theorem OpsJ.ext {w w' : World} {s : Sl} {l : List OpJ} (h : OpsJ w s l) (hx : Ext w w') : OpsJ w' s l := ⟨h.len, Ext.atO hx h.cells, fun o ho => (h.ok o ho).ext hx⟩
theorem OpsJ.get {w : World} {s : Sl} {l : List OpJ} (h : OpsJ w s l) {k : Nat} (hk : k < l.length) : ∃ a, s.a = some a ∧ At w (a.add (k * 5)) l[k].cells := by
  have e := flatMap_at OpJ.cells (n := 5) (fun _ => rfl) l k hk
  have hl : k * 5 < (l.flatMap OpJ.cells).length := by
    rw [flatMap_len OpJ.cells (n := 5) (fun _ => rfl)]; omega
  obtain ⟨a, ha, _⟩ := h.cells.some_of (List.getElem?_eq_getElem hl)
  have hc := h.cells
  rw [ha] at hc
  refine ⟨a, ha, ?_⟩
  rw [← e]
  exact At.sub hc _ _
theorem opj_one (o : OpJ) : ∀ v ∈ o.cells, v.oneCell' = true := by
  intro v hv
  simp only [OpJ.cells, List.mem_cons, List.not_mem_nil, or_false] at hv
  rcases hv with rfl | rfl | rfl | rfl | rfl <;> rfl
def FitsJ (n : Int) (l : List OpJ) : Prop := 3 ≤ n ∧ n ≤ 7 ∧ l.length ≤ 30 ∧ ∀ o ∈ l, o.texts.length ≤ 6 ∧ ∀ s ∈ o.texts, s.length ≤ 3000
theorem fits4_ok (w : World) (n : Int) (p : Sl) (l : List OpJ) (h : OpsJ w p l) : Calls Try.prog 14 #[.int .i64 n, p.v] w (Ret r14 fun x w' => (x = true → FitsJ n l) ∧ Ext w w') := by
  apply s14_calls
  have hpl := h.len
  refine jn_of fun k1 hk1 => ?_
  have key1 : ∀ b : Bool, (b = false → 3 ≤ n ∧ n ≤ 7) → k1 b w := by
    intro b hb
    rw [hk1]
    refine jn_of fun k2 hk2 => ?_
    have key2 : ∀ b2 : Bool, (b2 = false → 3 ≤ n ∧ n ≤ 7 ∧ l.length ≤ 30) → k2 b2 w := by
      intro b2 hb2
      rw [hk2]
      refine ⟨fun _ => ⟨fun h => absurd h (by decide), Ext.refl _⟩, fun hf => ?_⟩
      obtain ⟨h1, h2, h3⟩ := hb2 hf
      refine ⟨fun st w' => ∃ k : Nat, k ≤ l.length ∧ st = (k : Int) ∧ Ext w w' ∧ ∀ o ∈ l.take k, o.texts.length ≤ 6 ∧ ∀ s ∈ o.texts, s.length ≤ 3000, fun st _ => l.length - st.toNat, ⟨0, Nat.zero_le _, rfl, Ext.refl _, by simp⟩, ?_⟩
      rintro st w15 ⟨k, hk, rfl, hx, hall⟩
      refine ⟨fun hlt => ?_, fun hge => ?_⟩
      · have hkl : k < l.length := by have := of_decide_eq_true hlt; omega
        obtain ⟨a, ha, hat⟩ := (h.ext hx).get hkl
        refine ⟨a, _, ha, by omega, by omega, rfl, ?_⟩
        rw [Int.toNat_natCast]
        refine ⟨_, rfl, hat, rfl, opj_one _, fun b24 w25 hb24 hw25 => ?_⟩
        have hx25 : Ext w15 w25 := Ext.new hw25
        have hB : Blk w25 b24 29 l[k].cells := Blk.new hb24 hw25
        have hp := ((h.ext (hx.trans hx25)).ok _ (List.getElem_mem hkl)).texts
        have htl := hp.len
        refine ⟨l[k].ts, by rw [add_plain]; exact hB.cell rfl, ?_⟩
        refine ⟨fun _ => ⟨fun h => absurd h (by decide), hx.trans hx25⟩, fun h6 => ?_⟩
        have h6 := of_decide_eq_false h6
        refine ⟨l[k].ts, by rw [add_plain]; exact hB.cell rfl, ?_⟩
        refine ⟨fun st w' => ∃ j : Nat, j ≤ l[k].texts.length ∧ st = (j : Int) ∧ w25 = w' ∧ ∀ s ∈ l[k].texts.take j, s.length ≤ 3000, fun st _ => l[k].texts.length - st.toNat, ⟨0, Nat.zero_le _, rfl, rfl, by simp⟩, ?_⟩
        rintro st w30 ⟨j, hj, rfl, rfl, hall2⟩
        refine ⟨fun hlt2 => ?_, fun hge2 => ?_⟩
        · have hjl : j < l[k].texts.length := by have := of_decide_eq_true hlt2; omega
          obtain ⟨a2, s2, ha2, hc2, hb2⟩ := hp.get hjl
          have hsl := hb2.1
          refine ⟨a2, _, ha2, by omega, by omega, rfl, s2, by rw [Int.toNat_natCast, Nat.mul_one]; exact hc2, ?_⟩
          refine ⟨fun _ => ⟨fun h => absurd h (by decide), hx.trans hx25⟩, fun h30 => ?_⟩
          have h30 := of_decide_eq_false h30
          rw [w64_eq (by omega) (by omega)]
          refine ⟨⟨j + 1, by omega, by omega, rfl, ?_⟩, by simp only; omega⟩
          intro s hs
          rw [List.take_succ_eq_append_getElem hjl, List.mem_append] at hs
          rcases hs with hs | hs
          · exact hall2 s hs
          · rw [List.mem_singleton.1 hs]; omega
        · have hje : j = l[k].texts.length := by have := of_decide_eq_false hge2; omega
          subst hje
          rw [List.take_length] at hall2
          rw [w64_eq (by omega) (by omega)]
          refine ⟨⟨k + 1, by omega, by omega, hx.trans hx25, ?_⟩, by simp only; omega⟩
          intro o ho
          rw [List.take_succ_eq_append_getElem hkl, List.mem_append] at ho
          rcases ho with ho | ho
          · exact hall o ho
          · rw [List.mem_singleton.1 ho]; exact ⟨by omega, hall2⟩
      · have hge : k = l.length := by have := of_decide_eq_false hge; omega
        subst hge
        rw [List.take_length] at hall
        exact ⟨fun _ => ⟨h1, h2, h3, hall⟩, hx⟩
    refine ⟨fun h => key2 true fun h => absurd h (by decide), fun h => key2 _ fun h6 => ?_⟩
    have := of_decide_eq_false h6
    obtain ⟨h1, h2⟩ := hb h
    exact ⟨h1, h2, by omega⟩
  refine ⟨fun h => key1 true fun h => absurd h (by decide), fun h => key1 _ fun h2 => ?_⟩
  have := of_decide_eq_false h
  have := of_decide_eq_false h2
  omega
end Go.Proofs.Ytagkcbbbdlmcjaa
end
section
/- A journal that is laid on a new disk. -/
set_option linter.unusedVariables false
set_option linter.unusedSimpArgs false
namespace Go.Proofs.Ytagkcbbbdlmcjaa
open Go.Lift Go.Lift.Disk Go.Lift.Crc Go.Lift.Wal Go.RowKit
theorem lowB_zeros (n : Nat) : lowB (List.replicate n 0) = 0 := by
  unfold lowB
  induction n with
  | zero => rfl
  | succ n ih => rw [List.replicate_succ, List.foldl_cons]; exact ih
theorem right_zero {b : List UInt8} {room : Nat} (h : lowB (sliceB b 8 16) = 0) : right b room = (0, 0) := by
  unfold right
  simp only [h]
  rw [if_neg]
  rintro ⟨_, _, h1, _⟩
  omega
theorem right_zeros (n room : Nat) : right (List.replicate n 0) room = (0, 0) := by
  refine right_zero ?_
  unfold sliceB
  rw [List.take_replicate, List.drop_replicate]
  exact lowB_zeros _
theorem nowAt_fresh (m i : Nat) : ∃ n, nowAt (fresh m) i = List.replicate n 0 := by
  unfold nowAt
  rcases Nat.lt_or_ge i m with h | h
  · refine ⟨512, ?_⟩
    have e : (fresh m).bl[i]? = some (zero512, zero512) := by simp [fresh, h]
    have e2 : bAt (fresh m).bl i = (zero512, zero512) := by simp [bAt, List.getD, e]
    rw [e2]
    rfl
  · refine ⟨0, ?_⟩
    have e : (fresh m).bl[i]? = none := List.getElem?_eq_none (by simp [fresh]; exact h)
    simp [bAt, List.getD, e]
theorem head_fresh (m frm room : Nat) : headOf (fresh m) frm room = (0, 0) := by
  have hs : ∀ i, headStep (fresh m) frm room (0, 0) i = (0, 0) := by
    intro i
    unfold headStep
    obtain ⟨n, e⟩ := nowAt_fresh m (frm + i)
    rw [e, right_zeros]
    rfl
  unfold headOf
  rw [hs, hs]
/-- a disk of which no fall is planned -/
theorem write_free {D : Dk} (hd : D.down = false) (hf : D.falls = []) {i : Nat} (hi : i < D.bl.length) {b : List UInt8} (hb : b.length = 512) : D.write (i : Int) b = (Dk.tick (D.put i b), 0) := by
  have hw : D.why (i : Int) = 0 := by unfold Dk.why; rw [if_neg (by rw [hd]; simp), if_neg (by omega)]
  have hs : (D.put i b).falls.find? (fun f => f.1 == ((D.put i b).changes : Int)) = none := by
    show D.falls.find? _ = none
    rw [hf]; rfl
  unfold Dk.write
  rw [if_neg (by rw [hw]; simp), if_neg (by omega), Int.toNat_natCast, strike_none hs]
def flushed (D : Dk) : Dk := { D with bl := flushL D.bl D.pend, pend := [], changes := D.changes + 1 }
theorem flush_free {D : Dk} (hd : D.down = false) (hf : D.falls = []) : D.flush = (flushed D, 0) := by
  have hs : D.falls.find? (fun f => f.1 == (D.changes : Int)) = none := by rw [hf]; rfl
  unfold Dk.flush
  rw [if_neg (by rw [hd]; simp), strike_none hs]
  simp only [ne_eq, not_true, if_false]
  rfl
/-- what is written of a disk and made sure, without a fall -/
def headed (D : Dk) (frm seq n : Nat) : Dk := flushed (Dk.tick (D.put (frm + seq % 2) (headB seq n)))
theorem headW_free {D : Dk} (hd : D.down = false) (hf : D.falls = []) {frm seq n : Nat} (hi : frm + 1 < D.bl.length) : headW D frm seq n = (headed D frm seq n, 0) := by
  have hw := write_free hd hf (i := frm + seq % 2) (by omega) (headB_len seq n)
  unfold headW
  rw [hw]
  simp only [if_true]
  exact flush_free hd hf
structure Free (n c : Nat) (D : Dk) : Prop where
  down : D.down = false
  falls : D.falls = []
  len : D.bl.length = n
  ch : D.changes = c
theorem free_fresh (n : Nat) : Free n 0 (fresh n) := ⟨rfl, rfl, by simp [fresh], rfl⟩
theorem Free.put {n c : Nat} {D : Dk} (h : Free n c D) (i : Nat) (b : List UInt8) : Free n (c + 1) (Dk.tick (D.put i b)) :=
  ⟨h.down, h.falls, (setNow_len _ _ _).trans h.len, by show D.changes + 1 = _; rw [h.ch]⟩
theorem Free.flushed {n c : Nat} {D : Dk} (h : Free n c D) : Free n (c + 1) (flushed D) :=
  ⟨h.down, h.falls, (flushL_len' _ _).trans h.len, by show D.changes + 1 = _; rw [h.ch]⟩
theorem Free.headed {n c : Nat} {D : Dk} (h : Free n c D) (frm seq k : Nat) : Free n (c + 2) (headed D frm seq k) := (h.put _ _).flushed
theorem fresh_bnd (m k : Nat) (hk : k < 1000000) : Bnd (fresh m) k := ⟨by show 0 + k < _; omega, by show 0 + k < _; omega⟩
theorem open_new (m frm room : Nat) (h : frm + 1 < m) : openD (fresh m) frm room = (headed (fresh m) frm 1 0, .is ⟨1, [], 0, false⟩ []) := by
  have hf := free_fresh m
  have hw : headW (fresh m) frm 1 0 = (headed (fresh m) frm 1 0, 0) := headW_free hf.down hf.falls (by rw [hf.len]; exact h)
  have := open_fresh (D := fresh m) (frm := frm) (room := room) rfl (by rw [head_fresh]) (by rw [hw])
  rw [hw] at this
  exact this
/-- an opening of a new disk, whatever part of it is asked for -/
theorem open_any {w : World} {lo : Nat → Prop} {pd bb m : Nat} (h : DAt w lo pd bb (fresh m)) (hlo : ∀ k, w.heap.size ≤ k → lo k) (f b : Int) (hf : f ≤ 9223372036854775807) (hb : b ≤ 9223372036854775807) :
    Calls Try.prog 16 #[.pointer (dp pd), .int .i64 f, .int .i64 b] w (Ret r16 fun x w' => Fr (Foot pd bb) w w' ∧ x.2.1.len = 0 ∧
      (((f < 0 ∨ b < 3 ∨ (m : Int) < b ∨ (m : Int) - b < f) ∧ x = (none, nilSl, 1) ∧ DAt w' lo pd bb (fresh m)) ∨
        ∃ (frm blocks : Nat), f = (frm : Int) ∧ b = (blocks : Int) ∧ 3 ≤ blocks ∧ frm + blocks ≤ m ∧ ∃ pl, x.1 = lp pl ∧ w.heap.size ≤ pl ∧ x.2.2 = 0 ∧ WAt w' lo pd bb pl frm (roomOf blocks) (headed (fresh m) frm 1 0) ⟨1, [], 0, false⟩)) := by
  have hfl : (fresh m).bl.length = m := by simp [fresh]
  by_cases h1 : f < 0 ∨ b < 3
  · refine Ret.mono (open_bad w (dp pd) f b (.inr h1)) ?_
    rintro x w' ⟨rfl, rfl⟩
    refine ⟨Fr.refl _, rfl, .inl ⟨?_, rfl, h⟩⟩
    rcases h1 with h1 | h1
    · exact .inl h1
    · exact .inr (.inl h1)
  by_cases h2 : (m : Int) < b ∨ (m : Int) - b < f
  · refine Ret.mono (open_out h f b (by omega) (by omega) hb (by rw [hfl]; exact h2)) ?_
    rintro x w' ⟨rfl, rfl⟩
    exact ⟨Fr.refl _, rfl, .inl ⟨.inr (.inr h2), rfl, h⟩⟩
  obtain ⟨frm, rfl⟩ := Int.eq_ofNat_of_zero_le (show 0 ≤ f by omega)
  obtain ⟨blocks, rfl⟩ := Int.eq_ofNat_of_zero_le (show 0 ≤ b by omega)
  have ho := open_ok h hlo frm blocks (by omega) (by omega) (fresh_bnd m 2 (by decide))
  rw [open_new m frm (roomOf blocks) (by omega)] at ho
  refine Ret.mono ho ?_
  rintro x w' ⟨pl, e1, hpl, e2, hrs, hW, hF⟩
  exact ⟨hF, hrs.len, .inr ⟨frm, blocks, rfl, rfl, by omega, by omega, pl, e1, hpl, e2, hW⟩⟩
theorem WX.setDisk {w w' : World} {lo : Nat → Prop} {pd bb pl frm room g : Nat} {sd : Sl} {D D' : Dk} {L : Lg} (h : WX w lo pd bb pl frm room g sd D L) (hd : DAt w' (fun k => (lo k ∧ k ≠ pl) ∧ k ≠ g) pd bb D') (hf : Fr (Foot pd bb) w w') :
    WX w' lo pd bb pl frm room g sd D' L := by
  obtain ⟨_, _, _, h1, h2⟩ := h.lt
  exact ⟨hd, h.log.fr hf h1, hf.bytes (fun a ha => by rw [(h.row a ha).1]; exact h2) h.data, h.cap, h.nil, h.row, Nat.lt_of_lt_of_le h.glt hf.size, h.lopl, h.wf⟩
end Go.Proofs.Ytagkcbbbdlmcjaa
end
section
/- The typed readings of the functions, and that the program meets each: written by gen.py (a program of this session). -/
set_option linter.unusedVariables false
set_option linter.unusedSimpArgs false
namespace Go.Proofs.Ytagkcbbbdlmcjaa
open Go.Lift
set_option maxRecDepth 100000 in
set_option maxHeartbeats 4000000 in
theorem s51_calls (K : List UInt8 → World → Prop) (p0 : Int) (w : World) (h : s51 K p0 w) :
    Calls Try.prog 51 #[.int .u64 p0] w (Ret r51 K) := by
  unfold s51 at h
  refine calls_of_CW (n := 19) Try.func51 rfl rfl rfl ?_
  refine CW.seq ?_
  refine CW.region ?_
  refine RL.opS trivial rfl (OpW.assign (v := str []) rfl ?_)
  refine RL.nil ?_
  refine CW.seq ?_
  refine CW.seq ?_
  refine CW.region ?_
  refine RL.opS trivial rfl (OpW.move (v := .int .u64 p0) rfl ?_)
  refine RL.opS trivial rfl (OpW.bin (k := .u64) (a := p0) (b := 128) (v := .bool (decide (p0 < 128))) rfl rfl rfl ?_)
  refine RL.nil ?_
  obtain ⟨ha, hc⟩ := h
  refine CW.cond (b := (decide (p0 < 128))) rfl (fun hb1 => ?_) (fun hb1 => ?_)
  · have h := ha hb1; clear ha hc
    refine CW.seq ?_
    refine CW.region ?_
    refine RL.opS trivial rfl (OpW.move (v := .int .u64 p0) rfl ?_)
    refine RL.opS trivial rfl (OpW.convInt (a := p0) int_25 int_5 rfl ?_)
    obtain ⟨b2, hb2_⟩ : ∃ b_, b_ = w.heap.size := ⟨_, rfl⟩
    obtain ⟨w3, hw3_⟩ : ∃ w_, w_ = w.alloc (.cells (List.toArray [.int .u8 (IntKind.u8.wrap p0)]) 5) := ⟨_, rfl⟩
    have h := h b2 w3 hb2_ hw3_
    refine RL.opS trivial rfl (OpW.buildSliceE (vs := [(0, .int .u8 (IntKind.u8.wrap p0))]) (cs := [.int .u8 (IntKind.u8.wrap p0)]) (by rfl) (by kernel_rfl) hb2_ hw3_ ?_)
    obtain ⟨x4, h1, h2, h⟩ := h
    refine RL.opS trivial rfl (OpW.b2s bsl_39 str_9 rfl h1 h2 ?_)
    refine RL.opS trivial rfl (OpW.assign (v := str x4) rfl ?_)
    refine RL.nil ?_
    refine CW.ret ?_
    exact ret_intro (res1 rfl rfl) ⟨x4, rfl, h⟩
  · have h := hc hb1; clear ha hc
    refine CW.skip ?_
    refine CW.seq ?_
    obtain ⟨w5, hw5_⟩ : ∃ w_, w_ = w.drew := ⟨_, rfl⟩
    have h := h w5 hw5_
    have hx6 : Ext w w5 := by rw [hw5_]; exact Ext.drew _
    refine CW.draws (m := 11) (listed := #[false, false, false, false, false, false, false, false, false, false, false]) mixed [] (Ext w) rfl rfl ?_
    rw [← hw5_]
    refine DL.takeP (listed' := #[true, false, false, false, false, false, false, false, false, false, false]) (v := .int .u64 p0) 0 rfl rfl (by kernel_rfl) rfl trivial rfl (fun w_ K_ h_ => OpW.move (v := .int .u64 p0) rfl h_) ?_
    refine DL.takeP (listed' := #[true, true, false, false, false, false, false, false, false, false, false]) (v := .int .u64 (Int.tmod p0 128)) 1 rfl rfl (by kernel_rfl) rfl trivial rfl (fun w_ K_ h_ => OpW.quo (a := p0) (b := 128) (v := .int .u64 (Int.tmod p0 128)) rfl rfl (by decide) rfl h_) ?_
    refine DL.takeP (listed' := #[true, true, true, false, false, false, false, false, false, false, false]) (v := .int .u8 (IntKind.u8.wrap (Int.tmod p0 128))) 2 rfl rfl (by kernel_rfl) rfl trivial rfl (fun w_ K_ h_ => OpW.convInt (a := (Int.tmod p0 128)) int_25 int_5 rfl h_) ?_
    refine DL.takeP (listed' := #[true, true, true, true, false, false, false, false, false, false, false]) (v := .int .u8 (IntKind.u8.wrap ((IntKind.u8.wrap (Int.tmod p0 128)) + 128))) 3 rfl rfl (by kernel_rfl) rfl trivial rfl (fun w_ K_ h_ => OpW.bin (k := .u8) (a := (IntKind.u8.wrap (Int.tmod p0 128))) (b := 128) (v := .int .u8 (IntKind.u8.wrap ((IntKind.u8.wrap (Int.tmod p0 128)) + 128))) rfl rfl rfl h_) ?_
    refine DL.takeP (listed' := #[true, true, true, true, false, false, true, false, false, false, false]) (v := .int .u64 p0) 6 rfl rfl (by kernel_rfl) rfl trivial rfl (fun w_ K_ h_ => OpW.move (v := .int .u64 p0) rfl h_) ?_
    refine DL.takeP (listed' := #[true, true, true, true, false, false, true, true, false, false, false]) (v := .int .u64 (IntKind.u64.wrap (Int.tdiv p0 128))) 7 rfl rfl (by kernel_rfl) rfl trivial rfl (fun w_ K_ h_ => OpW.quo (a := p0) (b := 128) (v := .int .u64 (IntKind.u64.wrap (Int.tdiv p0 128))) rfl rfl (by decide) rfl h_) ?_
    obtain ⟨F13, st_4, run_4, h⟩ := h
    obtain ⟨F19, st_5, run_5, h⟩ := h
    obtain ⟨F24, st_8, run_8, h⟩ := h
    obtain ⟨c27, h⟩ := h
    refine DL.state (fun ρ_ w28 => ∃ (x7 : Sl) (x8 : List UInt8) (x9 : List UInt8), Ext w5 w28 ∧ F13 () x7 w28 ∧ F19 x7 x8 w28 ∧ F24 () x9 w28 ∧ ρ_ 2 = str (x8 ++ x9)) 0 #[true, true, true, true, true, true, true, true, true, true, true] ?_ ?_
    · rintro ρ_ w28 ⟨x7, x8, x9, hx_1, f_4, f_5, f_8, e_2⟩
      have h := h x7 x8 x9 w28 hx_1 f_4 f_5 f_8
      have hx29 := Ext.trans hx6 hx_1
      refine DL.done (by kernel_rfl) ?_
      refine CW.ret ?_
      exact ret_intro (res1 rfl e_2) ⟨(x8 ++ x9), rfl, h⟩
    intro hD_4_5_8
    refine DL.state (fun ρ_ w30 => ∃ (x7 : Sl) (x8 : List UInt8), Ext w5 w30 ∧ F13 () x7 w30 ∧ F19 x7 x8 w30 ∧ ρ_ 14 = str x8 ∧ ρ_ 16 = .int .u64 (IntKind.u64.wrap (Int.tdiv p0 128))) 3 #[true, true, true, true, true, true, true, true, false, false, false] ?_ ?_
    · rintro ρ_ w30 ⟨x7, x8, hx_1, f_4, f_5, e_14, e_16⟩
      refine DL.branch [8] (by kernel_rfl) rfl ?_
      refine all_cons ?_ (all_nil)
      · clear h
        have h := run_8 () w30 hx_1 trivial
        refine DLop.execS (listed' := #[true, true, true, true, true, true, true, true, true, false, false]) rfl rfl trivial rfl (OpW.callR (al := [.int .u64 (IntKind.u64.wrap (Int.tdiv p0 128))]) Try.func51 fb_51 fn_51 (by simp only [List.map_cons, List.map_nil, ev, upd, Nat.beq, cond_false, cond_true, e_16]) h (fun x31 w32 h => ?_))
        obtain ⟨hx33, f34⟩ := h
        refine ⟨(fun h_ => absurd h_ (by decide)), ?_⟩
        have h_c := c27 x7 x8 x31 _ (Ext.trans hx_1 hx33) (st_4 _ _ _ _ hx33 f_4) (st_5 _ _ _ _ hx33 f_5) f34
        have hq_ := h_c
        refine DL.takeP (listed' := #[true, true, true, true, true, true, true, true, true, true, false]) (v := str (x8 ++ x31)) 9 rfl rfl (by kernel_rfl) rfl trivial rfl (fun w_ K_ h_ => OpW.strAdd e_14 rfl hq_ h_) ?_
        refine DL.takeP (listed' := #[true, true, true, true, true, true, true, true, true, true, true]) (v := str (x8 ++ x31)) 10 rfl rfl (by kernel_rfl) rfl trivial rfl (fun w_ K_ h_ => OpW.assign (v := str (x8 ++ x31)) rfl h_) ?_
        exact hD_4_5_8 _ _ ⟨x7, x8, x31, Ext.trans hx_1 hx33, st_4 _ _ _ _ hx33 f_4, st_5 _ _ _ _ hx33 f_5, f34, rfl⟩

    intro hD_4_5
    refine DL.state (fun ρ_ w35 => ∃ (x7 : Sl) (x9 : List UInt8), Ext w5 w35 ∧ F13 () x7 w35 ∧ F24 () x9 w35 ∧ ρ_ 13 = Sl.v x7 ∧ ρ_ 17 = str x9) 3 #[true, true, true, true, true, false, true, true, true, false, false] ?_ ?_
    · rintro ρ_ w35 ⟨x7, x9, hx_1, f_4, f_8, e_13, e_17⟩
      refine DL.branch [5] (by kernel_rfl) rfl ?_
      refine all_cons ?_ (all_nil)
      · clear h
        have h := run_5 x7 w35 hx_1 f_4
        obtain ⟨x36, h1, h2, h⟩ := h
        refine DLop.execS (listed' := #[true, true, true, true, true, true, true, true, true, false, false]) rfl rfl trivial rfl (OpW.b2s bsl_39 str_9 e_13 h1 h2 ?_)
        obtain ⟨hx37, f38⟩ := h
        refine ⟨(fun h_ => absurd h_ (by decide)), ?_⟩
        have h_c := c27 x7 x36 x9 _ (Ext.trans hx_1 hx37) (st_4 _ _ _ _ hx37 f_4) f38 (st_8 _ _ _ _ hx37 f_8)
        have hq_ := h_c
        refine DL.takeP (listed' := #[true, true, true, true, true, true, true, true, true, true, false]) (v := str (x36 ++ x9)) 9 rfl rfl (by kernel_rfl) rfl trivial rfl (fun w_ K_ h_ => OpW.strAdd rfl e_17 hq_ h_) ?_
        refine DL.takeP (listed' := #[true, true, true, true, true, true, true, true, true, true, true]) (v := str (x36 ++ x9)) 10 rfl rfl (by kernel_rfl) rfl trivial rfl (fun w_ K_ h_ => OpW.assign (v := str (x36 ++ x9)) rfl h_) ?_
        exact hD_4_5_8 _ _ ⟨x7, x36, x9, Ext.trans hx_1 hx37, st_4 _ _ _ _ hx37 f_4, f38, st_8 _ _ _ _ hx37 f_8, rfl⟩

    intro hD_4_8
    refine DL.state (fun ρ_ w39 => ∃ (x7 : Sl), Ext w5 w39 ∧ F13 () x7 w39 ∧ ρ_ 13 = Sl.v x7 ∧ ρ_ 16 = .int .u64 (IntKind.u64.wrap (Int.tdiv p0 128))) 4 #[true, true, true, true, true, false, true, true, false, false, false] ?_ ?_
    · rintro ρ_ w39 ⟨x7, hx_1, f_4, e_13, e_16⟩
      refine DL.branch [5, 8] (by kernel_rfl) rfl ?_
      refine all_cons ?_ (all_cons ?_ (all_nil))
      · clear h
        have h := run_5 x7 w39 hx_1 f_4
        obtain ⟨x40, h1, h2, h⟩ := h
        refine DLop.execS (listed' := #[true, true, true, true, true, true, true, true, false, false, false]) rfl rfl trivial rfl (OpW.b2s bsl_39 str_9 e_13 h1 h2 ?_)
        obtain ⟨hx41, f42⟩ := h
        refine ⟨(fun h_ => absurd h_ (by decide)), ?_⟩
        exact hD_4_5 _ _ ⟨x7, x40, Ext.trans hx_1 hx41, st_4 _ _ _ _ hx41 f_4, f42, rfl, e_16⟩
      · clear h
        have h := run_8 () w39 hx_1 trivial
        refine DLop.execS (listed' := #[true, true, true, true, true, false, true, true, true, false, false]) rfl rfl trivial rfl (OpW.callR (al := [.int .u64 (IntKind.u64.wrap (Int.tdiv p0 128))]) Try.func51 fb_51 fn_51 (by simp only [List.map_cons, List.map_nil, ev, upd, Nat.beq, cond_false, cond_true, e_16]) h (fun x43 w44 h => ?_))
        obtain ⟨hx45, f46⟩ := h
        refine ⟨(fun h_ => absurd h_ (by decide)), ?_⟩
        exact hD_4_8 _ _ ⟨x7, x43, Ext.trans hx_1 hx45, st_4 _ _ _ _ hx45 f_4, f46, e_13, rfl⟩

    intro hD_4
    refine DL.state (fun ρ_ w47 => ∃ (x9 : List UInt8), Ext w5 w47 ∧ F24 () x9 w47 ∧ ρ_ 12 = .int .u8 (IntKind.u8.wrap ((IntKind.u8.wrap (Int.tmod p0 128)) + 128)) ∧ ρ_ 17 = str x9) 4 #[true, true, true, true, false, false, true, true, true, false, false] ?_ ?_
    · rintro ρ_ w47 ⟨x9, hx_1, f_8, e_12, e_17⟩
      refine DL.branch [4] (by kernel_rfl) rfl ?_
      refine all_cons ?_ (all_nil)
      · clear h
        have h := run_4 () w47 hx_1 trivial
        obtain ⟨b48, hb48_⟩ : ∃ b_, b_ = w47.heap.size := ⟨_, rfl⟩
        obtain ⟨w49, hw49_⟩ : ∃ w_, w_ = w47.alloc (.cells (List.toArray [.int .u8 (IntKind.u8.wrap ((IntKind.u8.wrap (Int.tmod p0 128)) + 128))]) 5) := ⟨_, rfl⟩
        have h := h b48 w49 hb48_ hw49_
        refine DLop.execS (listed' := #[true, true, true, true, true, false, true, true, true, false, false]) rfl rfl trivial rfl (OpW.buildSliceE (vs := [(0, .int .u8 (IntKind.u8.wrap ((IntKind.u8.wrap (Int.tmod p0 128)) + 128)))]) (cs := [.int .u8 (IntKind.u8.wrap ((IntKind.u8.wrap (Int.tmod p0 128)) + 128))]) (by simp only [List.map_cons, List.map_nil, ev, upd, Nat.beq, cond_false, cond_true, e_12]) (by kernel_rfl) hb48_ hw49_ ?_)
        obtain ⟨hx50, f51⟩ := h
        refine ⟨(fun h_ => absurd h_ (by decide)), ?_⟩
        exact hD_4_8 _ _ ⟨⟨some ⟨b48, 0, none⟩, 1, 1⟩, x9, Ext.trans hx_1 hx50, f51, st_8 _ _ _ _ hx50 f_8, rfl, e_17⟩

    intro hD_8
    have hx_0 : Ext w5 w5 := Ext.refl _
    refine DL.branch [4, 8] (by kernel_rfl) rfl ?_
    refine all_cons ?_ (all_cons ?_ (all_nil))
    · clear h
      have h := run_4 () w5 hx_0 trivial
      obtain ⟨b52, hb52_⟩ : ∃ b_, b_ = w5.heap.size := ⟨_, rfl⟩
      obtain ⟨w53, hw53_⟩ : ∃ w_, w_ = w5.alloc (.cells (List.toArray [.int .u8 (IntKind.u8.wrap ((IntKind.u8.wrap (Int.tmod p0 128)) + 128))]) 5) := ⟨_, rfl⟩
      have h := h b52 w53 hb52_ hw53_
      refine DLop.execS (listed' := #[true, true, true, true, true, false, true, true, false, false, false]) rfl rfl trivial rfl (OpW.buildSliceE (vs := [(0, .int .u8 (IntKind.u8.wrap ((IntKind.u8.wrap (Int.tmod p0 128)) + 128)))]) (cs := [.int .u8 (IntKind.u8.wrap ((IntKind.u8.wrap (Int.tmod p0 128)) + 128))]) (by rfl) (by kernel_rfl) hb52_ hw53_ ?_)
      obtain ⟨hx54, f55⟩ := h
      refine ⟨(fun h_ => absurd h_ (by decide)), ?_⟩
      exact hD_4 _ _ ⟨⟨some ⟨b52, 0, none⟩, 1, 1⟩, Ext.trans hx_0 hx54, f55, rfl, rfl⟩
    · clear h
      have h := run_8 () w5 hx_0 trivial
      refine DLop.execS (listed' := #[true, true, true, true, false, false, true, true, true, false, false]) rfl rfl trivial rfl (OpW.callR (al := [.int .u64 (IntKind.u64.wrap (Int.tdiv p0 128))]) Try.func51 fb_51 fn_51 rfl h (fun x56 w57 h => ?_))
      obtain ⟨hx58, f59⟩ := h
      refine ⟨(fun h_ => absurd h_ (by decide)), ?_⟩
      exact hD_8 _ _ ⟨x56, Ext.trans hx_0 hx58, f59, rfl, rfl⟩

end Go.Proofs.Ytagkcbbbdlmcjaa
end
section
/- The typed readings of the functions, and that the program meets each: written by gen.py (a program of this session). -/
set_option linter.unusedVariables false
set_option linter.unusedSimpArgs false
namespace Go.Proofs.Ytagkcbbbdlmcjaa
open Go.Lift
set_option maxRecDepth 100000 in
set_option maxHeartbeats 4000000 in
theorem s18_calls (K : List UInt8 → World → Prop) (p0 : List UInt8) (w : World) (h : s18 K p0 w) :
    Calls Try.prog 18 #[str p0] w (Ret r18 K) := by
  unfold s18 at h
  refine calls_of_CW (n := 15) Try.func18 rfl rfl rfl ?_
  refine CW.seq ?_
  refine CW.region ?_
  refine RL.opS trivial rfl (OpW.assign (v := str []) rfl ?_)
  refine RL.nil ?_
  refine CW.seq ?_
  refine CW.region ?_
  refine RL.opS trivial rfl (OpW.move (v := str p0) rfl ?_)
  refine RL.opS trivial rfl (OpW.lenStr us_9 rfl ?_)
  refine RL.opS trivial rfl (OpW.convInt (a := (p0.length : Int)) int_3 int_25 rfl ?_)
  refine RL.opS trivial rfl (OpW.callR (al := [.int .u64 (IntKind.u64.wrap (p0.length : Int))]) Try.func51 fb_51 fn_51 rfl h (fun x1 w2 h => ?_))
  refine RL.opS trivial rfl (OpW.move (v := str p0) rfl ?_)
  refine RL.opS trivial rfl (OpW.callR (al := [str p0]) Try.func52 fb_52 fn_52 rfl h (fun x3 w4 h => ?_))
  refine RL.opS trivial rfl (OpW.move (v := str p0) rfl ?_)
  refine RL.opS trivial rfl (OpW.lenStr us_9 rfl ?_)
  obtain ⟨⟨h1, h2, h3⟩, h⟩ := h
  refine RL.opS trivial rfl (OpW.sliceStr (l := (p0.length : Int)) (h := (x3.length : Int)) str_9 rfl ⟨_, rfl⟩ rfl h1 h2 h3 ?_)
  obtain ⟨hq_, h⟩ := h
  refine RL.opS trivial rfl (OpW.strAdd rfl rfl hq_ ?_)
  refine RL.opS trivial rfl (OpW.move (v := str p0) rfl ?_)
  obtain ⟨hq_, h⟩ := h
  refine RL.opS trivial rfl (OpW.strAdd rfl rfl hq_ ?_)
  refine RL.opS trivial rfl (OpW.assign (v := str ((x1 ++ ((x3.take (Int.toNat (x3.length : Int))).drop (Int.toNat (p0.length : Int)))) ++ p0)) rfl ?_)
  refine RL.nil ?_
  refine CW.ret ?_
  exact ret_intro (res1 rfl rfl) ⟨((x1 ++ ((x3.take (Int.toNat (x3.length : Int))).drop (Int.toNat (p0.length : Int)))) ++ p0), rfl, h⟩
end Go.Proofs.Ytagkcbbbdlmcjaa
end
section
/- The document's numbers and frames; records that are added to a disk without falls. -/
set_option linter.unusedVariables false
set_option linter.unusedSimpArgs false
namespace Go.Proofs.Ytagkcbbbdlmcjaa
open Go.Lift Go.Lift.Disk Go.Lift.Crc Go.Lift.Wal Go.RowKit
theorem rnum_ok : ∀ (k n : Nat) (w : World), n < 128 ^ (k + 1) → n < 18446744073709551616 → Calls Try.prog 51 #[.int .u64 (n : Int)] w (Ret r51 fun x w' => x = numB n ∧ Ext w w') := by
  intro k
  induction k with
  | zero =>
    intro n w hn _
    apply s51_calls
    refine ⟨fun _ => ?_, fun h => absurd (of_decide_eq_false h) (by omega)⟩
    intro b2 w3 hb2 hw3
    rw [u8n] at hw3
    refine ⟨[UInt8.ofNat n], rfl, At.new hb2 hw3, ?_, Ext.new hw3⟩
    unfold numB
    rw [if_pos (by omega)]
  | succ k ih =>
    intro n w hn h64
    apply s51_calls
    refine ⟨fun hlt => ?_, fun hge => ?_⟩
    · have hlt := of_decide_eq_true hlt
      intro b2 w3 hb2 hw3
      rw [u8n] at hw3
      refine ⟨[UInt8.ofNat n], rfl, At.new hb2 hw3, ?_, Ext.new hw3⟩
      unfold numB
      rw [if_pos (by omega)]
    · have hge := of_decide_eq_false hge
      intro w5 hw5
      have hx5 : Ext w w5 := by subst hw5; exact Ext.drew _
      refine ⟨fun _ x v => Bytes v x [UInt8.ofNat (n % 128 + 128)], fun _ _ _ _ hx h => h.ext hx, fun _ v hv _ => ?_, ?_⟩
      · intro b14 w15 hb14 hw15
        rw [numByte] at hw15
        exact ⟨Ext.new hw15, rfl, At.new hb14 hw15⟩
      refine ⟨fun _ x v => x = [UInt8.ofNat (n % 128 + 128)], fun _ _ _ _ hx h => h, fun d v hv hb => ?_, ?_⟩
      · exact ⟨_, hb.1, hb.2, Ext.refl _, rfl⟩
      refine ⟨fun _ x v => x = numB (n / 128), fun _ _ _ _ hx h => h, fun _ v hv _ => ?_, ?_⟩
      · have e : IntKind.u64.wrap (Int.tdiv (n : Int) 128) = ((n / 128 : Nat) : Int) := by
          rw [Int.tdiv_eq_ediv_of_nonneg (by omega), wu64_eq (by omega) (by omega)]; omega
        rw [e]
        refine cR_of (ih (n / 128) v (by rw [Nat.div_lt_iff_lt_mul (by decide), ← Nat.pow_succ]; exact hn) (by omega)) ?_
        rintro x w' ⟨rfl, hx⟩
        exact ⟨hx, rfl⟩
      have hl := (numB_len (n / 128) (by omega)).2
      refine ⟨?_, ?_⟩
      · rintro x7 x8 x9 v _ _ rfl rfl
        simp only [List.length_singleton]
        omega
      · rintro x7 x8 x9 v hx _ rfl rfl
        refine ⟨?_, hx5.trans hx⟩
        conv => rhs; rw [numB]
        rw [if_neg (by omega)]
        rfl
theorem rframe_ok (w : World) (s : List UInt8) (hs : s.length ≤ 1000000000) : Calls Try.prog 18 #[str s] w (Ret r18 fun x w' => x = frameB s ∧ Ext w w') := by
  apply s18_calls
  show cR _ _ _ _ _ _
  rw [wu64_eq (by omega) (by omega)]
  refine cR_of (rnum_ok 9 s.length w (Nat.lt_of_le_of_lt hs (by decide)) (by omega)) ?_
  rintro x1 w2 ⟨rfl, hx2⟩
  refine cR_of (refseal_ok w2 s (by omega)) ?_
  rintro x3 w4 ⟨rfl, hx4⟩
  have hl := sealed_len s
  have hn := (numB_len s.length (by omega)).2
  have hd : ((sealed s).take (Int.toNat ((sealed s).length : Int))).drop (Int.toNat (s.length : Int)) = le4 (crc s) := by
    rw [Int.toNat_natCast, Int.toNat_natCast, List.take_length]
    unfold sealed
    exact List.drop_left
  have h4 : (le4 (crc s)).length = 4 := rfl
  refine ⟨⟨by omega, by omega, by omega⟩, ?_⟩
  rw [hd]
  refine ⟨by rw [h4]; omega, by rw [List.length_append, h4]; omega, ?_, hx2.trans hx4⟩
  unfold frameB
  rw [List.append_assoc]

/-! ### a disk without falls -/
theorem lay_free {n frm : Nat} {A : List UInt8} (hA : ∀ j, j * 512 < A.length → frm + 2 + j < n) : ∀ (f : Nat) {c : Nat} {D : Dk} (i : Nat), Free n c D → ∃ D' c', layF f D frm A i = (D', 0) ∧ Free n c' D'
  | 0, c, D, i, h => ⟨D, c, rfl, h⟩
  | f + 1, c, D, i, h => by
    unfold layF
    split
    · exact ⟨D, c, rfl, h⟩
    · rename_i hlt
      have hw := write_free h.down h.falls (i := frm + 2 + i) (by rw [h.len]; exact hA i (by omega)) (padB_len A i (by omega))
      rw [hw]
      simp only [if_true]
      exact lay_free hA f (i + 1) (h.put _ _)
theorem flushed_pend (D : Dk) : (flushed D).pend = [] := rfl
theorem addHead_free {n c frm seq k : Nat} {D : Dk} (h : Free n c D) (hf : frm + 1 < n) : addHead (D, 0) frm seq k = (headed (flushed D) frm seq k, 0) := by
  have h2 := h.flushed
  have hfl := flush_free h.down h.falls
  unfold addHead
  simp only [ne_eq, not_true, if_false, hfl]
  exact headW_free h2.down h2.falls (by rw [h2.len]; exact hf)
theorem add_free {n c frm room : Nat} {D : Dk} {L : Lg} {l : List (List UInt8)} {A : List UInt8} (h : Free n c D) (hb : L.broken = false) (hl : l ≠ []) (hs : L.seq ≠ last) (hg : gather l room L.data = some A) (hf : frm + 1 < n) (hr : frm * 512 + room + 1024 ≤ n * 512) :
    ∃ D' c', addD D L frm room l = (D', ⟨L.seq + 1, A, L.count + l.length, false⟩, 0) ∧ Free n c' D' ∧ D'.pend = [] := by
  have hgl := (gather_len l room _ hg).2
  obtain ⟨E, c1, e1, hE⟩ := lay_free (A := A) (frm := frm) (n := n) (fun j hj => by omega) (A.length / 512 + 1) (L.data.length / 512) h
  have e2 := addHead_free (seq := L.seq + 1) (k := A.length) hE hf
  have := add_done (D := D) (frm := frm) hb hl hg hs (by rw [e1, e2])
  rw [e1, e2] at this
  exact ⟨_, _, this, hE.flushed.headed _ _ _, rfl⟩
theorem Bnd.addHead {R : Dk × Int} {k : Nat} (h : Bnd R.1 (k + 3)) (frm seq n : Nat) : Bnd (addHead R frm seq n).1 k := by
  unfold Wal.addHead
  split
  · exact h.mono (by omega)
  · have hf := Bnd.flush (k := k + 2) h
    split
    · exact hf.mono (by omega)
    · exact hf.head frm seq n
theorem Bnd.addD {D : Dk} {k : Nat} {L : Lg} {frm room : Nat} {l : List (List UInt8)} (h : Bnd D (k + 4200)) (hr : room ≤ 2097152) : Bnd (addD D L frm room l).1 k := by
  unfold Wal.addD
  split
  · exact h.mono (by omega)
  · split
    · exact h.mono (by omega)
    · split
      · exact h.mono (by omega)
      · rename_i A hg
        have hgl := (gather_len l room _ hg).2
        split
        · exact h.mono (by omega)
        · have hlay : Bnd (layF (A.length / 512 + 1) D frm A (L.data.length / 512)).1 (k + 3) := Bnd.lay _ frm A _ (h.mono (by omega))
          have := hlay.addHead frm (L.seq + 1) A.length
          split <;> exact this
theorem gather_one (s : List UInt8) (room : Nat) (data : List UInt8) : gather [s] room data = if room < data.length + (frameB s).length then none else some (data ++ frameB s) := by
  have := frameB_len s
  unfold gather
  by_cases h : (room : Int) - data.length < s.length
  · rw [if_pos h, if_pos (by omega)]
  · rw [if_neg h]
    unfold gather
    rw [List.length_append]
end Go.Proofs.Ytagkcbbbdlmcjaa
end
section
/- The typed readings of the functions, and that the program meets each: written by gen.py (a program of this session). -/
set_option linter.unusedVariables false
set_option linter.unusedSimpArgs false
namespace Go.Proofs.Ytagkcbbbdlmcjaa
open Go.Lift
set_option maxRecDepth 100000 in
set_option maxHeartbeats 4000000 in
theorem s3_calls (K : Bool → World → Prop) (p0 : Int) (p1 : Sl) (w : World) (h : s3 K p0 p1 w) :
    Calls Try.prog 3 #[.int .i64 p0, Sl.v p1] w (Ret r3 K) := by
  unfold s3 at h
  refine calls_of_CW (n := 127) Try.func3 rfl rfl rfl ?_
  refine CW.seq ?_
  refine CW.region ?_
  refine RL.opS trivial rfl (OpW.assign (v := .bool false) rfl ?_)
  refine RL.nil ?_
  refine CW.seq ?_
  refine CW.seq ?_
  refine CW.region ?_
  refine RL.opS trivial rfl (OpW.callR (al := []) Try.func13 fb_13 fn_13 rfl h (fun x1 w2 h => ?_))
  refine RL.opS trivial rfl (OpW.not rfl ?_)
  refine RL.opS trivial rfl (OpW.move (v := .bool (!x1)) rfl ?_)
  refine jn_elim h ?_; clear h; intro k191 hk192 h
  refine RL.joinAt (A := Bool) 7 (fun s9 ρ => ρ 25 = .bool s9 ∧ ρ 0 = .int .i64 p0 ∧ ρ 1 = Sl.v p1) k191 ?_ ?_
  · rintro s9 ρ w10 ⟨e11, e12, e13⟩ h
    subst hk192
    dsimp only [List.drop]
    refine RL.nil ?_
    obtain ⟨ha, hc⟩ := h
    refine CW.cond (b := s9) e11 (fun hb14 => ?_) (fun hb14 => ?_)
    · have h := ha hb14; clear ha hc
      refine CW.seq ?_
      refine CW.region ?_
      refine RL.opS trivial rfl (OpW.callR (al := []) Try.func13 fb_13 fn_13 rfl h (fun x15 w16 h => ?_))
      refine RL.opS trivial rfl (OpW.assign (v := .bool x15) rfl ?_)
      refine RL.nil ?_
      refine CW.ret ?_
      exact ret_intro (res1 rfl rfl) ⟨x15, rfl, h⟩
    · have h := hc hb14; clear ha hc
      refine CW.skip ?_
      refine CW.seq ?_
      refine CW.region ?_
      refine RL.opS trivial rfl (OpW.move (v := .int .i64 p0) e12 ?_)
      refine RL.opS trivial rfl (OpW.callR (al := [.int .i64 p0]) Try.func15 fb_15 fn_15 rfl h (fun x17 w18 h => ?_))
      refine RL.opS trivial rfl (OpW.move (v := .tuple #[.pointer x17.1, .int .i64 x17.2]) rfl ?_)
      refine RL.opS trivial rfl (OpW.extract (v := .pointer x17.1) rfl rfl ?_)
      refine RL.opS trivial rfl (OpW.extract (v := .int .i64 x17.2) rfl rfl ?_)
      refine RL.opS trivial rfl (OpW.assign (v := .pointer x17.1) rfl ?_)
      refine RL.opS trivial rfl (OpW.assign (v := .int .i64 x17.2) rfl ?_)
      refine RL.nil ?_
      refine CW.seq ?_
      refine CW.region ?_
      refine RL.opS trivial rfl (OpW.move (v := .pointer x17.1) rfl ?_)
      refine RL.opS trivial rfl (OpW.move (v := .int .i64 p0) e12 ?_)
      refine RL.opS trivial rfl (OpW.callR (al := [.pointer x17.1, .int .i64 0, .int .i64 p0]) Try.func16 fb_16 fn_16 rfl h (fun x19 w20 h => ?_))
      refine RL.opS trivial rfl (OpW.move (v := .tuple #[.pointer x19.1, Sl.v x19.2.1, .int .i64 x19.2.2]) rfl ?_)
      refine RL.opS trivial rfl (OpW.extract (v := .pointer x19.1) rfl rfl ?_)
      refine RL.opS trivial rfl (OpW.extract (v := Sl.v x19.2.1) rfl rfl ?_)
      refine RL.opS trivial rfl (OpW.extract (v := .int .i64 x19.2.2) rfl rfl ?_)
      refine RL.opS trivial rfl (OpW.assign (v := .pointer x19.1) rfl ?_)
      refine RL.opS trivial rfl (OpW.assign (v := Sl.v x19.2.1) rfl ?_)
      refine RL.opS trivial rfl (OpW.assign (v := .int .i64 x19.2.2) rfl ?_)
      refine RL.nil ?_
      refine CW.seq ?_
      refine CW.seq ?_
      refine CW.region ?_
      refine RL.opS trivial rfl (OpW.move (v := .int .i64 x19.2.2) rfl ?_)
      refine RL.opS trivial rfl (OpW.bin (k := .i64) (a := x19.2.2) (b := 0) (v := .bool (!decide (x19.2.2 = 0))) rfl rfl rfl ?_)
      refine RL.opS trivial rfl (OpW.move (v := .bool (!decide (x19.2.2 = 0))) rfl ?_)
      refine jn_elim h ?_; clear h; intro k189 hk190 h
      refine RL.joinAt (A := Bool) 7 (fun s25 ρ => ρ 48 = .bool s25 ∧ ρ 0 = .int .i64 p0 ∧ ρ 1 = Sl.v p1 ∧ ρ 5 = .pointer x17.1 ∧ ρ 7 = .pointer x19.1) k189 ?_ ?_
      · rintro s25 ρ w26 ⟨e27, e28, e29, e30, e31⟩ h
        subst hk190
        dsimp only [List.drop]
        refine RL.nil ?_
        obtain ⟨ha, hc⟩ := h
        refine CW.cond (b := s25) e27 (fun hb32 => ?_) (fun hb32 => ?_)
        · have h := ha hb32; clear ha hc
          refine CW.seq ?_
          refine CW.region ?_
          refine RL.opS trivial rfl (OpW.assign (v := .bool false) rfl ?_)
          refine RL.nil ?_
          refine CW.ret ?_
          exact ret_intro (res1 rfl rfl) ⟨false, rfl, h⟩
        · have h := hc hb32; clear ha hc
          refine CW.skip ?_
          refine CW.seq ?_
          refine CW.seq ?_
          refine CW.region ?_
          refine RL.opS trivial rfl (OpW.move (v := Sl.v p1) e29 ?_)
          refine RL.opS trivial rfl (OpW.len (s := p1) slice_22 rfl ?_)
          refine RL.opS trivial rfl (OpW.move (v := .int .i64 0) rfl ?_)
          refine RL.nil ?_
          refine CW.block ?_
          obtain ⟨I187, mu188, hI, hs⟩ := h
          refine CW.loop (σ := Int) (fun s33 ρ => ρ 51 = .int .i64 s33 ∧ ρ 0 = .int .i64 p0 ∧ ρ 5 = .pointer x17.1 ∧ ρ 7 = .pointer x19.1 ∧ ρ 49 = Sl.v p1 ∧ ρ 50 = .int .i64 (p1.len : Int)) I187 mu188 0 ⟨rfl, e28, e30, e31, rfl, rfl⟩ hI ?_
          rintro s33 ρ w34 ⟨e36, e37, e38, e39, e40, e41⟩ hI
          have h := hs s33 w34 hI
          clear hs hI
          refine CW.seq ?_
          refine CW.region ?_
          refine RL.opS trivial rfl (OpW.bin (k := .i64) (a := s33) (b := (p1.len : Int)) (v := .bool (decide (s33 < (p1.len : Int)))) e36 e41 rfl ?_)
          refine RL.nil ?_
          refine CW.seq ?_
          obtain ⟨ha, hc⟩ := h
          refine CW.cond (b := (decide (s33 < (p1.len : Int)))) rfl (fun hb42 => ?_) (fun hb42 => ?_)
          · have h := ha hb42; clear ha hc
            refine CW.skip ?_
            refine CW.seq ?_
            refine CW.block ?_
            refine CW.seq ?_
            refine CW.region ?_
            obtain ⟨a43_, a43, h1, h2, h3, h4, h⟩ := h
            refine RL.opS trivial rfl (OpW.indexE (a' := a43) slice_22 e40 e36 h1 h2 h3 h4 ?_)
            obtain ⟨x45, h1, h⟩ := h
            refine RL.opS trivial rfl (OpW.load1 (v := Sl.v x45) one_39 rfl h1 ?_)
            refine RL.opS trivial rfl (OpW.assign (v := Sl.v x45) rfl ?_)
            refine RL.nil ?_
            refine CW.seq ?_
            refine CW.region ?_
            refine RL.opS trivial rfl (OpW.move (v := Sl.v x45) rfl ?_)
            obtain ⟨x46, h1, h2, h⟩ := h
            refine RL.opS trivial rfl (OpW.b2s bsl_39 str_9 rfl h1 h2 ?_)
            refine RL.opS trivial rfl (OpW.callR (al := [str x46]) Try.func18 fb_18 fn_18 rfl h (fun x47 w48 h => ?_))
            refine RL.opS trivial rfl (OpW.lenStr us_9 rfl ?_)
            refine RL.opS trivial rfl (OpW.assign (v := .int .i64 (x47.length : Int)) rfl ?_)
            refine RL.nil ?_
            refine CW.seq ?_
            refine CW.region ?_
            refine RL.opS trivial rfl (OpW.move (v := .pointer x19.1) e39 ?_)
            refine RL.opS trivial rfl (OpW.callR (al := [.pointer x19.1]) Try.func17 fb_17 fn_17 rfl h (fun x49 w50 h => ?_))
            refine RL.opS trivial rfl (OpW.move (v := .pointer x17.1) e38 ?_)
            refine RL.opS trivial rfl (OpW.callR (al := [.pointer x17.1]) Try.func19 fb_19 fn_19 rfl h (fun x51 w52 h => ?_))
            refine RL.opS trivial rfl (OpW.assign (v := .int .i64 x49) rfl ?_)
            refine RL.opS trivial rfl (OpW.assign (v := .int .i64 x51) rfl ?_)
            refine RL.nil ?_
            refine CW.seq ?_
            refine CW.region ?_
            refine RL.opS trivial rfl (OpW.move (v := .pointer x19.1) e39 ?_)
            refine RL.opS trivial rfl (OpW.move (v := Sl.v x45) rfl ?_)
            obtain ⟨b53, hb53_⟩ : ∃ b_, b_ = w52.heap.size := ⟨_, rfl⟩
            obtain ⟨w54, hw54_⟩ : ∃ w_, w_ = w52.alloc (.cells (List.toArray [Sl.v x45]) 39) := ⟨_, rfl⟩
            have h := h b53 w54 hb53_ hw54_
            refine RL.opS trivial rfl (OpW.buildSliceE (vs := [(0, Sl.v x45)]) (cs := [Sl.v x45]) (by rfl) (by kernel_rfl) hb53_ hw54_ ?_)
            refine RL.opS trivial rfl (OpW.callR (al := [.pointer x19.1, Sl.v ⟨some ⟨b53, 0, none⟩, 1, 1⟩]) Try.func20 fb_20 fn_20 rfl h (fun x55 w56 h => ?_))
            refine RL.opS trivial rfl (OpW.assign (v := .int .i64 x55) rfl ?_)
            refine RL.nil ?_
            refine CW.seq ?_
            refine CW.region ?_
            refine RL.opS trivial rfl (OpW.move (v := .int .i64 x55) rfl ?_)
            refine RL.opS trivial rfl (OpW.bin (k := .i64) (a := x55) (b := 0) (v := .bool (decide (x55 = 0))) rfl rfl rfl ?_)
            refine RL.opS trivial rfl (OpW.move (v := .int .i64 (x47.length : Int)) rfl ?_)
            refine RL.opS trivial rfl (OpW.move (v := .int .i64 x49) rfl ?_)
            refine RL.opS trivial rfl (OpW.bin (k := .i64) (a := (x47.length : Int)) (b := x49) (v := .bool (decide ((x47.length : Int) ≤ x49))) rfl rfl rfl ?_)
            refine RL.opS trivial rfl (OpW.boolCmp (b := !((decide (x55 = 0)) == (decide ((x47.length : Int) ≤ x49)))) ub_4 rfl rfl rfl ?_)
            refine RL.opS trivial rfl (OpW.move (v := .bool (!((decide (x55 = 0)) == (decide ((x47.length : Int) ≤ x49))))) rfl ?_)
            refine jn_elim h ?_; clear h; intro k153 hk154 h
            refine RL.joinAt (A := Bool) 11 (fun s78 ρ => ρ 84 = .bool s78 ∧ ρ 0 = .int .i64 p0 ∧ ρ 5 = .pointer x17.1 ∧ ρ 7 = .pointer x19.1 ∧ ρ 13 = .int .i64 x49 ∧ ρ 14 = .int .i64 x51 ∧ ρ 15 = .int .i64 x55 ∧ ρ 49 = Sl.v p1 ∧ ρ 50 = .int .i64 (p1.len : Int) ∧ ρ 51 = .int .i64 s33) k153 ?_ ?_
            · rintro s78 ρ w79 ⟨e80, e81, e82, e83, e84, e85, e86, e87, e88, e89⟩ h
              subst hk154
              dsimp only [List.drop]
              refine RL.opS trivial rfl (OpW.move (v := .bool s78) e80 ?_)
              refine jn_elim h ?_; clear h; intro k151 hk152 h
              refine RL.joinAt (A := Bool) 19 (fun s141 ρ => ρ 104 = .bool s141 ∧ ρ 0 = .int .i64 p0 ∧ ρ 5 = .pointer x17.1 ∧ ρ 7 = .pointer x19.1 ∧ ρ 49 = Sl.v p1 ∧ ρ 50 = .int .i64 (p1.len : Int) ∧ ρ 51 = .int .i64 s33) k151 ?_ ?_
              · rintro s141 ρ w142 ⟨e143, e144, e145, e146, e147, e148, e149⟩ h
                subst hk152
                dsimp only [List.drop]
                refine RL.nil ?_
                obtain ⟨ha, hc⟩ := h
                refine CW.cond (b := s141) e143 (fun hb150 => ?_) (fun hb150 => ?_)
                · have h := ha hb150; clear ha hc
                  refine CW.seq ?_
                  refine CW.region ?_
                  refine RL.opS trivial rfl (OpW.assign (v := .bool false) rfl ?_)
                  refine RL.nil ?_
                  refine CW.ret ?_
                  exact ret_intro (res1 rfl rfl) ⟨false, rfl, h⟩
                · have h := hc hb150; clear ha hc
                  refine CW.skip ?_
                  refine CW.region ?_
                  refine RL.opS trivial rfl (OpW.bin (k := .i64) (a := s33) (b := 1) (v := .int .i64 (IntKind.i64.wrap (s33 + 1))) e149 rfl rfl ?_)
                  refine RL.opS trivial rfl (OpW.move (v := .int .i64 (IntKind.i64.wrap (s33 + 1))) rfl ?_)
                  refine RL.nil ?_
                  exact ⟨(IntKind.i64.wrap (s33 + 1)), ⟨rfl, e144, e145, e146, e147, e148⟩, h⟩
              · clear hk152
                dsimp only [List.take]
                obtain ⟨ha, hc⟩ := h
                rcases Bool.eq_false_or_eq_true s78 with hb90 | hb90
                · have h := ha hb90; clear ha hc
                  refine RL.skipS (notWanted_of rfl rfl hb90) rfl ?_
                  refine RL.skipS (notWanted_of rfl rfl hb90) rfl ?_
                  refine RL.skipS (notWanted_of rfl rfl hb90) rfl ?_
                  refine RL.skipS (notWanted_undef rfl rfl) rfl ?_
                  refine RL.skipS (notWanted_undef rfl rfl) rfl ?_
                  refine RL.skipS (notWanted_undef rfl rfl) rfl ?_
                  refine RL.skipS (notWanted_undef rfl rfl) rfl ?_
                  refine RL.skipS (notWanted_undef rfl rfl) rfl ?_
                  refine RL.skipS (notWanted_undef rfl rfl) rfl ?_
                  refine RL.skipS (notWanted_undef rfl rfl) rfl ?_
                  refine RL.skipS (notWanted_undef rfl rfl) rfl ?_
                  refine RL.skipS (notWanted_undef rfl rfl) rfl ?_
                  refine RL.skipS (notWanted_undef rfl rfl) rfl ?_
                  refine RL.skipS (notWanted_undef rfl rfl) rfl ?_
                  refine RL.skipS (notWanted_undef rfl rfl) rfl ?_
                  refine RL.skipS (notWanted_undef rfl rfl) rfl ?_
                  refine RL.skipS (notWanted_undef rfl rfl) rfl ?_
                  refine RL.skipS (notWanted_of rfl rfl hb90) rfl ?_
                  refine RL.opS trivial rfl (OpW.pick (b := true) (v := .bool true) (congrArg Value.bool hb90) rfl ?_)
                  refine RL.nil ?_
                  exact ⟨true, ⟨rfl, e81, e82, e83, e87, e88, e89⟩, h⟩
                · have h := hc hb90; clear ha hc
                  refine RL.opS (wanted_of rfl rfl hb90) rfl (OpW.move (v := .int .i64 x55) e86 ?_)
                  refine RL.opS (wanted_of rfl rfl hb90) rfl (OpW.bin (k := .i64) (a := x55) (b := 0) (v := .bool (!decide (x55 = 0))) rfl rfl rfl ?_)
                  refine RL.opS (wanted_of rfl rfl hb90) rfl (OpW.move (v := .bool (!decide (x55 = 0))) rfl ?_)
                  refine jn_elim h ?_; clear h; intro k139 hk140 h
                  refine RL.joinAt (A := Bool) 15 (fun s129 ρ => ρ 103 = .bool s129 ∧ ρ 0 = .int .i64 p0 ∧ ρ 5 = .pointer x17.1 ∧ ρ 7 = .pointer x19.1 ∧ ρ 49 = Sl.v p1 ∧ ρ 50 = .int .i64 (p1.len : Int) ∧ ρ 51 = .int .i64 s33 ∧ ρ 85 = .bool s78) k139 ?_ ?_
                  · rintro s129 ρ w130 ⟨e131, e132, e133, e134, e135, e136, e137, e138⟩ h
                    subst hk140
                    dsimp only [List.drop]
                    refine RL.opS trivial rfl (OpW.pick (b := false) (v := .bool s129) (e138.trans (congrArg Value.bool hb90)) e131 ?_)
                    refine RL.nil ?_
                    exact ⟨s129, ⟨rfl, e132, e133, e134, e135, e136, e137⟩, h⟩
                  · clear hk140
                    dsimp only [List.take]
                    obtain ⟨ha, hc⟩ := h
                    rcases Bool.eq_false_or_eq_true (!decide (x55 = 0)) with hb92 | hb92
                    · have h := ha hb92; clear ha hc
                      refine RL.opS (wanted_of rfl rfl hb92) rfl (OpW.move (v := .int .i64 x55) e86 ?_)
                      refine RL.opS (wanted_of rfl rfl hb92) rfl (OpW.bin (k := .i64) (a := x55) (b := 40) (v := .bool (!decide (x55 = 40))) rfl rfl rfl ?_)
                      refine RL.opS (wanted_of rfl rfl hb92) rfl (OpW.move (v := .bool (!decide (x55 = 40))) rfl ?_)
                      refine jn_elim h ?_; clear h; intro k127 hk128 h
                      refine RL.joinAt (A := Bool) 5 (fun s98 ρ => ρ 96 = .bool s98 ∧ ρ 0 = .int .i64 p0 ∧ ρ 5 = .pointer x17.1 ∧ ρ 7 = .pointer x19.1 ∧ ρ 14 = .int .i64 x51 ∧ ρ 49 = Sl.v p1 ∧ ρ 50 = .int .i64 (p1.len : Int) ∧ ρ 51 = .int .i64 s33 ∧ ρ 85 = .bool s78 ∧ ρ 88 = .bool (!decide (x55 = 0))) k127 ?_ ?_
                      · rintro s98 ρ w99 ⟨e100, e101, e102, e103, e104, e105, e106, e107, e108, e109⟩ h
                        subst hk128
                        dsimp only [List.drop]
                        refine RL.opS (wanted_of rfl e109 hb92) rfl (OpW.move (v := .bool s98) e100 ?_)
                        refine jn_elim h ?_; clear h; intro k125 hk126 h
                        refine RL.joinAt (A := Bool) 5 (fun s114 ρ => ρ 102 = .bool s114 ∧ ρ 0 = .int .i64 p0 ∧ ρ 5 = .pointer x17.1 ∧ ρ 7 = .pointer x19.1 ∧ ρ 49 = Sl.v p1 ∧ ρ 50 = .int .i64 (p1.len : Int) ∧ ρ 51 = .int .i64 s33 ∧ ρ 85 = .bool s78 ∧ ρ 88 = .bool (!decide (x55 = 0))) k125 ?_ ?_
                        · rintro s114 ρ w115 ⟨e116, e117, e118, e119, e120, e121, e122, e123, e124⟩ h
                          subst hk126
                          dsimp only [List.drop]
                          refine RL.opS (wanted_of rfl e123 hb90) rfl (OpW.pick (b := true) (v := .bool s114) (e124.trans (congrArg Value.bool hb92)) e116 ?_)
                          refine RL.nil ?_
                          exact ⟨s114, ⟨rfl, e117, e118, e119, e120, e121, e122, e123⟩, h⟩
                        · clear hk126
                          dsimp only [List.take]
                          obtain ⟨ha, hc⟩ := h
                          rcases Bool.eq_false_or_eq_true s98 with hb110 | hb110
                          · have h := ha hb110; clear ha hc
                            refine RL.skipS (notWanted_of rfl rfl hb110) rfl ?_
                            refine RL.skipS (notWanted_of rfl rfl hb110) rfl ?_
                            refine RL.skipS (notWanted_of rfl rfl hb110) rfl ?_
                            refine RL.skipS (notWanted_of rfl rfl hb110) rfl ?_
                            refine RL.opS (wanted_of rfl e109 hb92) rfl (OpW.pick (b := true) (v := .bool true) (congrArg Value.bool hb110) rfl ?_)
                            refine RL.nil ?_
                            exact ⟨true, ⟨rfl, e101, e102, e103, e105, e106, e107, e108, e109⟩, h⟩
                          · have h := hc hb110; clear ha hc
                            refine RL.opS (wanted_of rfl rfl hb110) rfl (OpW.move (v := .pointer x17.1) e102 ?_)
                            refine RL.opS (wanted_of rfl rfl hb110) rfl (OpW.callR (al := [.pointer x17.1]) Try.func19 fb_19 fn_19 rfl h (fun x112 w113 h => ?_))
                            refine RL.opS (wanted_of rfl rfl hb110) rfl (OpW.move (v := .int .i64 x51) e104 ?_)
                            refine RL.opS (wanted_of rfl rfl hb110) rfl (OpW.bin (k := .i64) (a := x112) (b := x51) (v := .bool (!decide (x112 = x51))) rfl rfl rfl ?_)
                            refine RL.opS (wanted_of rfl e109 hb92) rfl (OpW.pick (b := false) (v := .bool (!decide (x112 = x51))) (congrArg Value.bool hb110) rfl ?_)
                            refine RL.nil ?_
                            exact ⟨(!decide (x112 = x51)), ⟨rfl, e101, e102, e103, e105, e106, e107, e108, e109⟩, h⟩
                      · clear hk128
                        dsimp only [List.take]
                        obtain ⟨ha, hc⟩ := h
                        rcases Bool.eq_false_or_eq_true (!decide (x55 = 40)) with hb94 | hb94
                        · have h := ha hb94; clear ha hc
                          refine RL.skipS (notWanted_of rfl rfl hb94) rfl ?_
                          refine RL.skipS (notWanted_of rfl rfl hb94) rfl ?_
                          refine RL.skipS (notWanted_of rfl rfl hb94) rfl ?_
                          refine RL.skipS (notWanted_of rfl rfl hb94) rfl ?_
                          refine RL.opS (wanted_of rfl rfl hb92) rfl (OpW.pick (b := true) (v := .bool true) (congrArg Value.bool hb94) rfl ?_)
                          refine RL.nil ?_
                          exact ⟨true, ⟨rfl, e81, e82, e83, e85, e87, e88, e89, rfl, rfl⟩, h⟩
                        · have h := hc hb94; clear ha hc
                          refine RL.opS (wanted_of rfl rfl hb94) rfl (OpW.move (v := .pointer x19.1) e83 ?_)
                          refine RL.opS (wanted_of rfl rfl hb94) rfl (OpW.callR (al := [.pointer x19.1]) Try.func17 fb_17 fn_17 rfl h (fun x96 w97 h => ?_))
                          refine RL.opS (wanted_of rfl rfl hb94) rfl (OpW.move (v := .int .i64 x49) e84 ?_)
                          refine RL.opS (wanted_of rfl rfl hb94) rfl (OpW.bin (k := .i64) (a := x96) (b := x49) (v := .bool (!decide (x96 = x49))) rfl rfl rfl ?_)
                          refine RL.opS (wanted_of rfl rfl hb92) rfl (OpW.pick (b := false) (v := .bool (!decide (x96 = x49))) (congrArg Value.bool hb94) rfl ?_)
                          refine RL.nil ?_
                          exact ⟨(!decide (x96 = x49)), ⟨rfl, e81, e82, e83, e85, e87, e88, e89, rfl, rfl⟩, h⟩
                    · have h := hc hb92; clear ha hc
                      refine RL.skipS (notWanted_of rfl rfl hb92) rfl ?_
                      refine RL.skipS (notWanted_of rfl rfl hb92) rfl ?_
                      refine RL.skipS (notWanted_of rfl rfl hb92) rfl ?_
                      refine RL.skipS (notWanted_undef rfl rfl) rfl ?_
                      refine RL.skipS (notWanted_undef rfl rfl) rfl ?_
                      refine RL.skipS (notWanted_undef rfl rfl) rfl ?_
                      refine RL.skipS (notWanted_undef rfl rfl) rfl ?_
                      refine RL.skipS (notWanted_of rfl rfl hb92) rfl ?_
                      refine RL.skipS (notWanted_of rfl rfl hb92) rfl ?_
                      refine RL.skipS (notWanted_undef rfl rfl) rfl ?_
                      refine RL.skipS (notWanted_undef rfl rfl) rfl ?_
                      refine RL.skipS (notWanted_undef rfl rfl) rfl ?_
                      refine RL.skipS (notWanted_undef rfl rfl) rfl ?_
                      refine RL.skipS (notWanted_of rfl rfl hb92) rfl ?_
                      refine RL.opS (wanted_of rfl rfl hb90) rfl (OpW.pick (b := false) (v := .bool false) (congrArg Value.bool hb92) rfl ?_)
                      refine RL.nil ?_
                      exact ⟨false, ⟨rfl, e81, e82, e83, e87, e88, e89, rfl⟩, h⟩
            · clear hk154
              dsimp only [List.take]
              obtain ⟨ha, hc⟩ := h
              rcases Bool.eq_false_or_eq_true (!((decide (x55 = 0)) == (decide ((x47.length : Int) ≤ x49)))) with hb57 | hb57
              · have h := ha hb57; clear ha hc
                refine RL.skipS (notWanted_of rfl rfl hb57) rfl ?_
                refine RL.skipS (notWanted_of rfl rfl hb57) rfl ?_
                refine RL.skipS (notWanted_of rfl rfl hb57) rfl ?_
                refine RL.skipS (notWanted_undef rfl rfl) rfl ?_
                refine RL.skipS (notWanted_undef rfl rfl) rfl ?_
                refine RL.skipS (notWanted_undef rfl rfl) rfl ?_
                refine RL.skipS (notWanted_undef rfl rfl) rfl ?_
                refine RL.skipS (notWanted_undef rfl rfl) rfl ?_
                refine RL.skipS (notWanted_undef rfl rfl) rfl ?_
                refine RL.skipS (notWanted_of rfl rfl hb57) rfl ?_
                refine RL.opS trivial rfl (OpW.pick (b := true) (v := .bool true) (congrArg Value.bool hb57) rfl ?_)
                refine RL.nil ?_
                exact ⟨true, ⟨rfl, e37, e38, e39, rfl, rfl, rfl, e40, e41, e36⟩, h⟩
              · have h := hc hb57; clear ha hc
                refine RL.opS (wanted_of rfl rfl hb57) rfl (OpW.move (v := .int .i64 x55) rfl ?_)
                refine RL.opS (wanted_of rfl rfl hb57) rfl (OpW.bin (k := .i64) (a := x55) (b := 0) (v := .bool (decide (x55 = 0))) rfl rfl rfl ?_)
                refine RL.opS (wanted_of rfl rfl hb57) rfl (OpW.move (v := .bool (decide (x55 = 0))) rfl ?_)
                refine jn_elim h ?_; clear h; intro k76 hk77 h
                refine RL.joinAt (A := Bool) 7 (fun s63 ρ => ρ 83 = .bool s63 ∧ ρ 0 = .int .i64 p0 ∧ ρ 5 = .pointer x17.1 ∧ ρ 7 = .pointer x19.1 ∧ ρ 13 = .int .i64 x49 ∧ ρ 14 = .int .i64 x51 ∧ ρ 15 = .int .i64 x55 ∧ ρ 49 = Sl.v p1 ∧ ρ 50 = .int .i64 (p1.len : Int) ∧ ρ 51 = .int .i64 s33 ∧ ρ 73 = .bool (!((decide (x55 = 0)) == (decide ((x47.length : Int) ≤ x49))))) k76 ?_ ?_
                · rintro s63 ρ w64 ⟨e65, e66, e67, e68, e69, e70, e71, e72, e73, e74, e75⟩ h
                  subst hk77
                  dsimp only [List.drop]
                  refine RL.opS trivial rfl (OpW.pick (b := false) (v := .bool s63) (e75.trans (congrArg Value.bool hb57)) e65 ?_)
                  refine RL.nil ?_
                  exact ⟨s63, ⟨rfl, e66, e67, e68, e69, e70, e71, e72, e73, e74⟩, h⟩
                · clear hk77
                  dsimp only [List.take]
                  obtain ⟨ha, hc⟩ := h
                  rcases Bool.eq_false_or_eq_true (decide (x55 = 0)) with hb59 | hb59
                  · have h := ha hb59; clear ha hc
                    refine RL.opS (wanted_of rfl rfl hb59) rfl (OpW.move (v := .pointer x19.1) e39 ?_)
                    refine RL.opS (wanted_of rfl rfl hb59) rfl (OpW.callR (al := [.pointer x19.1]) Try.func17 fb_17 fn_17 rfl h (fun x61 w62 h => ?_))
                    refine RL.opS (wanted_of rfl rfl hb59) rfl (OpW.move (v := .int .i64 x49) rfl ?_)
                    refine RL.opS (wanted_of rfl rfl hb59) rfl (OpW.move (v := .int .i64 (x47.length : Int)) rfl ?_)
                    refine RL.opS (wanted_of rfl rfl hb59) rfl (OpW.bin (k := .i64) (a := x49) (b := (x47.length : Int)) (v := .int .i64 (IntKind.i64.wrap (x49 - (x47.length : Int)))) rfl rfl rfl ?_)
                    refine RL.opS (wanted_of rfl rfl hb59) rfl (OpW.bin (k := .i64) (a := x61) (b := (IntKind.i64.wrap (x49 - (x47.length : Int)))) (v := .bool (!decide (x61 = (IntKind.i64.wrap (x49 - (x47.length : Int)))))) rfl rfl rfl ?_)
                    refine RL.opS (wanted_of rfl rfl hb57) rfl (OpW.pick (b := true) (v := .bool (!decide (x61 = (IntKind.i64.wrap (x49 - (x47.length : Int)))))) (congrArg Value.bool hb59) rfl ?_)
                    refine RL.nil ?_
                    exact ⟨(!decide (x61 = (IntKind.i64.wrap (x49 - (x47.length : Int))))), ⟨rfl, e37, e38, e39, rfl, rfl, rfl, e40, e41, e36, rfl⟩, h⟩
                  · have h := hc hb59; clear ha hc
                    refine RL.skipS (notWanted_of rfl rfl hb59) rfl ?_
                    refine RL.skipS (notWanted_of rfl rfl hb59) rfl ?_
                    refine RL.skipS (notWanted_of rfl rfl hb59) rfl ?_
                    refine RL.skipS (notWanted_of rfl rfl hb59) rfl ?_
                    refine RL.skipS (notWanted_of rfl rfl hb59) rfl ?_
                    refine RL.skipS (notWanted_of rfl rfl hb59) rfl ?_
                    refine RL.opS (wanted_of rfl rfl hb57) rfl (OpW.pick (b := false) (v := .bool false) (congrArg Value.bool hb59) rfl ?_)
                    refine RL.nil ?_
                    exact ⟨false, ⟨rfl, e37, e38, e39, rfl, rfl, rfl, e40, e41, e36, rfl⟩, h⟩
          · have h := hc hb42; clear ha hc
            refine CW.exit ?_
            refine CW.seq ?_
            refine CW.region ?_
            refine RL.opS trivial rfl (OpW.move (v := .pointer x19.1) e39 ?_)
            refine RL.opS trivial rfl (OpW.callR (al := [.pointer x19.1]) Try.func21 fb_21 fn_21 rfl h (fun x155 w156 h => ?_))
            refine RL.opS trivial rfl (OpW.bin (k := .i64) (a := x155) (b := 0) (v := .bool (decide (x155 = 0))) rfl rfl rfl ?_)
            refine RL.opS trivial rfl (OpW.move (v := .bool (decide (x155 = 0))) rfl ?_)
            refine jn_elim h ?_; clear h; intro k185 hk186 h
            refine RL.joinAt (A := Bool) 7 (fun s161 ρ => ρ 116 = .bool s161 ∧ ρ 5 = .pointer x17.1 ∧ ρ 7 = .pointer x19.1) k185 ?_ ?_
            · rintro s161 ρ w162 ⟨e163, e164, e165⟩ h
              subst hk186
              dsimp only [List.drop]
              refine RL.opS trivial rfl (OpW.move (v := .bool s161) e163 ?_)
              refine jn_elim h ?_; clear h; intro k183 hk184 h
              refine RL.joinAt (A := Bool) 4 (fun s170 ρ => ρ 121 = .bool s170 ∧ ρ 5 = .pointer x17.1) k183 ?_ ?_
              · rintro s170 ρ w171 ⟨e172, e173⟩ h
                subst hk184
                dsimp only [List.drop]
                refine RL.opS trivial rfl (OpW.move (v := .bool s170) e172 ?_)
                refine jn_elim h ?_; clear h; intro k181 hk182 h
                refine RL.joinAt (A := Bool) 4 (fun s178 ρ => ρ 126 = .bool s178) k181 ?_ ?_
                · rintro s178 ρ w179 e180 h
                  subst hk182
                  dsimp only [List.drop]
                  refine RL.opS trivial rfl (OpW.assign (v := .bool s178) e180 ?_)
                  refine RL.nil ?_
                  refine CW.ret ?_
                  exact ret_intro (res1 rfl rfl) ⟨s178, rfl, h⟩
                · clear hk182
                  dsimp only [List.take]
                  obtain ⟨ha, hc⟩ := h
                  rcases Bool.eq_false_or_eq_true s170 with hb174 | hb174
                  · have h := ha hb174; clear ha hc
                    refine RL.opS (wanted_of rfl rfl hb174) rfl (OpW.move (v := .pointer x17.1) e173 ?_)
                    refine RL.opS (wanted_of rfl rfl hb174) rfl (OpW.callR (al := [.pointer x17.1]) Try.func23 fb_23 fn_23 rfl h (fun x176 w177 h => ?_))
                    refine RL.opS (wanted_of rfl rfl hb174) rfl (OpW.bin (k := .i64) (a := x176) (b := 0) (v := .bool (decide (x176 = 0))) rfl rfl rfl ?_)
                    refine RL.opS trivial rfl (OpW.pick (b := true) (v := .bool (decide (x176 = 0))) (congrArg Value.bool hb174) rfl ?_)
                    refine RL.nil ?_
                    exact ⟨(decide (x176 = 0)), rfl, h⟩
                  · have h := hc hb174; clear ha hc
                    refine RL.skipS (notWanted_of rfl rfl hb174) rfl ?_
                    refine RL.skipS (notWanted_of rfl rfl hb174) rfl ?_
                    refine RL.skipS (notWanted_of rfl rfl hb174) rfl ?_
                    refine RL.opS trivial rfl (OpW.pick (b := false) (v := .bool false) (congrArg Value.bool hb174) rfl ?_)
                    refine RL.nil ?_
                    exact ⟨false, rfl, h⟩
              · clear hk184
                dsimp only [List.take]
                obtain ⟨ha, hc⟩ := h
                rcases Bool.eq_false_or_eq_true s161 with hb166 | hb166
                · have h := ha hb166; clear ha hc
                  refine RL.opS (wanted_of rfl rfl hb166) rfl (OpW.move (v := .pointer x19.1) e165 ?_)
                  refine RL.opS (wanted_of rfl rfl hb166) rfl (OpW.callR (al := [.pointer x19.1]) Try.func22 fb_22 fn_22 rfl h (fun x168 w169 h => ?_))
                  refine RL.opS (wanted_of rfl rfl hb166) rfl (OpW.bin (k := .i64) (a := x168) (b := 0) (v := .bool (decide (x168 = 0))) rfl rfl rfl ?_)
                  refine RL.opS trivial rfl (OpW.pick (b := true) (v := .bool (decide (x168 = 0))) (congrArg Value.bool hb166) rfl ?_)
                  refine RL.nil ?_
                  exact ⟨(decide (x168 = 0)), ⟨rfl, e164⟩, h⟩
                · have h := hc hb166; clear ha hc
                  refine RL.skipS (notWanted_of rfl rfl hb166) rfl ?_
                  refine RL.skipS (notWanted_of rfl rfl hb166) rfl ?_
                  refine RL.skipS (notWanted_of rfl rfl hb166) rfl ?_
                  refine RL.opS trivial rfl (OpW.pick (b := false) (v := .bool false) (congrArg Value.bool hb166) rfl ?_)
                  refine RL.nil ?_
                  exact ⟨false, ⟨rfl, e164⟩, h⟩
            · clear hk186
              dsimp only [List.take]
              obtain ⟨ha, hc⟩ := h
              rcases Bool.eq_false_or_eq_true (decide (x155 = 0)) with hb157 | hb157
              · have h := ha hb157; clear ha hc
                refine RL.opS (wanted_of rfl rfl hb157) rfl (OpW.move (v := .pointer x19.1) e39 ?_)
                refine RL.opS (wanted_of rfl rfl hb157) rfl (OpW.callR (al := [.pointer x19.1]) Try.func17 fb_17 fn_17 rfl h (fun x159 w160 h => ?_))
                refine RL.opS (wanted_of rfl rfl hb157) rfl (OpW.move (v := .int .i64 p0) e37 ?_)
                refine RL.opS (wanted_of rfl rfl hb157) rfl (OpW.bin (k := .i64) (a := p0) (b := 2) (v := .int .i64 (IntKind.i64.wrap (p0 - 2))) rfl rfl rfl ?_)
                refine RL.opS (wanted_of rfl rfl hb157) rfl (OpW.bin (k := .i64) (a := (IntKind.i64.wrap (p0 - 2))) (b := 512) (v := .int .i64 (IntKind.i64.wrap ((IntKind.i64.wrap (p0 - 2)) * 512))) rfl rfl rfl ?_)
                refine RL.opS (wanted_of rfl rfl hb157) rfl (OpW.bin (k := .i64) (a := x159) (b := (IntKind.i64.wrap ((IntKind.i64.wrap (p0 - 2)) * 512))) (v := .bool (decide (x159 = (IntKind.i64.wrap ((IntKind.i64.wrap (p0 - 2)) * 512))))) rfl rfl rfl ?_)
                refine RL.opS trivial rfl (OpW.pick (b := true) (v := .bool (decide (x159 = (IntKind.i64.wrap ((IntKind.i64.wrap (p0 - 2)) * 512))))) (congrArg Value.bool hb157) rfl ?_)
                refine RL.nil ?_
                exact ⟨(decide (x159 = (IntKind.i64.wrap ((IntKind.i64.wrap (p0 - 2)) * 512)))), ⟨rfl, e38, e39⟩, h⟩
              · have h := hc hb157; clear ha hc
                refine RL.skipS (notWanted_of rfl rfl hb157) rfl ?_
                refine RL.skipS (notWanted_of rfl rfl hb157) rfl ?_
                refine RL.skipS (notWanted_of rfl rfl hb157) rfl ?_
                refine RL.skipS (notWanted_of rfl rfl hb157) rfl ?_
                refine RL.skipS (notWanted_of rfl rfl hb157) rfl ?_
                refine RL.skipS (notWanted_of rfl rfl hb157) rfl ?_
                refine RL.opS trivial rfl (OpW.pick (b := false) (v := .bool false) (congrArg Value.bool hb157) rfl ?_)
                refine RL.nil ?_
                exact ⟨false, ⟨rfl, e38, e39⟩, h⟩
      · clear hk190
        dsimp only [List.take]
        obtain ⟨ha, hc⟩ := h
        rcases Bool.eq_false_or_eq_true (!decide (x19.2.2 = 0)) with hb21 | hb21
        · have h := ha hb21; clear ha hc
          refine RL.skipS (notWanted_of rfl rfl hb21) rfl ?_
          refine RL.skipS (notWanted_of rfl rfl hb21) rfl ?_
          refine RL.skipS (notWanted_of rfl rfl hb21) rfl ?_
          refine RL.skipS (notWanted_of rfl rfl hb21) rfl ?_
          refine RL.skipS (notWanted_of rfl rfl hb21) rfl ?_
          refine RL.skipS (notWanted_of rfl rfl hb21) rfl ?_
          refine RL.opS trivial rfl (OpW.pick (b := true) (v := .bool true) (congrArg Value.bool hb21) rfl ?_)
          refine RL.nil ?_
          exact ⟨true, ⟨rfl, e12, e13, rfl, rfl⟩, h⟩
        · have h := hc hb21; clear ha hc
          refine RL.opS (wanted_of rfl rfl hb21) rfl (OpW.move (v := .pointer x19.1) rfl ?_)
          refine RL.opS (wanted_of rfl rfl hb21) rfl (OpW.callR (al := [.pointer x19.1]) Try.func17 fb_17 fn_17 rfl h (fun x23 w24 h => ?_))
          refine RL.opS (wanted_of rfl rfl hb21) rfl (OpW.move (v := .int .i64 p0) e12 ?_)
          refine RL.opS (wanted_of rfl rfl hb21) rfl (OpW.bin (k := .i64) (a := p0) (b := 2) (v := .int .i64 (IntKind.i64.wrap (p0 - 2))) rfl rfl rfl ?_)
          refine RL.opS (wanted_of rfl rfl hb21) rfl (OpW.bin (k := .i64) (a := (IntKind.i64.wrap (p0 - 2))) (b := 512) (v := .int .i64 (IntKind.i64.wrap ((IntKind.i64.wrap (p0 - 2)) * 512))) rfl rfl rfl ?_)
          refine RL.opS (wanted_of rfl rfl hb21) rfl (OpW.bin (k := .i64) (a := x23) (b := (IntKind.i64.wrap ((IntKind.i64.wrap (p0 - 2)) * 512))) (v := .bool (!decide (x23 = (IntKind.i64.wrap ((IntKind.i64.wrap (p0 - 2)) * 512))))) rfl rfl rfl ?_)
          refine RL.opS trivial rfl (OpW.pick (b := false) (v := .bool (!decide (x23 = (IntKind.i64.wrap ((IntKind.i64.wrap (p0 - 2)) * 512))))) (congrArg Value.bool hb21) rfl ?_)
          refine RL.nil ?_
          exact ⟨(!decide (x23 = (IntKind.i64.wrap ((IntKind.i64.wrap (p0 - 2)) * 512)))), ⟨rfl, e12, e13, rfl, rfl⟩, h⟩
  · clear hk192
    dsimp only [List.take]
    obtain ⟨ha, hc⟩ := h
    rcases Bool.eq_false_or_eq_true (!x1) with hb3 | hb3
    · have h := ha hb3; clear ha hc
      refine RL.skipS (notWanted_of rfl rfl hb3) rfl ?_
      refine RL.skipS (notWanted_of rfl rfl hb3) rfl ?_
      refine RL.skipS (notWanted_of rfl rfl hb3) rfl ?_
      refine RL.skipS (notWanted_of rfl rfl hb3) rfl ?_
      refine RL.skipS (notWanted_of rfl rfl hb3) rfl ?_
      refine RL.skipS (notWanted_of rfl rfl hb3) rfl ?_
      refine RL.opS trivial rfl (OpW.pick (b := true) (v := .bool true) (congrArg Value.bool hb3) rfl ?_)
      refine RL.nil ?_
      exact ⟨true, ⟨rfl, rfl, rfl⟩, h⟩
    · have h := hc hb3; clear ha hc
      refine RL.opS (wanted_of rfl rfl hb3) rfl (OpW.move (v := .int .i64 p0) rfl ?_)
      refine RL.opS (wanted_of rfl rfl hb3) rfl (OpW.move (v := Sl.v p1) rfl ?_)
      refine RL.opS (wanted_of rfl rfl hb3) rfl (OpW.buildL (vs := [(1, Sl.v p1)]) (cs := [Value.int .i64 0, Sl.v p1, Value.int .i64 0, Value.int .u64 0, Value.int .i64 0]) (by rfl) (fun _ => by kernel_rfl) ?_)
      obtain ⟨hl_, ho_, h⟩ := h
      obtain ⟨b5, hb5_⟩ : ∃ b_, b_ = w2.heap.size := ⟨_, rfl⟩
      obtain ⟨w6, hw6_⟩ : ∃ w_, w_ = w2.alloc (.cells (List.toArray [Value.int .i64 0, Sl.v p1, Value.int .i64 0, Value.int .u64 0, Value.int .i64 0]) 29) := ⟨_, rfl⟩
      have h := h b5 w6 hb5_ hw6_
      refine RL.opS (wanted_of rfl rfl hb3) rfl (OpW.buildSliceE (vs := [(0, aggv [Value.int .i64 0, Sl.v p1, Value.int .i64 0, Value.int .u64 0, Value.int .i64 0])]) (cs := [Value.int .i64 0, Sl.v p1, Value.int .i64 0, Value.int .u64 0, Value.int .i64 0]) (by rfl) (fillOne mkz_30 (by simp) (by decide) (by decide) hl_) hb5_ hw6_ ?_)
      refine RL.opS (wanted_of rfl rfl hb3) rfl (OpW.callR (al := [.int .i64 p0, Sl.v ⟨some ⟨b5, 0, none⟩, 1, 1⟩]) Try.func14 fb_14 fn_14 rfl h (fun x7 w8 h => ?_))
      refine RL.opS (wanted_of rfl rfl hb3) rfl (OpW.not rfl ?_)
      refine RL.opS trivial rfl (OpW.pick (b := false) (v := .bool (!x7)) (congrArg Value.bool hb3) rfl ?_)
      refine RL.nil ?_
      exact ⟨(!x7), ⟨rfl, rfl, rfl⟩, h⟩
end Go.Proofs.Ytagkcbbbdlmcjaa
end
section
/- WalRoom: what is added takes of the room what it needs, and is refused, with nothing written, if that isn't there; emptied, all is free: the law answers true and leaves all that was there. -/
set_option linter.unusedVariables false
set_option linter.unusedSimpArgs false
namespace Go.Proofs.Ytagkcbbbdlmcjaa
open Go.Lift Go.Lift.Disk Go.Lift.Crc Go.Lift.Wal Go.RowKit
theorem fits_one {w w' : World} {b : Nat} {p : Sl} {l : List (List UInt8)} (h : Parts w p l) (hb : b = w.heap.size) (hw : w' = w.alloc (.cells [Value.int .i64 0, p.v, Value.int .i64 0, Value.int .u64 0, Value.int .i64 0].toArray 29)) :
    OpsJ w' ⟨some ⟨b, 0, none⟩, 1, 1⟩ [⟨0, p, l, (0, 0, 0)⟩] := by
  refine ⟨rfl, At.new hb hw, fun o ho => ?_⟩
  rw [List.mem_singleton.1 ho]
  exact ⟨h.ext (Ext.new hw), by show (0 : Int) ≤ 0 ∧ (0 : Int) < 18446744073709551616; decide⟩
theorem walRoom_ok (w : World) (n0 : Int) (_hw0 : (Lit.int .i64 n0).wf = true) (p : Sl) (l : List (List UInt8)) (h1 : Parts w p l) (hlc1 : p.len ≤ p.cap) (hcm1 : p.cap ≤ maxLen) (hb1 : ∀ b ∈ l, b.length ≤ maxLen) :
    Calls Try.prog 3 #[.int .i64 n0, p.v] w (Ret r3 fun x w' => x = true ∧ Ext w w') := by
  apply s3_calls
  refine cR_of (lives4_ok w) ?_
  rintro x1 w2 ⟨rfl, hx2⟩
  refine jn_of fun k1 hk1 => ⟨fun h => absurd h (by decide), fun _ => ?_⟩
  refine ⟨rfl, opj_one ⟨0, p, l, (0, 0, 0)⟩, fun b5 w6 hb5 hw6 => ?_⟩
  have hx6 : Ext w2 w6 := Ext.new hw6
  refine cR_of (fits4_ok w6 n0 _ _ (fits_one (h1.ext hx2) hb5 hw6)) ?_
  rintro x7 w8 ⟨hfit, hx8⟩
  have hxw8 := (hx2.trans hx6).trans hx8
  rw [hk1]
  refine ⟨fun _ => cR_of (lives4_ok w8) fun x w' ⟨hx, hw⟩ => ⟨hx, hxw8.trans hw⟩, fun hf => ?_⟩
  obtain ⟨hn3, hn7, _, hall⟩ := hfit (by simpa using hf)
  obtain ⟨hl6, hs3⟩ := hall _ (List.mem_singleton.2 rfl)
  simp only at hl6 hs3
  obtain ⟨m, rfl⟩ := Int.eq_ofNat_of_zero_le (show 0 ≤ n0 by omega)
  refine cR_of (new_ok w8 m (by omega) (by omega)) ?_
  rintro x17 w18 ⟨pd, bb, rfl, h18, hx18⟩
  obtain ⟨hpd, hbb, _, _⟩ := h18.lt
  have hpd : w8.heap.size ≤ pd := hpd
  have hbb : w8.heap.size ≤ bb := hbb
  have ho := open_ok h18 (upB hx18.size) 0 m (by omega) (by simp [fresh]) (fresh_bnd m 2 (by decide))
  rw [open_new m 0 (roomOf m) (by omega)] at ho
  refine cR_of ho ?_
  rintro ⟨x19a, x19b, x19c⟩ w20 ⟨pl, e1, hpl, e2, hrs, hW, hf20⟩
  simp only at e1 e2 hrs
  subst e1; subst e2
  have hx20 := footExt hf20 hx18 hpd hbb
  have hplw : w8.heap.size ≤ pl := Nat.le_trans hx18.size hpl
  have er : IntKind.i64.wrap (IntKind.i64.wrap ((m : Int) - 2) * 512) = ((roomOf m : Nat) : Int) := by
    rw [w64_eq (x := (m : Int) - 2) (by omega) (by omega), w64_eq (by omega) (by omega)]
    show _ = (((m - 2) * 512 : Nat) : Int)
    omega
  rw [er]
  obtain ⟨room, hroom⟩ : ∃ r, r = roomOf m := ⟨_, rfl⟩
  have hrl : room ≤ 2560 ∧ room + 1024 = m * 512 := by rw [hroom]; unfold roomOf; omega
  rw [← hroom] at hW ⊢
  refine jn_of fun k2 hk2 => ⟨fun h => absurd h (by simp), fun _ => ?_⟩
  refine cR_of (room_ok hW) ?_
  rintro x23 w24 ⟨rfl, hx24⟩
  have e0 : (!decide ((room : Int) - (((⟨1, [], 0, false⟩ : Lg).data.length : Nat) : Int) = (room : Int))) = false := by simp
  rw [e0, hk2]
  refine ⟨fun h => absurd h (by simp), fun _ => ?_⟩
  have hpl' := h1.len
  refine ⟨fun s w' => ∃ (k c : Nat) (D : Dk) (L : Lg), k ≤ l.length ∧ s = (k : Int) ∧ WAt w' (Up w8.heap.size) pd bb pl 0 room D L ∧ Free m c D ∧ L.broken = false ∧ L.seq ≤ k + 1 ∧ Bnd D (4200 * (l.length - k) + 5000) ∧ Ext w8 w',
    fun s _ => l.length - s.toNat, ⟨0, 2, _, _, Nat.zero_le _, rfl, hW.ext hx24, (free_fresh m).headed 0 1 0, rfl, Nat.le_refl _, ?_, hx20.trans hx24⟩, ?_⟩
  · exact ⟨by show 0 + 1 + 1 + _ < _; omega, by show 0 + _ < _; omega⟩
  rintro s w34 ⟨k, c, D, L, hk, rfl, hD, hF, hbr, hsq, hbd, hx34⟩
  have hxw := hxw8.trans hx34
  have hwf := hD.wf
  have hdl := hwf.hdata
  refine ⟨fun hlt => ?_, fun hge => ?_⟩
  · have hkl : k < l.length := by have := of_decide_eq_true hlt; omega
    obtain ⟨a, sl, ha, hc, hb⟩ := (h1.ext hxw).get hkl
    have hsk := hs3 _ (List.getElem_mem hkl)
    refine ⟨a, _, ha, by omega, by omega, rfl, sl, by rw [Int.toNat_natCast, Nat.mul_one]; exact hc, _, hb.1, hb.2, ?_⟩
    refine cR_of (rframe_ok w34 l[k] (by omega)) ?_
    rintro x47 w48 ⟨rfl, hx48⟩
    have hfl := frameB_len l[k]
    have hD48 := hD.ext hx48
    refine cR_of (room_ok hD48) ?_
    rintro x49 w50 ⟨rfl, hx50⟩
    have hD50 := hD48.ext hx50
    refine cR_of (changes_ok hD50.disk) ?_
    rintro x51 w52 ⟨rfl, rfl⟩
    intro b53 w54 hb53 hw54
    have hx54 : Ext w50 w54 := Ext.new hw54
    have hxx := (hx48.trans hx50).trans hx54
    have hx54' := hx34.trans hxx
    have hp := parts_one hb53 hw54 (hb.ext (hx48.trans hx50))
    refine cR_of (add_ok (hD50.ext hx54) (upB hx54'.size) (hbd.mono (by omega)) _ _ hp (by simp) (by intro s hs; rw [List.mem_singleton.1 hs]; omega)) ?_
    have hg1 := gather_one l[k] room L.data
    have hsl : L.seq ≠ last := by unfold last; omega
    have hbdA : Bnd (addD D L 0 room [l[k]]).1 (4200 * (l.length - (k + 1)) + 5000) := Bnd.addD (hbd.mono (by omega)) (by omega)
    generalize hfb : (frameB l[k]).length = nf at hfl hg1 ⊢
    by_cases hno : room < L.data.length + nf
    · rw [if_pos hno] at hg1
      have e3 : addD D L 0 room [l[k]] = (D, L, 40) := by
        unfold addD
        rw [if_neg (by rw [hbr]; simp), if_neg (by simp), hg1]
      rw [e3] at hbdA ⊢
      rintro x55 w56 ⟨rfl, hD56, hf56⟩
      have hx56 := wfootExt hf56 hx54' hpd hbb hplw
      refine jn_of fun k3 hk3 => ?_
      have e4 : (!((decide ((40 : Int) = 0)) == (decide ((nf : Int) ≤ (room : Int) - (L.data.length : Int))))) = false := by
        rw [decide_eq_false (show ¬ ((nf : Int) ≤ (room : Int) - (L.data.length : Int)) by omega)]
        decide
      dsimp only
      rw [e4]
      refine ⟨fun h => absurd h (by simp), fun _ => ?_⟩
      refine jn_of fun k4 hk4 => ⟨fun h => absurd h (by simp), fun _ => ?_⟩
      rw [hk4, hk3]
      refine jn_of fun k5 hk5 => ⟨fun h => absurd h (by simp), fun _ => ?_⟩
      refine jn_of fun k6 hk6 => ⟨fun _ => ?_, fun h => absurd h (by simp)⟩
      refine jn_of fun k7 hk7 => ⟨fun h => absurd h (by simp), fun _ => ?_⟩
      refine cR_of (room_ok hD56) ?_
      rintro x96 w97 ⟨rfl, hx97⟩
      dsimp only
      rw [show (!decide ((room : Int) - (L.data.length : Int) = (room : Int) - (L.data.length : Int))) = false by simp, hk7]
      refine jn_of fun k8 hk8 => ⟨fun h => absurd h (by simp), fun _ => ?_⟩
      refine cR_of (changes_ok (hD56.ext hx97).disk) ?_
      rintro x112 w113 ⟨rfl, rfl⟩
      dsimp only
      rw [show (!decide ((D.changes : Int) = (D.changes : Int))) = false by simp, hk8, hk6, hk5]
      refine ⟨fun h => absurd h (by simp), fun _ => ?_⟩
      rw [w64_eq (by omega) (by omega)]
      exact ⟨⟨k + 1, c, D, L, by omega, by omega, hD56.ext hx97, hF, hbr, by omega, hbdA, hx56.trans hx97⟩, by simp only; omega⟩
    · rw [if_neg hno] at hg1
      obtain ⟨D', c', e3, hF', hpe⟩ := add_free (frm := 0) hF hbr (by simp) hsl hg1 (by omega) (by omega)
      rw [e3] at hbdA ⊢
      rintro x55 w56 ⟨rfl, hD56, hf56⟩
      have hx56 := wfootExt hf56 hx54' hpd hbb hplw
      refine jn_of fun k3 hk3 => ?_
      have e4 : (!((decide ((0 : Int) = 0)) == (decide ((nf : Int) ≤ (room : Int) - (L.data.length : Int))))) = false := by
        rw [decide_eq_true (show ((nf : Int) ≤ (room : Int) - (L.data.length : Int)) by omega)]
        decide
      dsimp only
      rw [e4]
      refine ⟨fun h => absurd h (by simp), fun _ => ?_⟩
      refine jn_of fun k4 hk4 => ⟨fun _ => ?_, fun h => absurd h (by simp)⟩
      refine cR_of (room_ok hD56) ?_
      rintro x61 w62 ⟨rfl, hx62⟩
      dsimp only
      have e5 : (!decide ((room : Int) - ((L.data ++ frameB l[k]).length : Int) = IntKind.i64.wrap ((room : Int) - (L.data.length : Int) - (nf : Int)))) = false := by
        rw [w64_eq (by omega) (by omega), List.length_append, hfb]
        simp
        omega
      rw [e5, hk4, hk3]
      refine jn_of fun k5 hk5 => ⟨fun h => absurd h (by simp), fun _ => ?_⟩
      refine jn_of fun k6 hk6 => ⟨fun h => absurd h (by simp), fun _ => ?_⟩
      rw [hk6, hk5]
      refine ⟨fun h => absurd h (by simp), fun _ => ?_⟩
      rw [w64_eq (by omega) (by omega)]
      exact ⟨⟨k + 1, c', D', _, by omega, by omega, hD56.ext hx62, hF', rfl, by show L.seq + 1 ≤ _; omega, hbdA, hx56.trans hx62⟩, by simp only; omega⟩
  · have hge : k = l.length := by have := of_decide_eq_false hge; omega
    have hsl : L.seq ≠ last := by unfold last; omega
    refine cR_of (reset_ok hD (upB hx34.size) (hbd.mono (by omega))) ?_
    have hw := headW_free hF.down hF.falls (frm := 0) (seq := L.seq + 1) (n := 0) (by rw [hF.len]; omega)
    have e3 : resetD D L 0 = (headed D 0 (L.seq + 1) 0, ⟨L.seq + 1, [], 0, false⟩, 0) := by
      unfold resetD
      rw [if_neg (by rw [hbr]; simp), if_neg hsl, hw]
      simp
    rw [e3]
    rintro x155 w156 ⟨rfl, hD156, hf156⟩
    have hx156 := wfootExt hf156 hx34 hpd hbb hplw
    refine jn_of fun k3 hk3 => ⟨fun _ => ?_, fun h => absurd h (by simp)⟩
    refine cR_of (room_ok hD156) ?_
    rintro x159 w160 ⟨rfl, hx160⟩
    have e4 : (decide ((room : Int) - (((⟨L.seq + 1, [], 0, false⟩ : Lg).data.length : Nat) : Int) = (room : Int))) = true := by simp
    dsimp only at e4 ⊢
    rw [e4, hk3]
    refine jn_of fun k4 hk4 => ⟨fun _ => ?_, fun h => absurd h (by simp)⟩
    have h160 := hD156.ext hx160
    refine cR_of (len_ok h160) ?_
    rintro x168 w169 ⟨rfl, rfl⟩
    show k4 true _
    rw [hk4]
    refine jn_of fun k5 hk5 => ⟨fun _ => ?_, fun h => absurd h (by simp)⟩
    refine cR_of (pending_ok h160.disk) ?_
    rintro x176 w177 ⟨rfl, rfl⟩
    show k5 true _
    rw [hk5]
    exact ⟨rfl, (hxw8.trans hx156).trans hx160⟩
end Go.Proofs.Ytagkcbbbdlmcjaa
end
