/- Parts of a proof, one behind the other: readings of functions, what they do, and what follows. -/
import Derived.Test.YtagkcbbbdlmcjaaMWA4
section
/- The journal's own trial at the head of each law; scripts of a size. -/
set_option linter.unusedVariables false
set_option linter.unusedSimpArgs false
namespace Go.Proofs.Ytagkcbbbdlmcjaa
open Go.Lift Go.Lift.Disk Go.Lift.Crc Go.Lift.Wal Go.RowKit
/-- a journal's struct, whatever its disk does -/
def LogAt (w : World) (pd pl frm room : Nat) (L : Lg) : Prop := ∃ sd : Sl, Blk w pl 95 (logC pd frm room L.seq sd L.count L.broken) ∧ sd.len = L.data.length ∧ LgWf L frm room
section
variable {w w' : World} {lo : Nat → Prop} {pd bb pl frm room : Nat} {D : Dk} {L : Lg}
theorem WAt.log (h : WAt w lo pd bb pl frm room D L) : LogAt w pd pl frm room L := by
  obtain ⟨g, sd, h⟩ := h
  exact ⟨sd, h.log, h.data.1.symm, h.wf⟩
theorem LogAt.fr {X : Nat → Prop} (h : LogAt w pd pl frm room L) (hf : Fr X w w') (hX : ¬ X pl) : LogAt w' pd pl frm room L := by
  obtain ⟨sd, h1, h2⟩ := h
  exact ⟨sd, h1.fr hf hX, h2⟩
theorem LogAt.ext (h : LogAt w pd pl frm room L) (hx : Ext w w') : LogAt w' pd pl frm room L := h.fr (X := fun _ => False) (Fr.of hx) fun h => h
theorem room_ok2 (h : LogAt w pd pl frm room L) : Calls Try.prog 17 #[.pointer (lp pl)] w (Ret r17 fun x w' => x = (room : Int) - (L.data.length : Int) ∧ Ext w w') := by
  obtain ⟨sd, h1, h2, h3⟩ := h
  apply s17_calls
  refine ⟨fun h => absurd h (by simp), fun _ => ?_⟩
  intro w2 hw2
  have hx2 : Ext w w2 := by subst hw2; exact Ext.drew _
  refine ⟨_, rfl, (room : Int), by rw [add_plain]; exact h1.cell rfl, _, rfl, sd, by rw [add_plain]; exact h1.cell rfl, ?_, hx2⟩
  have h4 := h3.hroom
  have h5 := h3.hdata
  rw [w64_eq (by omega) (by omega)]
  omega
theorem len_ok2 (h : LogAt w pd pl frm room L) : Calls Try.prog 22 #[.pointer (lp pl)] w (Ret r22 fun x w' => x = (L.count : Int) ∧ w = w') := by
  obtain ⟨sd, h1, h2, h3⟩ := h
  apply s22_calls
  refine ⟨fun h => absurd h (by simp), fun _ => ?_⟩
  exact ⟨_, rfl, (L.count : Int), by rw [add_plain]; exact h1.cell rfl, rfl, rfl⟩
theorem broken_ok2 (h : LogAt w pd pl frm room L) : Calls Try.prog 46 #[.pointer (lp pl)] w (Ret r46 fun x w' => x = L.broken ∧ w = w') := by
  obtain ⟨sd, h1, h2, h3⟩ := h
  apply s46_calls
  refine jn_of fun k hk => ⟨fun h => absurd h (by simp), fun _ => ?_⟩
  refine ⟨_, rfl, L.broken, by rw [add_plain]; exact h1.cell rfl, ?_⟩
  rw [hk]
  exact ⟨rfl, rfl⟩
theorem wfootExt {w0 : World} (hf : Fr (WFoot pd bb pl) w w') (hx : Ext w0 w) (h1 : w0.heap.size ≤ pd) (h2 : w0.heap.size ≤ bb) (h3 : w0.heap.size ≤ pl) : Ext w0 w' :=
  hf.ext hx fun k _ hk => by
    rcases hk with (e | e) | e <;> rw [e] <;> assumption
end
theorem open_fresh {D : Dk} {frm room : Nat} (h0 : D.down = false) (h1 : (headOf D frm room).1 = 0) (h2 : (headW D frm 1 0).2 = 0) : openD D frm room = ((headW D frm 1 0).1, .is ⟨1, [], 0, false⟩ []) := by
  unfold openD
  rw [if_neg (by rw [h0]; simp), if_pos h1, if_pos h2]
theorem open_found {D : Dk} {frm room sq n : Nat} {A : List UInt8} {rs : List (List UInt8)} (h0 : D.down = false) (h1 : headOf D frm room = (sq, n)) (hs : sq ≠ 0) (h2 : dataOf D frm n = A) (h3 : parse A = (rs, 0)) : openD D frm room = (D, .is ⟨sq, A, rs.length, false⟩ rs) := by
  unfold openD
  rw [if_neg (by rw [h0]; simp), h1]
  simp only
  rw [if_neg hs, h2, h3]
  rfl
theorem add_done {D : Dk} {L : Lg} {frm room : Nat} {l : List (List UInt8)} {A : List UInt8} (hb : L.broken = false) (hl : l ≠ []) (hg : gather l room L.data = some A) (hs : L.seq ≠ last)
    (he : (addHead (layF (A.length / 512 + 1) D frm A (L.data.length / 512)) frm (L.seq + 1) A.length).2 = 0) :
    addD D L frm room l = ((addHead (layF (A.length / 512 + 1) D frm A (L.data.length / 512)) frm (L.seq + 1) A.length).1, ⟨L.seq + 1, A, L.count + l.length, false⟩, 0) := by
  unfold addD
  rw [if_neg (by rw [hb]; simp), if_neg hl, hg]
  simp only
  rw [if_neg hs, if_pos he]
def wvA : List UInt8 := frameB [97, 98] ++ frameB []
theorem wv_gather : gather [[97, 98], []] 512 [] = some wvA := by decide +kernel
def wvD1 : Dk := (headW (fresh 4) 1 1 0).1
theorem wv_head0 : (headOf (fresh 4) 1 512).1 = 0 := by decide +kernel
theorem wv_e1 : (headW (fresh 4) 1 1 0).2 = 0 := by decide +kernel
def wvR : Dk × Int := addHead (layF (wvA.length / 512 + 1) wvD1 1 wvA 0) 1 2 wvA.length
theorem wv_e2 : wvR.2 = 0 := by decide +kernel
theorem wv_down : wvR.1.down = false := by decide +kernel
theorem wv_head : headOf wvR.1 1 512 = (2, 12) := by decide +kernel
theorem wv_data : dataOf wvR.1 1 12 = wvA := by decide +kernel
theorem wv_parse : parse wvA = ([[97, 98], []], 0) := by decide +kernel
theorem wv_len : wvA.length = 12 := by decide +kernel
theorem wv_b0 : Bnd (fresh 4) 2 := by unfold Bnd; decide +kernel
theorem wv_b1 : Bnd wvD1 5000 := by unfold Bnd; decide +kernel
theorem wv_b2 : Bnd wvR.1 2 := by unfold Bnd; decide +kernel
theorem wv_open1 : openD (fresh 4) 1 (roomOf 3) = (wvD1, .is ⟨1, [], 0, false⟩ []) := open_fresh rfl wv_head0 wv_e1
theorem wv_add : addD wvD1 ⟨1, [], 0, false⟩ 1 (roomOf 3) [[97, 98], []] = (wvR.1, ⟨2, wvA, 2, false⟩, 0) := add_done rfl (by simp) wv_gather (by decide) wv_e2
theorem wv_open2 : openD wvR.1 1 (roomOf 3) = (wvR.1, .is ⟨2, wvA, 2, false⟩ [[97, 98], []]) := open_found wv_down wv_head (by decide) wv_data wv_parse
theorem addD_bl (D : Dk) : wvR.1.bl.length = 4 := by decide +kernel
theorem lives4_ok (w : World) : Calls Try.prog 13 #[] w (Ret r13 fun x w' => x = true ∧ Ext w w') := by
  apply s13_calls
  refine cR_of (new_ok w 4 (by decide) (by decide)) ?_
  rintro x1 w2 ⟨pd, bb, rfl, h2, hx2⟩
  obtain ⟨hpd, hbb, _, _⟩ := h2.lt
  have hpd : w.heap.size ≤ pd := hpd
  have hbb : w.heap.size ≤ bb := hbb
  have ho := open_ok h2 (upB hx2.size) 1 3 (by decide) (by simp [fresh]) wv_b0
  rw [wv_open1] at ho
  refine cR_of ho ?_
  rintro ⟨x3a, x3b, x3c⟩ w4 ⟨pl, e1, hpl, e2, hrs, hW, hf4⟩
  simp only at e1 e2 hrs
  subst e1; subst e2
  have hx4 := footExt hf4 hx2 hpd hbb
  have hplw : w.heap.size ≤ pl := Nat.le_trans hx2.size hpl
  have hrl := hrs.len
  have hrl : x3b.len = 0 := hrl
  refine jn_of fun k1 hk1 => ⟨fun h => absurd h (by simp), fun _ => ?_⟩
  simp only
  rw [hrl, hk1]
  refine jn_of fun k2 hk2 => ⟨fun h => absurd h (by simp), fun _ => ?_⟩
  rw [hk2]
  refine jn_of fun k3 hk3 => ⟨fun h => absurd h (by simp), fun _ => ?_⟩
  intro b22 w23 hb22 hw23
  refine ⟨b22, 0, _, 5, (0, 0), rfl, by rw [hb22, hw23]; exact heap_new _ _, ?_⟩
  intro w24 hw24
  obtain ⟨hA, hx24⟩ := at_frozen_new hb22 hw23 hw24
  intro b25 w26 hb25 hw26
  have hx26 : Ext w24 w26 := Ext.new hw26
  have hx26' := hx24.trans hx26
  have hp : Parts w26 ⟨some ⟨b25, 0, none⟩, 2, 2⟩ [[97, 98], []] := by
    refine ⟨[⟨some ⟨b22, 0, none⟩, 2, 2⟩, nilSl], rfl, rfl, At.new hb25 hw26, ?_⟩
    intro k s c hs hc
    rcases k with _ | _ | k
    · simp at hs hc
      subst hs; subst hc
      exact ⟨rfl, hx26.at hA⟩
    · simp at hs hc
      subst hs; subst hc
      exact ⟨rfl, rfl⟩
    · simp at hs
  have ha := add_ok (hW.ext hx26') (upB (hx4.trans hx26').size) wv_b1 _ _ hp (by decide) (by decide)
  rw [wv_add] at ha
  refine cR_of ha ?_
  rintro x27 w28 ⟨rfl, hW28, hf28⟩
  have hx28 := wfootExt hf28 (hx4.trans hx26') hpd hbb hplw
  rw [hk3]
  refine ⟨fun h => absurd h (by simp), fun _ => ?_⟩
  have ho2 := open_ok hW28.disk (upB hx28.size) 1 3 (by decide) (by show 1 + 3 ≤ wvR.1.bl.length; rw [addD_bl wvD1]; decide) wv_b2
  have e3 : openD (wvR.1, (⟨2, wvA, 2, false⟩ : Lg), (0 : Int)).1 1 (roomOf 3) = (wvR.1, .is ⟨2, wvA, 2, false⟩ [[97, 98], []]) := wv_open2
  rw [e3] at ho2
  obtain ⟨_, _, _, hpll, hpdl, hbbl⟩ := hW28.lt
  have hLog := hW28.log
  have hpln : ¬ Foot pd bb pl := by
    obtain ⟨g, sd, hX⟩ := hW28
    exact hX.lt.2.2.2.1
  refine cR_of ho2 ?_
  rintro ⟨x35a, x35b, x35c⟩ w36 ⟨pl2, e1, hpl2, e2, hrs2, hW2, hf36⟩
  simp only at e1 e2 hrs2
  subst e1; subst e2
  have hx36 := footExt hf36 hx28 hpd hbb
  have hLog36 := hLog.fr hf36 hpln
  have hp2 := hrs2.parts
  have hrl2 := hrs2.len
  have hrl2 : x35b.len = 2 := hrl2
  refine jn_of fun k4 hk4 => ⟨fun _ => ?_, fun h => absurd h (by simp)⟩
  simp only
  rw [hrl2, hk4]
  refine jn_of fun k5 hk5 => ⟨fun _ => ?_, fun h => absurd h (by simp)⟩
  obtain ⟨a, s, ha', hc, hb⟩ := hp2.get (k := 0) (by decide)
  refine ⟨a, _, ha', by decide, by simp only; omega, rfl, s, hc, _, hb.1, hb.2, ?_⟩
  rw [hk5]
  refine jn_of fun k6 hk6 => ⟨fun _ => ?_, fun h => absurd h (by simp)⟩
  obtain ⟨a, s, ha', hc, hb⟩ := hp2.get (k := 1) (by decide)
  have hsl : s.len = 0 := hb.1.symm
  refine ⟨a, _, ha', by decide, by simp only; omega, rfl, s, hc, ?_⟩
  show k6 _ _
  rw [hsl, hk6]
  refine jn_of fun k7 hk7 => ⟨fun _ => ?_, fun h => absurd h (by simp)⟩
  refine cR_of (room_ok2 hLog36) ?_
  rintro x66 w67 ⟨rfl, hx67⟩
  have e5 : ((roomOf 3 : Nat) : Int) - (((wvR.1, (⟨2, wvA, 2, false⟩ : Lg), (0 : Int)).2.1.data.length : Nat) : Int) = 500 := by
    show ((512 : Nat) : Int) - ((wvA.length : Nat) : Int) = 500
    rw [wv_len]; rfl
  rw [e5, hk7]
  refine jn_of fun k8 hk8 => ⟨fun _ => ?_, fun h => absurd h (by simp)⟩
  refine cR_of (len_ok2 (hLog36.ext hx67)) ?_
  rintro x74 w75 ⟨rfl, rfl⟩
  rw [hk8]
  exact ⟨rfl, hx36.trans hx67⟩

/-! ### scripts -/
structure OpJ where
  kind : Int
  ts : Sl
  texts : List (List UInt8)
  fall : Fall
def OpJ.cells (o : OpJ) : List Value := [.int .i64 o.kind, o.ts.v, .int .i64 o.fall.1, .int .u64 o.fall.2.1, .int .i64 o.fall.2.2]
structure OpJ.Ok (w : World) (o : OpJ) : Prop where
  texts : Parts w o.ts o.texts
  keep : 0 ≤ o.fall.2.1 ∧ o.fall.2.1 < 18446744073709551616
structure OpsJ (w : World) (s : Sl) (l : List OpJ) : Prop where
  len : s.len = l.length
  cells : AtO w s.a (l.flatMap OpJ.cells)
  ok : ∀ o ∈ l, o.Ok w
theorem OpJ.Ok.ext {w w' : World} {o : OpJ} (h : o.Ok w) (hx : Ext w w') : o.Ok w' := ⟨h.texts.ext hx, h.keep⟩
theorem OpsJ.ext {w w' : World} {s : Sl} {l : List OpJ} (h : OpsJ w s l) (hx : Ext w w') : OpsJ w' s l := ⟨h.len, Ext.atO hx h.cells, fun o ho => (h.ok o ho).ext hx⟩
theorem OpsJ.get {w : World} {s : Sl} {l : List OpJ} (h : OpsJ w s l) {k : Nat} (hk : k < l.length) : ∃ a, s.a = some a ∧ At w (a.add (k * 5)) l[k].cells := by
  have e := flatMap_at OpJ.cells (n := 5) (fun _ => rfl) l k hk
  have hl : k * 5 < (l.flatMap OpJ.cells).length := by
    rw [flatMap_len OpJ.cells (n := 5) (fun _ => rfl)]; omega
  obtain ⟨a, ha, _⟩ := h.cells.some_of (List.getElem?_eq_getElem hl)
  have hc := h.cells
  rw [ha] at hc
  refine ⟨a, ha, ?_⟩
  rw [← e]
  exact At.sub hc _ _
theorem opj_one (o : OpJ) : ∀ v ∈ o.cells, v.oneCell' = true := by
  intro v hv
  simp only [OpJ.cells, List.mem_cons, List.not_mem_nil, or_false] at hv
  rcases hv with rfl | rfl | rfl | rfl | rfl <;> rfl
def FitsJ (n : Int) (l : List OpJ) : Prop := 3 ≤ n ∧ n ≤ 7 ∧ l.length ≤ 30 ∧ ∀ o ∈ l, o.texts.length ≤ 6 ∧ ∀ s ∈ o.texts, s.length ≤ 3000
theorem fits4_ok (w : World) (n : Int) (p : Sl) (l : List OpJ) (h : OpsJ w p l) : Calls Try.prog 14 #[.int .i64 n, p.v] w (Ret r14 fun x w' => (x = true → FitsJ n l) ∧ Ext w w') := by
  apply s14_calls
  have hpl := h.len
  refine jn_of fun k1 hk1 => ?_
  have key1 : ∀ b : Bool, (b = false → 3 ≤ n ∧ n ≤ 7) → k1 b w := by
    intro b hb
    rw [hk1]
    refine jn_of fun k2 hk2 => ?_
    have key2 : ∀ b2 : Bool, (b2 = false → 3 ≤ n ∧ n ≤ 7 ∧ l.length ≤ 30) → k2 b2 w := by
      intro b2 hb2
      rw [hk2]
      refine ⟨fun _ => ⟨fun h => absurd h (by decide), Ext.refl _⟩, fun hf => ?_⟩
      obtain ⟨h1, h2, h3⟩ := hb2 hf
      refine ⟨fun st w' => ∃ k : Nat, k ≤ l.length ∧ st = (k : Int) ∧ Ext w w' ∧ ∀ o ∈ l.take k, o.texts.length ≤ 6 ∧ ∀ s ∈ o.texts, s.length ≤ 3000, fun st _ => l.length - st.toNat, ⟨0, Nat.zero_le _, rfl, Ext.refl _, by simp⟩, ?_⟩
      rintro st w15 ⟨k, hk, rfl, hx, hall⟩
      refine ⟨fun hlt => ?_, fun hge => ?_⟩
      · have hkl : k < l.length := by have := of_decide_eq_true hlt; omega
        obtain ⟨a, ha, hat⟩ := (h.ext hx).get hkl
        refine ⟨a, _, ha, by omega, by omega, rfl, ?_⟩
        rw [Int.toNat_natCast]
        refine ⟨_, rfl, hat, rfl, opj_one _, fun b24 w25 hb24 hw25 => ?_⟩
        have hx25 : Ext w15 w25 := Ext.new hw25
        have hB : Blk w25 b24 29 l[k].cells := Blk.new hb24 hw25
        have hp := ((h.ext (hx.trans hx25)).ok _ (List.getElem_mem hkl)).texts
        have htl := hp.len
        refine ⟨l[k].ts, by rw [add_plain]; exact hB.cell rfl, ?_⟩
        refine ⟨fun _ => ⟨fun h => absurd h (by decide), hx.trans hx25⟩, fun h6 => ?_⟩
        have h6 := of_decide_eq_false h6
        refine ⟨l[k].ts, by rw [add_plain]; exact hB.cell rfl, ?_⟩
        refine ⟨fun st w' => ∃ j : Nat, j ≤ l[k].texts.length ∧ st = (j : Int) ∧ w25 = w' ∧ ∀ s ∈ l[k].texts.take j, s.length ≤ 3000, fun st _ => l[k].texts.length - st.toNat, ⟨0, Nat.zero_le _, rfl, rfl, by simp⟩, ?_⟩
        rintro st w30 ⟨j, hj, rfl, rfl, hall2⟩
        refine ⟨fun hlt2 => ?_, fun hge2 => ?_⟩
        · have hjl : j < l[k].texts.length := by have := of_decide_eq_true hlt2; omega
          obtain ⟨a2, s2, ha2, hc2, hb2⟩ := hp.get hjl
          have hsl := hb2.1
          refine ⟨a2, _, ha2, by omega, by omega, rfl, s2, by rw [Int.toNat_natCast, Nat.mul_one]; exact hc2, ?_⟩
          refine ⟨fun _ => ⟨fun h => absurd h (by decide), hx.trans hx25⟩, fun h30 => ?_⟩
          have h30 := of_decide_eq_false h30
          rw [w64_eq (by omega) (by omega)]
          refine ⟨⟨j + 1, by omega, by omega, rfl, ?_⟩, by simp only; omega⟩
          intro s hs
          rw [List.take_succ_eq_append_getElem hjl, List.mem_append] at hs
          rcases hs with hs | hs
          · exact hall2 s hs
          · rw [List.mem_singleton.1 hs]; omega
        · have hje : j = l[k].texts.length := by have := of_decide_eq_false hge2; omega
          subst hje
          rw [List.take_length] at hall2
          rw [w64_eq (by omega) (by omega)]
          refine ⟨⟨k + 1, by omega, by omega, hx.trans hx25, ?_⟩, by simp only; omega⟩
          intro o ho
          rw [List.take_succ_eq_append_getElem hkl, List.mem_append] at ho
          rcases ho with ho | ho
          · exact hall o ho
          · rw [List.mem_singleton.1 ho]; exact ⟨by omega, hall2⟩
      · have hge : k = l.length := by have := of_decide_eq_false hge; omega
        subst hge
        rw [List.take_length] at hall
        exact ⟨fun _ => ⟨h1, h2, h3, hall⟩, hx⟩
    refine ⟨fun h => key2 true fun h => absurd h (by decide), fun h => key2 _ fun h6 => ?_⟩
    have := of_decide_eq_false h6
    obtain ⟨h1, h2⟩ := hb h
    exact ⟨h1, h2, by omega⟩
  refine ⟨fun h => key1 true fun h => absurd h (by decide), fun h => key1 _ fun h2 => ?_⟩
  have := of_decide_eq_false h
  have := of_decide_eq_false h2
  omega
end Go.Proofs.Ytagkcbbbdlmcjaa
end
section
/- A journal that is laid on a new disk. -/
set_option linter.unusedVariables false
set_option linter.unusedSimpArgs false
namespace Go.Proofs.Ytagkcbbbdlmcjaa
open Go.Lift Go.Lift.Disk Go.Lift.Crc Go.Lift.Wal Go.RowKit
theorem lowB_zeros (n : Nat) : lowB (List.replicate n 0) = 0 := by
  unfold lowB
  induction n with
  | zero => rfl
  | succ n ih => rw [List.replicate_succ, List.foldl_cons]; exact ih
theorem right_zero {b : List UInt8} {room : Nat} (h : lowB (sliceB b 8 16) = 0) : right b room = (0, 0) := by
  unfold right
  simp only [h]
  rw [if_neg]
  rintro ⟨_, _, h1, _⟩
  omega
theorem right_zeros (n room : Nat) : right (List.replicate n 0) room = (0, 0) := by
  refine right_zero ?_
  unfold sliceB
  rw [List.take_replicate, List.drop_replicate]
  exact lowB_zeros _
theorem nowAt_fresh (m i : Nat) : ∃ n, nowAt (fresh m) i = List.replicate n 0 := by
  unfold nowAt
  rcases Nat.lt_or_ge i m with h | h
  · refine ⟨512, ?_⟩
    have e : (fresh m).bl[i]? = some (zero512, zero512) := by simp [fresh, h]
    have e2 : bAt (fresh m).bl i = (zero512, zero512) := by simp [bAt, List.getD, e]
    rw [e2]
    rfl
  · refine ⟨0, ?_⟩
    have e : (fresh m).bl[i]? = none := List.getElem?_eq_none (by simp [fresh]; exact h)
    simp [bAt, List.getD, e]
theorem head_fresh (m frm room : Nat) : headOf (fresh m) frm room = (0, 0) := by
  have hs : ∀ i, headStep (fresh m) frm room (0, 0) i = (0, 0) := by
    intro i
    unfold headStep
    obtain ⟨n, e⟩ := nowAt_fresh m (frm + i)
    rw [e, right_zeros]
    rfl
  unfold headOf
  rw [hs, hs]
/-- a disk of which no fall is planned -/
theorem write_free {D : Dk} (hd : D.down = false) (hf : D.falls = []) {i : Nat} (hi : i < D.bl.length) {b : List UInt8} (hb : b.length = 512) : D.write (i : Int) b = (Dk.tick (D.put i b), 0) := by
  have hw : D.why (i : Int) = 0 := by unfold Dk.why; rw [if_neg (by rw [hd]; simp), if_neg (by omega)]
  have hs : (D.put i b).falls.find? (fun f => f.1 == ((D.put i b).changes : Int)) = none := by
    show D.falls.find? _ = none
    rw [hf]; rfl
  unfold Dk.write
  rw [if_neg (by rw [hw]; simp), if_neg (by omega), Int.toNat_natCast, strike_none hs]
def flushed (D : Dk) : Dk := { D with bl := flushL D.bl D.pend, pend := [], changes := D.changes + 1 }
theorem flush_free {D : Dk} (hd : D.down = false) (hf : D.falls = []) : D.flush = (flushed D, 0) := by
  have hs : D.falls.find? (fun f => f.1 == (D.changes : Int)) = none := by rw [hf]; rfl
  unfold Dk.flush
  rw [if_neg (by rw [hd]; simp), strike_none hs]
  simp only [ne_eq, not_true, if_false]
  rfl
/-- what is written of a disk and made sure, without a fall -/
def headed (D : Dk) (frm seq n : Nat) : Dk := flushed (Dk.tick (D.put (frm + seq % 2) (headB seq n)))
theorem headW_free {D : Dk} (hd : D.down = false) (hf : D.falls = []) {frm seq n : Nat} (hi : frm + 1 < D.bl.length) : headW D frm seq n = (headed D frm seq n, 0) := by
  have hw := write_free hd hf (i := frm + seq % 2) (by omega) (headB_len seq n)
  unfold headW
  rw [hw]
  simp only [if_true]
  exact flush_free hd hf
structure Free (n c : Nat) (D : Dk) : Prop where
  down : D.down = false
  falls : D.falls = []
  len : D.bl.length = n
  ch : D.changes = c
theorem free_fresh (n : Nat) : Free n 0 (fresh n) := ⟨rfl, rfl, by simp [fresh], rfl⟩
theorem Free.put {n c : Nat} {D : Dk} (h : Free n c D) (i : Nat) (b : List UInt8) : Free n (c + 1) (Dk.tick (D.put i b)) :=
  ⟨h.down, h.falls, (setNow_len _ _ _).trans h.len, by show D.changes + 1 = _; rw [h.ch]⟩
theorem Free.flushed {n c : Nat} {D : Dk} (h : Free n c D) : Free n (c + 1) (flushed D) :=
  ⟨h.down, h.falls, (flushL_len' _ _).trans h.len, by show D.changes + 1 = _; rw [h.ch]⟩
theorem Free.headed {n c : Nat} {D : Dk} (h : Free n c D) (frm seq k : Nat) : Free n (c + 2) (headed D frm seq k) := (h.put _ _).flushed
theorem fresh_bnd (m k : Nat) (hk : k < 1000000) : Bnd (fresh m) k := ⟨by show 0 + k < _; omega, by show 0 + k < _; omega⟩
theorem open_new (m frm room : Nat) (h : frm + 1 < m) : openD (fresh m) frm room = (headed (fresh m) frm 1 0, .is ⟨1, [], 0, false⟩ []) := by
  have hf := free_fresh m
  have hw : headW (fresh m) frm 1 0 = (headed (fresh m) frm 1 0, 0) := headW_free hf.down hf.falls (by rw [hf.len]; exact h)
  have := open_fresh (D := fresh m) (frm := frm) (room := room) rfl (by rw [head_fresh]) (by rw [hw])
  rw [hw] at this
  exact this
/-- an opening of a new disk, whatever part of it is asked for -/
theorem open_any {w : World} {lo : Nat → Prop} {pd bb m : Nat} (h : DAt w lo pd bb (fresh m)) (hlo : ∀ k, w.heap.size ≤ k → lo k) (f b : Int) (hf : f ≤ 9223372036854775807) (hb : b ≤ 9223372036854775807) :
    Calls Try.prog 16 #[.pointer (dp pd), .int .i64 f, .int .i64 b] w (Ret r16 fun x w' => Fr (Foot pd bb) w w' ∧ x.2.1.len = 0 ∧
      (((f < 0 ∨ b < 3 ∨ (m : Int) < b ∨ (m : Int) - b < f) ∧ x = (none, nilSl, 1) ∧ DAt w' lo pd bb (fresh m)) ∨
        ∃ (frm blocks : Nat), f = (frm : Int) ∧ b = (blocks : Int) ∧ 3 ≤ blocks ∧ frm + blocks ≤ m ∧ ∃ pl, x.1 = lp pl ∧ w.heap.size ≤ pl ∧ x.2.2 = 0 ∧ WAt w' lo pd bb pl frm (roomOf blocks) (headed (fresh m) frm 1 0) ⟨1, [], 0, false⟩)) := by
  have hfl : (fresh m).bl.length = m := by simp [fresh]
  by_cases h1 : f < 0 ∨ b < 3
  · refine Ret.mono (open_bad w (dp pd) f b (.inr h1)) ?_
    rintro x w' ⟨rfl, rfl⟩
    refine ⟨Fr.refl _, rfl, .inl ⟨?_, rfl, h⟩⟩
    rcases h1 with h1 | h1
    · exact .inl h1
    · exact .inr (.inl h1)
  by_cases h2 : (m : Int) < b ∨ (m : Int) - b < f
  · refine Ret.mono (open_out h f b (by omega) (by omega) hb (by rw [hfl]; exact h2)) ?_
    rintro x w' ⟨rfl, rfl⟩
    exact ⟨Fr.refl _, rfl, .inl ⟨.inr (.inr h2), rfl, h⟩⟩
  obtain ⟨frm, rfl⟩ := Int.eq_ofNat_of_zero_le (show 0 ≤ f by omega)
  obtain ⟨blocks, rfl⟩ := Int.eq_ofNat_of_zero_le (show 0 ≤ b by omega)
  have ho := open_ok h hlo frm blocks (by omega) (by omega) (fresh_bnd m 2 (by decide))
  rw [open_new m frm (roomOf blocks) (by omega)] at ho
  refine Ret.mono ho ?_
  rintro x w' ⟨pl, e1, hpl, e2, hrs, hW, hF⟩
  exact ⟨hF, hrs.len, .inr ⟨frm, blocks, rfl, rfl, by omega, by omega, pl, e1, hpl, e2, hW⟩⟩
theorem WX.setDisk {w w' : World} {lo : Nat → Prop} {pd bb pl frm room g : Nat} {sd : Sl} {D D' : Dk} {L : Lg} (h : WX w lo pd bb pl frm room g sd D L) (hd : DAt w' (fun k => (lo k ∧ k ≠ pl) ∧ k ≠ g) pd bb D') (hf : Fr (Foot pd bb) w w') :
    WX w' lo pd bb pl frm room g sd D' L := by
  obtain ⟨_, _, _, h1, h2⟩ := h.lt
  exact ⟨hd, h.log.fr hf h1, hf.bytes (fun a ha => by rw [(h.row a ha).1]; exact h2) h.data, h.cap, h.nil, h.row, Nat.lt_of_lt_of_le h.glt hf.size, h.lopl, h.wf⟩
end Go.Proofs.Ytagkcbbbdlmcjaa
end
section
/- The typed readings of the functions, and that the program meets each: written by gen.py (a program of this session). -/
set_option linter.unusedVariables false
set_option linter.unusedSimpArgs false
namespace Go.Proofs.Ytagkcbbbdlmcjaa
open Go.Lift
set_option maxRecDepth 100000 in
set_option maxHeartbeats 4000000 in
theorem s12_calls (K : Bool → World → Prop) (p0 : Int) (p1 : Int) (p2 : Int) (w : World) (h : s12 K p0 p1 p2 w) :
    Calls Try.prog 12 #[.int .i64 p0, .int .i64 p1, .int .i64 p2] w (Ret r12 K) := by
  unfold s12 at h
  refine calls_of_CW (n := 155) Try.func12 rfl rfl rfl ?_
  refine CW.seq ?_
  refine CW.region ?_
  refine RL.opS trivial rfl (OpW.assign (v := .bool false) rfl ?_)
  refine RL.nil ?_
  refine CW.seq ?_
  refine CW.seq ?_
  refine CW.region ?_
  refine RL.opS trivial rfl (OpW.callR (al := []) Try.func13 fb_13 fn_13 rfl h (fun x1 w2 h => ?_))
  refine RL.opS trivial rfl (OpW.not rfl ?_)
  refine RL.opS trivial rfl (OpW.move (v := .bool (!x1)) rfl ?_)
  refine jn_elim h ?_; clear h; intro k256 hk257 h
  refine RL.joinAt (A := Bool) 3 (fun s5 ρ => ρ 21 = .bool s5 ∧ ρ 0 = .int .i64 p0 ∧ ρ 1 = .int .i64 p1 ∧ ρ 2 = .int .i64 p2) k256 ?_ ?_
  · rintro s5 ρ w6 ⟨e7, e8, e9, e10⟩ h
    subst hk257
    dsimp only [List.drop]
    refine RL.opS trivial rfl (OpW.move (v := .bool s5) e7 ?_)
    refine jn_elim h ?_; clear h; intro k254 hk255 h
    refine RL.joinAt (A := Bool) 3 (fun s13 ρ => ρ 25 = .bool s13 ∧ ρ 0 = .int .i64 p0 ∧ ρ 1 = .int .i64 p1 ∧ ρ 2 = .int .i64 p2) k254 ?_ ?_
    · rintro s13 ρ w14 ⟨e15, e16, e17, e18⟩ h
      subst hk255
      dsimp only [List.drop]
      refine RL.nil ?_
      obtain ⟨ha, hc⟩ := h
      refine CW.cond (b := s13) e15 (fun hb19 => ?_) (fun hb19 => ?_)
      · have h := ha hb19; clear ha hc
        refine CW.seq ?_
        refine CW.region ?_
        refine RL.opS trivial rfl (OpW.callR (al := []) Try.func13 fb_13 fn_13 rfl h (fun x20 w21 h => ?_))
        refine RL.opS trivial rfl (OpW.assign (v := .bool x20) rfl ?_)
        refine RL.nil ?_
        refine CW.ret ?_
        exact ret_intro (res1 rfl rfl) ⟨x20, rfl, h⟩
      · have h := hc hb19; clear ha hc
        refine CW.skip ?_
        refine CW.seq ?_
        refine CW.region ?_
        refine RL.opS trivial rfl (OpW.move (v := .int .i64 p0) e16 ?_)
        refine RL.opS trivial rfl (OpW.callR (al := [.int .i64 p0]) Try.func15 fb_15 fn_15 rfl h (fun x22 w23 h => ?_))
        refine RL.opS trivial rfl (OpW.move (v := .tuple #[.pointer x22.1, .int .i64 x22.2]) rfl ?_)
        refine RL.opS trivial rfl (OpW.extract (v := .pointer x22.1) rfl rfl ?_)
        refine RL.opS trivial rfl (OpW.extract (v := .int .i64 x22.2) rfl rfl ?_)
        refine RL.opS trivial rfl (OpW.assign (v := .pointer x22.1) rfl ?_)
        refine RL.opS trivial rfl (OpW.assign (v := .int .i64 x22.2) rfl ?_)
        refine RL.nil ?_
        refine CW.seq ?_
        refine CW.region ?_
        refine RL.opS trivial rfl (OpW.move (v := .pointer x22.1) rfl ?_)
        refine RL.opS trivial rfl (OpW.move (v := .int .i64 p1) e17 ?_)
        refine RL.opS trivial rfl (OpW.move (v := .int .i64 p2) e18 ?_)
        refine RL.opS trivial rfl (OpW.callR (al := [.pointer x22.1, .int .i64 p1, .int .i64 p2]) Try.func16 fb_16 fn_16 rfl h (fun x24 w25 h => ?_))
        refine RL.opS trivial rfl (OpW.move (v := .tuple #[.pointer x24.1, Sl.v x24.2.1, .int .i64 x24.2.2]) rfl ?_)
        refine RL.opS trivial rfl (OpW.extract (v := .pointer x24.1) rfl rfl ?_)
        refine RL.opS trivial rfl (OpW.extract (v := Sl.v x24.2.1) rfl rfl ?_)
        refine RL.opS trivial rfl (OpW.extract (v := .int .i64 x24.2.2) rfl rfl ?_)
        refine RL.opS trivial rfl (OpW.assign (v := .pointer x24.1) rfl ?_)
        refine RL.opS trivial rfl (OpW.assign (v := Sl.v x24.2.1) rfl ?_)
        refine RL.opS trivial rfl (OpW.assign (v := .int .i64 x24.2.2) rfl ?_)
        refine RL.nil ?_
        refine CW.seq ?_
        refine CW.region ?_
        refine RL.opS trivial rfl (OpW.move (v := .int .i64 p1) e17 ?_)
        refine RL.opS trivial rfl (OpW.move (v := .int .i64 p2) e18 ?_)
        refine RL.opS trivial rfl (OpW.callR (al := [.pointer none, .int .i64 p1, .int .i64 p2]) Try.func16 fb_16 fn_16 rfl h (fun x26 w27 h => ?_))
        refine RL.opS trivial rfl (OpW.move (v := .tuple #[.pointer x26.1, Sl.v x26.2.1, .int .i64 x26.2.2]) rfl ?_)
        refine RL.opS trivial rfl (OpW.extract (v := .pointer x26.1) rfl rfl ?_)
        refine RL.opS trivial rfl (OpW.extract (v := Sl.v x26.2.1) rfl rfl ?_)
        refine RL.opS trivial rfl (OpW.extract (v := .int .i64 x26.2.2) rfl rfl ?_)
        refine RL.opS trivial rfl (OpW.assign (v := .pointer x26.1) rfl ?_)
        refine RL.opS trivial rfl (OpW.assign (v := Sl.v x26.2.1) rfl ?_)
        refine RL.opS trivial rfl (OpW.assign (v := .int .i64 x26.2.2) rfl ?_)
        refine RL.nil ?_
        refine CW.seq ?_
        refine CW.region ?_
        refine RL.opS trivial rfl (OpW.assign (v := .pointer none) rfl ?_)
        refine RL.nil ?_
        refine CW.seq ?_
        refine CW.seq ?_
        refine CW.region ?_
        refine RL.opS trivial rfl (OpW.move (v := .int .i64 x26.2.2) rfl ?_)
        refine RL.opS trivial rfl (OpW.bin (k := .i64) (a := x26.2.2) (b := 1) (v := .bool (!decide (x26.2.2 = 1))) rfl rfl rfl ?_)
        refine RL.opS trivial rfl (OpW.move (v := .bool (!decide (x26.2.2 = 1))) rfl ?_)
        refine jn_elim h ?_; clear h; intro k252 hk253 h
        refine RL.joinAt (A := Bool) 4 (fun s30 ρ => ρ 53 = .bool s30 ∧ ρ 0 = .int .i64 p0 ∧ ρ 1 = .int .i64 p1 ∧ ρ 2 = .int .i64 p2 ∧ ρ 7 = .pointer x22.1 ∧ ρ 9 = .pointer x24.1 ∧ ρ 11 = .int .i64 x24.2.2 ∧ ρ 15 = .pointer none) k252 ?_ ?_
        · rintro s30 ρ w31 ⟨e32, e33, e34, e35, e36, e37, e38, e39⟩ h
          subst hk253
          dsimp only [List.drop]
          refine RL.opS trivial rfl (OpW.move (v := .bool s30) e32 ?_)
          refine jn_elim h ?_; clear h; intro k250 hk251 h
          refine RL.joinAt (A := Bool) 5 (fun s46 ρ => ρ 59 = .bool s46 ∧ ρ 0 = .int .i64 p0 ∧ ρ 1 = .int .i64 p1 ∧ ρ 2 = .int .i64 p2 ∧ ρ 7 = .pointer x22.1 ∧ ρ 9 = .pointer x24.1 ∧ ρ 11 = .int .i64 x24.2.2 ∧ ρ 15 = .pointer none) k250 ?_ ?_
          · rintro s46 ρ w47 ⟨e48, e49, e50, e51, e52, e53, e54, e55⟩ h
            subst hk251
            dsimp only [List.drop]
            refine RL.opS trivial rfl (OpW.move (v := .bool s46) e48 ?_)
            refine jn_elim h ?_; clear h; intro k248 hk249 h
            refine RL.joinAt (A := Bool) 4 (fun s60 ρ => ρ 64 = .bool s60 ∧ ρ 0 = .int .i64 p0 ∧ ρ 1 = .int .i64 p1 ∧ ρ 2 = .int .i64 p2 ∧ ρ 7 = .pointer x22.1 ∧ ρ 9 = .pointer x24.1 ∧ ρ 11 = .int .i64 x24.2.2 ∧ ρ 15 = .pointer none) k248 ?_ ?_
            · rintro s60 ρ w61 ⟨e62, e63, e64, e65, e66, e67, e68, e69⟩ h
              subst hk249
              dsimp only [List.drop]
              refine RL.opS trivial rfl (OpW.move (v := .bool s60) e62 ?_)
              refine jn_elim h ?_; clear h; intro k246 hk247 h
              refine RL.joinAt (A := Bool) 4 (fun s74 ρ => ρ 69 = .bool s74 ∧ ρ 0 = .int .i64 p0 ∧ ρ 1 = .int .i64 p1 ∧ ρ 2 = .int .i64 p2 ∧ ρ 7 = .pointer x22.1 ∧ ρ 9 = .pointer x24.1 ∧ ρ 11 = .int .i64 x24.2.2 ∧ ρ 15 = .pointer none) k246 ?_ ?_
              · rintro s74 ρ w75 ⟨e76, e77, e78, e79, e80, e81, e82, e83⟩ h
                subst hk247
                dsimp only [List.drop]
                refine RL.opS trivial rfl (OpW.move (v := .bool s74) e76 ?_)
                refine jn_elim h ?_; clear h; intro k244 hk245 h
                refine RL.joinAt (A := Bool) 4 (fun s88 ρ => ρ 74 = .bool s88 ∧ ρ 0 = .int .i64 p0 ∧ ρ 1 = .int .i64 p1 ∧ ρ 2 = .int .i64 p2 ∧ ρ 7 = .pointer x22.1 ∧ ρ 9 = .pointer x24.1 ∧ ρ 11 = .int .i64 x24.2.2 ∧ ρ 15 = .pointer none) k244 ?_ ?_
                · rintro s88 ρ w89 ⟨e90, e91, e92, e93, e94, e95, e96, e97⟩ h
                  subst hk245
                  dsimp only [List.drop]
                  refine RL.opS trivial rfl (OpW.move (v := .bool s88) e90 ?_)
                  refine jn_elim h ?_; clear h; intro k242 hk243 h
                  refine RL.joinAt (A := Bool) 4 (fun s102 ρ => ρ 79 = .bool s102 ∧ ρ 0 = .int .i64 p0 ∧ ρ 1 = .int .i64 p1 ∧ ρ 2 = .int .i64 p2 ∧ ρ 7 = .pointer x22.1 ∧ ρ 9 = .pointer x24.1 ∧ ρ 11 = .int .i64 x24.2.2) k242 ?_ ?_
                  · rintro s102 ρ w103 ⟨e104, e105, e106, e107, e108, e109, e110⟩ h
                    subst hk243
                    dsimp only [List.drop]
                    refine RL.nil ?_
                    obtain ⟨ha, hc⟩ := h
                    refine CW.cond (b := s102) e104 (fun hb111 => ?_) (fun hb111 => ?_)
                    · have h := ha hb111; clear ha hc
                      refine CW.seq ?_
                      refine CW.region ?_
                      refine RL.opS trivial rfl (OpW.assign (v := .bool false) rfl ?_)
                      refine RL.nil ?_
                      refine CW.ret ?_
                      exact ret_intro (res1 rfl rfl) ⟨false, rfl, h⟩
                    · have h := hc hb111; clear ha hc
                      refine CW.skip ?_
                      refine CW.seq ?_
                      refine CW.seq ?_
                      refine CW.region ?_
                      refine RL.opS trivial rfl (OpW.move (v := .int .i64 p1) e106 ?_)
                      refine RL.opS trivial rfl (OpW.bin (k := .i64) (a := p1) (b := 0) (v := .bool (decide (p1 < 0))) rfl rfl rfl ?_)
                      refine RL.opS trivial rfl (OpW.move (v := .bool (decide (p1 < 0))) rfl ?_)
                      refine jn_elim h ?_; clear h; intro k240 hk241 h
                      refine RL.joinAt (A := Bool) 3 (fun s114 ρ => ρ 85 = .bool s114 ∧ ρ 0 = .int .i64 p0 ∧ ρ 1 = .int .i64 p1 ∧ ρ 2 = .int .i64 p2 ∧ ρ 7 = .pointer x22.1 ∧ ρ 9 = .pointer x24.1 ∧ ρ 11 = .int .i64 x24.2.2) k240 ?_ ?_
                      · rintro s114 ρ w115 ⟨e116, e117, e118, e119, e120, e121, e122⟩ h
                        subst hk241
                        dsimp only [List.drop]
                        refine RL.opS trivial rfl (OpW.move (v := .bool s114) e116 ?_)
                        refine jn_elim h ?_; clear h; intro k238 hk239 h
                        refine RL.joinAt (A := Bool) 4 (fun s125 ρ => ρ 90 = .bool s125 ∧ ρ 0 = .int .i64 p0 ∧ ρ 1 = .int .i64 p1 ∧ ρ 2 = .int .i64 p2 ∧ ρ 7 = .pointer x22.1 ∧ ρ 9 = .pointer x24.1 ∧ ρ 11 = .int .i64 x24.2.2) k238 ?_ ?_
                        · rintro s125 ρ w126 ⟨e127, e128, e129, e130, e131, e132, e133⟩ h
                          subst hk239
                          dsimp only [List.drop]
                          refine RL.opS trivial rfl (OpW.move (v := .bool s125) e127 ?_)
                          refine jn_elim h ?_; clear h; intro k236 hk237 h
                          refine RL.joinAt (A := Bool) 6 (fun s136 ρ => ρ 97 = .bool s136 ∧ ρ 1 = .int .i64 p1 ∧ ρ 2 = .int .i64 p2 ∧ ρ 7 = .pointer x22.1 ∧ ρ 9 = .pointer x24.1 ∧ ρ 11 = .int .i64 x24.2.2) k236 ?_ ?_
                          · rintro s136 ρ w137 ⟨e138, e139, e140, e141, e142, e143⟩ h
                            subst hk237
                            dsimp only [List.drop]
                            refine RL.nil ?_
                            obtain ⟨ha, hc⟩ := h
                            refine CW.cond (b := s136) e138 (fun hb144 => ?_) (fun hb144 => ?_)
                            · have h := ha hb144; clear ha hc
                              refine CW.seq ?_
                              refine CW.region ?_
                              refine RL.opS trivial rfl (OpW.move (v := .int .i64 x24.2.2) e143 ?_)
                              refine RL.opS trivial rfl (OpW.bin (k := .i64) (a := x24.2.2) (b := 1) (v := .bool (decide (x24.2.2 = 1))) rfl rfl rfl ?_)
                              refine RL.opS trivial rfl (OpW.move (v := .bool (decide (x24.2.2 = 1))) rfl ?_)
                              refine jn_elim h ?_; clear h; intro k160 hk161 h
                              refine RL.joinAt (A := Bool) 3 (fun s147 ρ => ρ 103 = .bool s147 ∧ ρ 7 = .pointer x22.1) k160 ?_ ?_
                              · rintro s147 ρ w148 ⟨e149, e150⟩ h
                                subst hk161
                                dsimp only [List.drop]
                                refine RL.opS trivial rfl (OpW.move (v := .bool s147) e149 ?_)
                                refine jn_elim h ?_; clear h; intro k158 hk159 h
                                refine RL.joinAt (A := Bool) 4 (fun s155 ρ => ρ 108 = .bool s155) k158 ?_ ?_
                                · rintro s155 ρ w156 e157 h
                                  subst hk159
                                  dsimp only [List.drop]
                                  refine RL.opS trivial rfl (OpW.assign (v := .bool s155) e157 ?_)
                                  refine RL.nil ?_
                                  refine CW.ret ?_
                                  exact ret_intro (res1 rfl rfl) ⟨s155, rfl, h⟩
                                · clear hk159
                                  dsimp only [List.take]
                                  obtain ⟨ha, hc⟩ := h
                                  rcases Bool.eq_false_or_eq_true s147 with hb151 | hb151
                                  · have h := ha hb151; clear ha hc
                                    refine RL.opS (wanted_of rfl rfl hb151) rfl (OpW.move (v := .pointer x22.1) e150 ?_)
                                    refine RL.opS (wanted_of rfl rfl hb151) rfl (OpW.callR (al := [.pointer x22.1]) Try.func19 fb_19 fn_19 rfl h (fun x153 w154 h => ?_))
                                    refine RL.opS (wanted_of rfl rfl hb151) rfl (OpW.bin (k := .i64) (a := x153) (b := 0) (v := .bool (decide (x153 = 0))) rfl rfl rfl ?_)
                                    refine RL.opS trivial rfl (OpW.pick (b := true) (v := .bool (decide (x153 = 0))) (congrArg Value.bool hb151) rfl ?_)
                                    refine RL.nil ?_
                                    exact ⟨(decide (x153 = 0)), rfl, h⟩
                                  · have h := hc hb151; clear ha hc
                                    refine RL.skipS (notWanted_of rfl rfl hb151) rfl ?_
                                    refine RL.skipS (notWanted_of rfl rfl hb151) rfl ?_
                                    refine RL.skipS (notWanted_of rfl rfl hb151) rfl ?_
                                    refine RL.opS trivial rfl (OpW.pick (b := false) (v := .bool false) (congrArg Value.bool hb151) rfl ?_)
                                    refine RL.nil ?_
                                    exact ⟨false, rfl, h⟩
                              · clear hk161
                                dsimp only [List.take]
                                obtain ⟨ha, hc⟩ := h
                                rcases Bool.eq_false_or_eq_true (decide (x24.2.2 = 1)) with hb145 | hb145
                                · have h := ha hb145; clear ha hc
                                  refine RL.opS (wanted_of rfl rfl hb145) rfl (OpW.move (v := .pointer x24.1) e142 ?_)
                                  refine RL.opS (wanted_of rfl rfl hb145) rfl (OpW.ptrNil (b := x24.1.isNone) (p := x24.1) ptr_35 rfl rfl rfl ?_)
                                  refine RL.opS trivial rfl (OpW.pick (b := true) (v := .bool (x24.1.isNone)) (congrArg Value.bool hb145) rfl ?_)
                                  refine RL.nil ?_
                                  exact ⟨(x24.1.isNone), ⟨rfl, e141⟩, h⟩
                                · have h := hc hb145; clear ha hc
                                  refine RL.skipS (notWanted_of rfl rfl hb145) rfl ?_
                                  refine RL.skipS (notWanted_of rfl rfl hb145) rfl ?_
                                  refine RL.opS trivial rfl (OpW.pick (b := false) (v := .bool false) (congrArg Value.bool hb145) rfl ?_)
                                  refine RL.nil ?_
                                  exact ⟨false, ⟨rfl, e141⟩, h⟩
                            · have h := hc hb144; clear ha hc
                              refine CW.skip ?_
                              refine CW.seq ?_
                              refine CW.seq ?_
                              refine CW.region ?_
                              refine RL.opS trivial rfl (OpW.move (v := .int .i64 x24.2.2) e143 ?_)
                              refine RL.opS trivial rfl (OpW.bin (k := .i64) (a := x24.2.2) (b := 0) (v := .bool (!decide (x24.2.2 = 0))) rfl rfl rfl ?_)
                              refine RL.opS trivial rfl (OpW.move (v := .bool (!decide (x24.2.2 = 0))) rfl ?_)
                              refine jn_elim h ?_; clear h; intro k234 hk235 h
                              refine RL.joinAt (A := Bool) 4 (fun s166 ρ => ρ 115 = .bool s166 ∧ ρ 1 = .int .i64 p1 ∧ ρ 2 = .int .i64 p2 ∧ ρ 7 = .pointer x22.1 ∧ ρ 9 = .pointer x24.1) k234 ?_ ?_
                              · rintro s166 ρ w167 ⟨e168, e169, e170, e171, e172⟩ h
                                subst hk235
                                dsimp only [List.drop]
                                refine RL.opS trivial rfl (OpW.move (v := .bool s166) e168 ?_)
                                refine jn_elim h ?_; clear h; intro k232 hk233 h
                                refine RL.joinAt (A := Bool) 4 (fun s177 ρ => ρ 120 = .bool s177 ∧ ρ 1 = .int .i64 p1 ∧ ρ 2 = .int .i64 p2 ∧ ρ 7 = .pointer x22.1 ∧ ρ 9 = .pointer x24.1) k232 ?_ ?_
                                · rintro s177 ρ w178 ⟨e179, e180, e181, e182, e183⟩ h
                                  subst hk233
                                  dsimp only [List.drop]
                                  refine RL.nil ?_
                                  obtain ⟨ha, hc⟩ := h
                                  refine CW.cond (b := s177) e179 (fun hb184 => ?_) (fun hb184 => ?_)
                                  · have h := ha hb184; clear ha hc
                                    refine CW.seq ?_
                                    refine CW.region ?_
                                    refine RL.opS trivial rfl (OpW.assign (v := .bool false) rfl ?_)
                                    refine RL.nil ?_
                                    refine CW.ret ?_
                                    exact ret_intro (res1 rfl rfl) ⟨false, rfl, h⟩
                                  · have h := hc hb184; clear ha hc
                                    refine CW.skip ?_
                                    refine CW.seq ?_
                                    refine CW.region ?_
                                    refine RL.opS trivial rfl (OpW.move (v := .pointer x22.1) e182 ?_)
                                    refine RL.opS trivial rfl (OpW.buildL (vs := []) (cs := [Value.int .i64 0, Value.int .u64 0, Value.int .i64 0]) (by rfl) (fun _ => by kernel_rfl) ?_)
                                    refine RL.opS trivial rfl (OpW.callR (al := [.pointer x22.1, aggv [Value.int .i64 0, Value.int .u64 0, Value.int .i64 0]]) Try.func35 fb_35 fn_35 rfl h (fun x185 w186 h => ?_))
                                    refine RL.nil ?_
                                    refine CW.seq ?_
                                    refine CW.region ?_
                                    refine RL.opS trivial rfl (OpW.move (v := .pointer x22.1) e182 ?_)
                                    refine RL.opS trivial rfl (OpW.move (v := .int .i64 p1) e180 ?_)
                                    refine RL.opS trivial rfl (OpW.move (v := .int .i64 p2) e181 ?_)
                                    refine RL.opS trivial rfl (OpW.callR (al := [.pointer x22.1, .int .i64 p1, .int .i64 p2]) Try.func16 fb_16 fn_16 rfl h (fun x187 w188 h => ?_))
                                    refine RL.opS trivial rfl (OpW.move (v := .tuple #[.pointer x187.1, Sl.v x187.2.1, .int .i64 x187.2.2]) rfl ?_)
                                    refine RL.opS trivial rfl (OpW.extract (v := .pointer x187.1) rfl rfl ?_)
                                    refine RL.opS trivial rfl (OpW.extract (v := Sl.v x187.2.1) rfl rfl ?_)
                                    refine RL.opS trivial rfl (OpW.extract (v := .int .i64 x187.2.2) rfl rfl ?_)
                                    refine RL.opS trivial rfl (OpW.assign (v := .int .i64 x187.2.2) rfl ?_)
                                    refine RL.nil ?_
                                    refine CW.seq ?_
                                    refine CW.region ?_
                                    refine RL.opS trivial rfl (OpW.move (v := .int .i64 x187.2.2) rfl ?_)
                                    refine RL.opS trivial rfl (OpW.bin (k := .i64) (a := x187.2.2) (b := 6) (v := .bool (decide (x187.2.2 = 6))) rfl rfl rfl ?_)
                                    refine RL.opS trivial rfl (OpW.move (v := .bool (decide (x187.2.2 = 6))) rfl ?_)
                                    refine jn_elim h ?_; clear h; intro k230 hk231 h
                                    refine RL.joinAt (A := Bool) 5 (fun s195 ρ => ρ 139 = .bool s195 ∧ ρ 9 = .pointer x24.1) k230 ?_ ?_
                                    · rintro s195 ρ w196 ⟨e197, e198⟩ h
                                      subst hk231
                                      dsimp only [List.drop]
                                      refine RL.opS trivial rfl (OpW.move (v := .bool s195) e197 ?_)
                                      refine jn_elim h ?_; clear h; intro k228 hk229 h
                                      refine RL.joinAt (A := Bool) 3 (fun s203 ρ => ρ 143 = .bool s203 ∧ ρ 9 = .pointer x24.1) k228 ?_ ?_
                                      · rintro s203 ρ w204 ⟨e205, e206⟩ h
                                        subst hk229
                                        dsimp only [List.drop]
                                        refine RL.opS trivial rfl (OpW.move (v := .bool s203) e205 ?_)
                                        refine jn_elim h ?_; clear h; intro k226 hk227 h
                                        refine RL.joinAt (A := Bool) 5 (fun s213 ρ => ρ 149 = .bool s213 ∧ ρ 9 = .pointer x24.1) k226 ?_ ?_
                                        · rintro s213 ρ w214 ⟨e215, e216⟩ h
                                          subst hk227
                                          dsimp only [List.drop]
                                          refine RL.opS trivial rfl (OpW.move (v := .bool s213) e215 ?_)
                                          refine jn_elim h ?_; clear h; intro k224 hk225 h
                                          refine RL.joinAt (A := Bool) 4 (fun s221 ρ => ρ 154 = .bool s221) k224 ?_ ?_
                                          · rintro s221 ρ w222 e223 h
                                            subst hk225
                                            dsimp only [List.drop]
                                            refine RL.opS trivial rfl (OpW.assign (v := .bool s221) e223 ?_)
                                            refine RL.nil ?_
                                            refine CW.ret ?_
                                            exact ret_intro (res1 rfl rfl) ⟨s221, rfl, h⟩
                                          · clear hk225
                                            dsimp only [List.take]
                                            obtain ⟨ha, hc⟩ := h
                                            rcases Bool.eq_false_or_eq_true s213 with hb217 | hb217
                                            · have h := ha hb217; clear ha hc
                                              refine RL.opS (wanted_of rfl rfl hb217) rfl (OpW.move (v := .pointer x24.1) e216 ?_)
                                              refine RL.opS (wanted_of rfl rfl hb217) rfl (OpW.callR (al := [.pointer x24.1]) Try.func21 fb_21 fn_21 rfl h (fun x219 w220 h => ?_))
                                              refine RL.opS (wanted_of rfl rfl hb217) rfl (OpW.bin (k := .i64) (a := x219) (b := 3) (v := .bool (decide (x219 = 3))) rfl rfl rfl ?_)
                                              refine RL.opS trivial rfl (OpW.pick (b := true) (v := .bool (decide (x219 = 3))) (congrArg Value.bool hb217) rfl ?_)
                                              refine RL.nil ?_
                                              exact ⟨(decide (x219 = 3)), rfl, h⟩
                                            · have h := hc hb217; clear ha hc
                                              refine RL.skipS (notWanted_of rfl rfl hb217) rfl ?_
                                              refine RL.skipS (notWanted_of rfl rfl hb217) rfl ?_
                                              refine RL.skipS (notWanted_of rfl rfl hb217) rfl ?_
                                              refine RL.opS trivial rfl (OpW.pick (b := false) (v := .bool false) (congrArg Value.bool hb217) rfl ?_)
                                              refine RL.nil ?_
                                              exact ⟨false, rfl, h⟩
                                        · clear hk227
                                          dsimp only [List.take]
                                          obtain ⟨ha, hc⟩ := h
                                          rcases Bool.eq_false_or_eq_true s203 with hb207 | hb207
                                          · have h := ha hb207; clear ha hc
                                            refine RL.opS (wanted_of rfl rfl hb207) rfl (OpW.move (v := .pointer x24.1) e206 ?_)
                                            obtain ⟨b209, hb209_⟩ : ∃ b_, b_ = w204.heap.size := ⟨_, rfl⟩
                                            obtain ⟨w210, hw210_⟩ : ∃ w_, w_ = w204.alloc (.cells (List.toArray [Sl.v nilSl]) 39) := ⟨_, rfl⟩
                                            have h := h b209 w210 hb209_ hw210_
                                            refine RL.opS (wanted_of rfl rfl hb207) rfl (OpW.buildSliceE (vs := [(0, Sl.v nilSl)]) (cs := [Sl.v nilSl]) (by rfl) (by kernel_rfl) hb209_ hw210_ ?_)
                                            refine RL.opS (wanted_of rfl rfl hb207) rfl (OpW.callR (al := [.pointer x24.1, Sl.v ⟨some ⟨b209, 0, none⟩, 1, 1⟩]) Try.func20 fb_20 fn_20 rfl h (fun x211 w212 h => ?_))
                                            refine RL.opS (wanted_of rfl rfl hb207) rfl (OpW.bin (k := .i64) (a := x211) (b := 3) (v := .bool (decide (x211 = 3))) rfl rfl rfl ?_)
                                            refine RL.opS trivial rfl (OpW.pick (b := true) (v := .bool (decide (x211 = 3))) (congrArg Value.bool hb207) rfl ?_)
                                            refine RL.nil ?_
                                            exact ⟨(decide (x211 = 3)), ⟨rfl, e206⟩, h⟩
                                          · have h := hc hb207; clear ha hc
                                            refine RL.skipS (notWanted_of rfl rfl hb207) rfl ?_
                                            refine RL.skipS (notWanted_of rfl rfl hb207) rfl ?_
                                            refine RL.skipS (notWanted_of rfl rfl hb207) rfl ?_
                                            refine RL.skipS (notWanted_of rfl rfl hb207) rfl ?_
                                            refine RL.opS trivial rfl (OpW.pick (b := false) (v := .bool false) (congrArg Value.bool hb207) rfl ?_)
                                            refine RL.nil ?_
                                            exact ⟨false, ⟨rfl, e206⟩, h⟩
                                      · clear hk229
                                        dsimp only [List.take]
                                        obtain ⟨ha, hc⟩ := h
                                        rcases Bool.eq_false_or_eq_true s195 with hb199 | hb199
                                        · have h := ha hb199; clear ha hc
                                          refine RL.opS (wanted_of rfl rfl hb199) rfl (OpW.move (v := .pointer x24.1) e198 ?_)
                                          refine RL.opS (wanted_of rfl rfl hb199) rfl (OpW.callR (al := [.pointer x24.1]) Try.func46 fb_46 fn_46 rfl h (fun x201 w202 h => ?_))
                                          refine RL.opS trivial rfl (OpW.pick (b := true) (v := .bool x201) (congrArg Value.bool hb199) rfl ?_)
                                          refine RL.nil ?_
                                          exact ⟨x201, ⟨rfl, e198⟩, h⟩
                                        · have h := hc hb199; clear ha hc
                                          refine RL.skipS (notWanted_of rfl rfl hb199) rfl ?_
                                          refine RL.skipS (notWanted_of rfl rfl hb199) rfl ?_
                                          refine RL.opS trivial rfl (OpW.pick (b := false) (v := .bool false) (congrArg Value.bool hb199) rfl ?_)
                                          refine RL.nil ?_
                                          exact ⟨false, ⟨rfl, e198⟩, h⟩
                                    · clear hk231
                                      dsimp only [List.take]
                                      obtain ⟨ha, hc⟩ := h
                                      rcases Bool.eq_false_or_eq_true (decide (x187.2.2 = 6)) with hb189 | hb189
                                      · have h := ha hb189; clear ha hc
                                        refine RL.opS (wanted_of rfl rfl hb189) rfl (OpW.move (v := .pointer x24.1) e183 ?_)
                                        obtain ⟨b191, hb191_⟩ : ∃ b_, b_ = w188.heap.size := ⟨_, rfl⟩
                                        obtain ⟨w192, hw192_⟩ : ∃ w_, w_ = w188.alloc (.cells (List.toArray [Sl.v nilSl]) 39) := ⟨_, rfl⟩
                                        have h := h b191 w192 hb191_ hw192_
                                        refine RL.opS (wanted_of rfl rfl hb189) rfl (OpW.buildSliceE (vs := [(0, Sl.v nilSl)]) (cs := [Sl.v nilSl]) (by rfl) (by kernel_rfl) hb191_ hw192_ ?_)
                                        refine RL.opS (wanted_of rfl rfl hb189) rfl (OpW.callR (al := [.pointer x24.1, Sl.v ⟨some ⟨b191, 0, none⟩, 1, 1⟩]) Try.func20 fb_20 fn_20 rfl h (fun x193 w194 h => ?_))
                                        refine RL.opS (wanted_of rfl rfl hb189) rfl (OpW.bin (k := .i64) (a := x193) (b := 6) (v := .bool (decide (x193 = 6))) rfl rfl rfl ?_)
                                        refine RL.opS trivial rfl (OpW.pick (b := true) (v := .bool (decide (x193 = 6))) (congrArg Value.bool hb189) rfl ?_)
                                        refine RL.nil ?_
                                        exact ⟨(decide (x193 = 6)), ⟨rfl, e183⟩, h⟩
                                      · have h := hc hb189; clear ha hc
                                        refine RL.skipS (notWanted_of rfl rfl hb189) rfl ?_
                                        refine RL.skipS (notWanted_of rfl rfl hb189) rfl ?_
                                        refine RL.skipS (notWanted_of rfl rfl hb189) rfl ?_
                                        refine RL.skipS (notWanted_of rfl rfl hb189) rfl ?_
                                        refine RL.opS trivial rfl (OpW.pick (b := false) (v := .bool false) (congrArg Value.bool hb189) rfl ?_)
                                        refine RL.nil ?_
                                        exact ⟨false, ⟨rfl, e183⟩, h⟩
                                · clear hk233
                                  dsimp only [List.take]
                                  obtain ⟨ha, hc⟩ := h
                                  rcases Bool.eq_false_or_eq_true s166 with hb173 | hb173
                                  · have h := ha hb173; clear ha hc
                                    refine RL.skipS (notWanted_of rfl rfl hb173) rfl ?_
                                    refine RL.skipS (notWanted_of rfl rfl hb173) rfl ?_
                                    refine RL.skipS (notWanted_of rfl rfl hb173) rfl ?_
                                    refine RL.opS trivial rfl (OpW.pick (b := true) (v := .bool true) (congrArg Value.bool hb173) rfl ?_)
                                    refine RL.nil ?_
                                    exact ⟨true, ⟨rfl, e169, e170, e171, e172⟩, h⟩
                                  · have h := hc hb173; clear ha hc
                                    refine RL.opS (wanted_of rfl rfl hb173) rfl (OpW.move (v := .pointer x22.1) e171 ?_)
                                    refine RL.opS (wanted_of rfl rfl hb173) rfl (OpW.callR (al := [.pointer x22.1]) Try.func19 fb_19 fn_19 rfl h (fun x175 w176 h => ?_))
                                    refine RL.opS (wanted_of rfl rfl hb173) rfl (OpW.bin (k := .i64) (a := x175) (b := 2) (v := .bool (!decide (x175 = 2))) rfl rfl rfl ?_)
                                    refine RL.opS trivial rfl (OpW.pick (b := false) (v := .bool (!decide (x175 = 2))) (congrArg Value.bool hb173) rfl ?_)
                                    refine RL.nil ?_
                                    exact ⟨(!decide (x175 = 2)), ⟨rfl, e169, e170, e171, e172⟩, h⟩
                              · clear hk235
                                dsimp only [List.take]
                                obtain ⟨ha, hc⟩ := h
                                rcases Bool.eq_false_or_eq_true (!decide (x24.2.2 = 0)) with hb162 | hb162
                                · have h := ha hb162; clear ha hc
                                  refine RL.skipS (notWanted_of rfl rfl hb162) rfl ?_
                                  refine RL.skipS (notWanted_of rfl rfl hb162) rfl ?_
                                  refine RL.skipS (notWanted_of rfl rfl hb162) rfl ?_
                                  refine RL.opS trivial rfl (OpW.pick (b := true) (v := .bool true) (congrArg Value.bool hb162) rfl ?_)
                                  refine RL.nil ?_
                                  exact ⟨true, ⟨rfl, e139, e140, e141, e142⟩, h⟩
                                · have h := hc hb162; clear ha hc
                                  refine RL.opS (wanted_of rfl rfl hb162) rfl (OpW.move (v := .pointer x24.1) e142 ?_)
                                  refine RL.opS (wanted_of rfl rfl hb162) rfl (OpW.callR (al := [.pointer x24.1, Sl.v nilSl]) Try.func20 fb_20 fn_20 rfl h (fun x164 w165 h => ?_))
                                  refine RL.opS (wanted_of rfl rfl hb162) rfl (OpW.bin (k := .i64) (a := x164) (b := 0) (v := .bool (!decide (x164 = 0))) rfl rfl rfl ?_)
                                  refine RL.opS trivial rfl (OpW.pick (b := false) (v := .bool (!decide (x164 = 0))) (congrArg Value.bool hb162) rfl ?_)
                                  refine RL.nil ?_
                                  exact ⟨(!decide (x164 = 0)), ⟨rfl, e139, e140, e141, e142⟩, h⟩
                          · clear hk237
                            dsimp only [List.take]
                            obtain ⟨ha, hc⟩ := h
                            rcases Bool.eq_false_or_eq_true s125 with hb134 | hb134
                            · have h := ha hb134; clear ha hc
                              refine RL.skipS (notWanted_of rfl rfl hb134) rfl ?_
                              refine RL.skipS (notWanted_of rfl rfl hb134) rfl ?_
                              refine RL.skipS (notWanted_of rfl rfl hb134) rfl ?_
                              refine RL.skipS (notWanted_of rfl rfl hb134) rfl ?_
                              refine RL.skipS (notWanted_of rfl rfl hb134) rfl ?_
                              refine RL.opS trivial rfl (OpW.pick (b := true) (v := .bool true) (congrArg Value.bool hb134) rfl ?_)
                              refine RL.nil ?_
                              exact ⟨true, ⟨rfl, e129, e130, e131, e132, e133⟩, h⟩
                            · have h := hc hb134; clear ha hc
                              refine RL.opS (wanted_of rfl rfl hb134) rfl (OpW.move (v := .int .i64 p1) e129 ?_)
                              refine RL.opS (wanted_of rfl rfl hb134) rfl (OpW.move (v := .int .i64 p0) e128 ?_)
                              refine RL.opS (wanted_of rfl rfl hb134) rfl (OpW.move (v := .int .i64 p2) e130 ?_)
                              refine RL.opS (wanted_of rfl rfl hb134) rfl (OpW.bin (k := .i64) (a := p0) (b := p2) (v := .int .i64 (IntKind.i64.wrap (p0 - p2))) rfl rfl rfl ?_)
                              refine RL.opS (wanted_of rfl rfl hb134) rfl (OpW.bin (k := .i64) (a := p1) (b := (IntKind.i64.wrap (p0 - p2))) (v := .bool (decide ((IntKind.i64.wrap (p0 - p2)) < p1))) rfl rfl rfl ?_)
                              refine RL.opS trivial rfl (OpW.pick (b := false) (v := .bool (decide ((IntKind.i64.wrap (p0 - p2)) < p1))) (congrArg Value.bool hb134) rfl ?_)
                              refine RL.nil ?_
                              exact ⟨(decide ((IntKind.i64.wrap (p0 - p2)) < p1)), ⟨rfl, e129, e130, e131, e132, e133⟩, h⟩
                        · clear hk239
                          dsimp only [List.take]
                          obtain ⟨ha, hc⟩ := h
                          rcases Bool.eq_false_or_eq_true s114 with hb123 | hb123
                          · have h := ha hb123; clear ha hc
                            refine RL.skipS (notWanted_of rfl rfl hb123) rfl ?_
                            refine RL.skipS (notWanted_of rfl rfl hb123) rfl ?_
                            refine RL.skipS (notWanted_of rfl rfl hb123) rfl ?_
                            refine RL.opS trivial rfl (OpW.pick (b := true) (v := .bool true) (congrArg Value.bool hb123) rfl ?_)
                            refine RL.nil ?_
                            exact ⟨true, ⟨rfl, e117, e118, e119, e120, e121, e122⟩, h⟩
                          · have h := hc hb123; clear ha hc
                            refine RL.opS (wanted_of rfl rfl hb123) rfl (OpW.move (v := .int .i64 p2) e119 ?_)
                            refine RL.opS (wanted_of rfl rfl hb123) rfl (OpW.move (v := .int .i64 p0) e117 ?_)
                            refine RL.opS (wanted_of rfl rfl hb123) rfl (OpW.bin (k := .i64) (a := p2) (b := p0) (v := .bool (decide (p0 < p2))) rfl rfl rfl ?_)
                            refine RL.opS trivial rfl (OpW.pick (b := false) (v := .bool (decide (p0 < p2))) (congrArg Value.bool hb123) rfl ?_)
                            refine RL.nil ?_
                            exact ⟨(decide (p0 < p2)), ⟨rfl, e117, e118, e119, e120, e121, e122⟩, h⟩
                      · clear hk241
                        dsimp only [List.take]
                        obtain ⟨ha, hc⟩ := h
                        rcases Bool.eq_false_or_eq_true (decide (p1 < 0)) with hb112 | hb112
                        · have h := ha hb112; clear ha hc
                          refine RL.skipS (notWanted_of rfl rfl hb112) rfl ?_
                          refine RL.skipS (notWanted_of rfl rfl hb112) rfl ?_
                          refine RL.opS trivial rfl (OpW.pick (b := true) (v := .bool true) (congrArg Value.bool hb112) rfl ?_)
                          refine RL.nil ?_
                          exact ⟨true, ⟨rfl, e105, e106, e107, e108, e109, e110⟩, h⟩
                        · have h := hc hb112; clear ha hc
                          refine RL.opS (wanted_of rfl rfl hb112) rfl (OpW.move (v := .int .i64 p2) e107 ?_)
                          refine RL.opS (wanted_of rfl rfl hb112) rfl (OpW.bin (k := .i64) (a := p2) (b := 3) (v := .bool (decide (p2 < 3))) rfl rfl rfl ?_)
                          refine RL.opS trivial rfl (OpW.pick (b := false) (v := .bool (decide (p2 < 3))) (congrArg Value.bool hb112) rfl ?_)
                          refine RL.nil ?_
                          exact ⟨(decide (p2 < 3)), ⟨rfl, e105, e106, e107, e108, e109, e110⟩, h⟩
                  · clear hk243
                    dsimp only [List.take]
                    obtain ⟨ha, hc⟩ := h
                    rcases Bool.eq_false_or_eq_true s88 with hb98 | hb98
                    · have h := ha hb98; clear ha hc
                      refine RL.skipS (notWanted_of rfl rfl hb98) rfl ?_
                      refine RL.skipS (notWanted_of rfl rfl hb98) rfl ?_
                      refine RL.skipS (notWanted_of rfl rfl hb98) rfl ?_
                      refine RL.opS trivial rfl (OpW.pick (b := true) (v := .bool true) (congrArg Value.bool hb98) rfl ?_)
                      refine RL.nil ?_
                      exact ⟨true, ⟨rfl, e91, e92, e93, e94, e95, e96⟩, h⟩
                    · have h := hc hb98; clear ha hc
                      refine RL.opS (wanted_of rfl rfl hb98) rfl (OpW.move (v := .pointer none) e97 ?_)
                      refine RL.opS (wanted_of rfl rfl hb98) rfl (OpW.callR (al := [.pointer none]) Try.func46 fb_46 fn_46 rfl h (fun x100 w101 h => ?_))
                      refine RL.opS (wanted_of rfl rfl hb98) rfl (OpW.not rfl ?_)
                      refine RL.opS trivial rfl (OpW.pick (b := false) (v := .bool (!x100)) (congrArg Value.bool hb98) rfl ?_)
                      refine RL.nil ?_
                      exact ⟨(!x100), ⟨rfl, e91, e92, e93, e94, e95, e96⟩, h⟩
                · clear hk245
                  dsimp only [List.take]
                  obtain ⟨ha, hc⟩ := h
                  rcases Bool.eq_false_or_eq_true s74 with hb84 | hb84
                  · have h := ha hb84; clear ha hc
                    refine RL.skipS (notWanted_of rfl rfl hb84) rfl ?_
                    refine RL.skipS (notWanted_of rfl rfl hb84) rfl ?_
                    refine RL.skipS (notWanted_of rfl rfl hb84) rfl ?_
                    refine RL.opS trivial rfl (OpW.pick (b := true) (v := .bool true) (congrArg Value.bool hb84) rfl ?_)
                    refine RL.nil ?_
                    exact ⟨true, ⟨rfl, e77, e78, e79, e80, e81, e82, e83⟩, h⟩
                  · have h := hc hb84; clear ha hc
                    refine RL.opS (wanted_of rfl rfl hb84) rfl (OpW.move (v := .pointer none) e83 ?_)
                    refine RL.opS (wanted_of rfl rfl hb84) rfl (OpW.callR (al := [.pointer none]) Try.func22 fb_22 fn_22 rfl h (fun x86 w87 h => ?_))
                    refine RL.opS (wanted_of rfl rfl hb84) rfl (OpW.bin (k := .i64) (a := x86) (b := 0) (v := .bool (!decide (x86 = 0))) rfl rfl rfl ?_)
                    refine RL.opS trivial rfl (OpW.pick (b := false) (v := .bool (!decide (x86 = 0))) (congrArg Value.bool hb84) rfl ?_)
                    refine RL.nil ?_
                    exact ⟨(!decide (x86 = 0)), ⟨rfl, e77, e78, e79, e80, e81, e82, e83⟩, h⟩
              · clear hk247
                dsimp only [List.take]
                obtain ⟨ha, hc⟩ := h
                rcases Bool.eq_false_or_eq_true s60 with hb70 | hb70
                · have h := ha hb70; clear ha hc
                  refine RL.skipS (notWanted_of rfl rfl hb70) rfl ?_
                  refine RL.skipS (notWanted_of rfl rfl hb70) rfl ?_
                  refine RL.skipS (notWanted_of rfl rfl hb70) rfl ?_
                  refine RL.opS trivial rfl (OpW.pick (b := true) (v := .bool true) (congrArg Value.bool hb70) rfl ?_)
                  refine RL.nil ?_
                  exact ⟨true, ⟨rfl, e63, e64, e65, e66, e67, e68, e69⟩, h⟩
                · have h := hc hb70; clear ha hc
                  refine RL.opS (wanted_of rfl rfl hb70) rfl (OpW.move (v := .pointer none) e69 ?_)
                  refine RL.opS (wanted_of rfl rfl hb70) rfl (OpW.callR (al := [.pointer none]) Try.func17 fb_17 fn_17 rfl h (fun x72 w73 h => ?_))
                  refine RL.opS (wanted_of rfl rfl hb70) rfl (OpW.bin (k := .i64) (a := x72) (b := 0) (v := .bool (!decide (x72 = 0))) rfl rfl rfl ?_)
                  refine RL.opS trivial rfl (OpW.pick (b := false) (v := .bool (!decide (x72 = 0))) (congrArg Value.bool hb70) rfl ?_)
                  refine RL.nil ?_
                  exact ⟨(!decide (x72 = 0)), ⟨rfl, e63, e64, e65, e66, e67, e68, e69⟩, h⟩
            · clear hk249
              dsimp only [List.take]
              obtain ⟨ha, hc⟩ := h
              rcases Bool.eq_false_or_eq_true s46 with hb56 | hb56
              · have h := ha hb56; clear ha hc
                refine RL.skipS (notWanted_of rfl rfl hb56) rfl ?_
                refine RL.skipS (notWanted_of rfl rfl hb56) rfl ?_
                refine RL.skipS (notWanted_of rfl rfl hb56) rfl ?_
                refine RL.opS trivial rfl (OpW.pick (b := true) (v := .bool true) (congrArg Value.bool hb56) rfl ?_)
                refine RL.nil ?_
                exact ⟨true, ⟨rfl, e49, e50, e51, e52, e53, e54, e55⟩, h⟩
              · have h := hc hb56; clear ha hc
                refine RL.opS (wanted_of rfl rfl hb56) rfl (OpW.move (v := .pointer none) e55 ?_)
                refine RL.opS (wanted_of rfl rfl hb56) rfl (OpW.callR (al := [.pointer none]) Try.func21 fb_21 fn_21 rfl h (fun x58 w59 h => ?_))
                refine RL.opS (wanted_of rfl rfl hb56) rfl (OpW.bin (k := .i64) (a := x58) (b := 3) (v := .bool (!decide (x58 = 3))) rfl rfl rfl ?_)
                refine RL.opS trivial rfl (OpW.pick (b := false) (v := .bool (!decide (x58 = 3))) (congrArg Value.bool hb56) rfl ?_)
                refine RL.nil ?_
                exact ⟨(!decide (x58 = 3)), ⟨rfl, e49, e50, e51, e52, e53, e54, e55⟩, h⟩
          · clear hk251
            dsimp only [List.take]
            obtain ⟨ha, hc⟩ := h
            rcases Bool.eq_false_or_eq_true s30 with hb40 | hb40
            · have h := ha hb40; clear ha hc
              refine RL.skipS (notWanted_of rfl rfl hb40) rfl ?_
              refine RL.skipS (notWanted_of rfl rfl hb40) rfl ?_
              refine RL.skipS (notWanted_of rfl rfl hb40) rfl ?_
              refine RL.skipS (notWanted_of rfl rfl hb40) rfl ?_
              refine RL.opS trivial rfl (OpW.pick (b := true) (v := .bool true) (congrArg Value.bool hb40) rfl ?_)
              refine RL.nil ?_
              exact ⟨true, ⟨rfl, e33, e34, e35, e36, e37, e38, e39⟩, h⟩
            · have h := hc hb40; clear ha hc
              refine RL.opS (wanted_of rfl rfl hb40) rfl (OpW.move (v := .pointer none) e39 ?_)
              obtain ⟨b42, hb42_⟩ : ∃ b_, b_ = w31.heap.size := ⟨_, rfl⟩
              obtain ⟨w43, hw43_⟩ : ∃ w_, w_ = w31.alloc (.cells (List.toArray [Sl.v nilSl]) 39) := ⟨_, rfl⟩
              have h := h b42 w43 hb42_ hw43_
              refine RL.opS (wanted_of rfl rfl hb40) rfl (OpW.buildSliceE (vs := [(0, Sl.v nilSl)]) (cs := [Sl.v nilSl]) (by rfl) (by kernel_rfl) hb42_ hw43_ ?_)
              refine RL.opS (wanted_of rfl rfl hb40) rfl (OpW.callR (al := [.pointer none, Sl.v ⟨some ⟨b42, 0, none⟩, 1, 1⟩]) Try.func20 fb_20 fn_20 rfl h (fun x44 w45 h => ?_))
              refine RL.opS (wanted_of rfl rfl hb40) rfl (OpW.bin (k := .i64) (a := x44) (b := 3) (v := .bool (!decide (x44 = 3))) rfl rfl rfl ?_)
              refine RL.opS trivial rfl (OpW.pick (b := false) (v := .bool (!decide (x44 = 3))) (congrArg Value.bool hb40) rfl ?_)
              refine RL.nil ?_
              exact ⟨(!decide (x44 = 3)), ⟨rfl, e33, e34, e35, e36, e37, e38, e39⟩, h⟩
        · clear hk253
          dsimp only [List.take]
          obtain ⟨ha, hc⟩ := h
          rcases Bool.eq_false_or_eq_true (!decide (x26.2.2 = 1)) with hb28 | hb28
          · have h := ha hb28; clear ha hc
            refine RL.skipS (notWanted_of rfl rfl hb28) rfl ?_
            refine RL.skipS (notWanted_of rfl rfl hb28) rfl ?_
            refine RL.skipS (notWanted_of rfl rfl hb28) rfl ?_
            refine RL.opS trivial rfl (OpW.pick (b := true) (v := .bool true) (congrArg Value.bool hb28) rfl ?_)
            refine RL.nil ?_
            exact ⟨true, ⟨rfl, e16, e17, e18, rfl, rfl, rfl, rfl⟩, h⟩
          · have h := hc hb28; clear ha hc
            refine RL.opS (wanted_of rfl rfl hb28) rfl (OpW.move (v := Sl.v x24.2.1) rfl ?_)
            refine RL.opS (wanted_of rfl rfl hb28) rfl (OpW.len (s := x24.2.1) slice_22 rfl ?_)
            refine RL.opS (wanted_of rfl rfl hb28) rfl (OpW.bin (k := .i64) (a := (x24.2.1.len : Int)) (b := 0) (v := .bool (!decide ((x24.2.1.len : Int) = 0))) rfl rfl rfl ?_)
            refine RL.opS trivial rfl (OpW.pick (b := false) (v := .bool (!decide ((x24.2.1.len : Int) = 0))) (congrArg Value.bool hb28) rfl ?_)
            refine RL.nil ?_
            exact ⟨(!decide ((x24.2.1.len : Int) = 0)), ⟨rfl, e16, e17, e18, rfl, rfl, rfl, rfl⟩, h⟩
    · clear hk255
      dsimp only [List.take]
      obtain ⟨ha, hc⟩ := h
      rcases Bool.eq_false_or_eq_true s5 with hb11 | hb11
      · have h := ha hb11; clear ha hc
        refine RL.skipS (notWanted_of rfl rfl hb11) rfl ?_
        refine RL.skipS (notWanted_of rfl rfl hb11) rfl ?_
        refine RL.opS trivial rfl (OpW.pick (b := true) (v := .bool true) (congrArg Value.bool hb11) rfl ?_)
        refine RL.nil ?_
        exact ⟨true, ⟨rfl, e8, e9, e10⟩, h⟩
      · have h := hc hb11; clear ha hc
        refine RL.opS (wanted_of rfl rfl hb11) rfl (OpW.move (v := .int .i64 p0) e8 ?_)
        refine RL.opS (wanted_of rfl rfl hb11) rfl (OpW.bin (k := .i64) (a := p0) (b := 40) (v := .bool (decide (40 < p0))) rfl rfl rfl ?_)
        refine RL.opS trivial rfl (OpW.pick (b := false) (v := .bool (decide (40 < p0))) (congrArg Value.bool hb11) rfl ?_)
        refine RL.nil ?_
        exact ⟨(decide (40 < p0)), ⟨rfl, e8, e9, e10⟩, h⟩
  · clear hk257
    dsimp only [List.take]
    obtain ⟨ha, hc⟩ := h
    rcases Bool.eq_false_or_eq_true (!x1) with hb3 | hb3
    · have h := ha hb3; clear ha hc
      refine RL.skipS (notWanted_of rfl rfl hb3) rfl ?_
      refine RL.skipS (notWanted_of rfl rfl hb3) rfl ?_
      refine RL.opS trivial rfl (OpW.pick (b := true) (v := .bool true) (congrArg Value.bool hb3) rfl ?_)
      refine RL.nil ?_
      exact ⟨true, ⟨rfl, rfl, rfl, rfl⟩, h⟩
    · have h := hc hb3; clear ha hc
      refine RL.opS (wanted_of rfl rfl hb3) rfl (OpW.move (v := .int .i64 p0) rfl ?_)
      refine RL.opS (wanted_of rfl rfl hb3) rfl (OpW.bin (k := .i64) (a := p0) (b := 1) (v := .bool (decide (p0 < 1))) rfl rfl rfl ?_)
      refine RL.opS trivial rfl (OpW.pick (b := false) (v := .bool (decide (p0 < 1))) (congrArg Value.bool hb3) rfl ?_)
      refine RL.nil ?_
      exact ⟨(decide (p0 < 1)), ⟨rfl, rfl, rfl, rfl⟩, h⟩
end Go.Proofs.Ytagkcbbbdlmcjaa
end
section
/- WalArgs: parts of disks that can't be, disks that are down, and nil journals: the law answers true and leaves all that was there. -/
set_option linter.unusedVariables false
set_option linter.unusedSimpArgs false
namespace Go.Proofs.Ytagkcbbbdlmcjaa
open Go.Lift Go.Lift.Disk Go.Lift.Crc Go.Lift.Wal Go.RowKit
theorem fr5 : (frameB []).length = 5 := by decide +kernel
theorem add_down {D : Dk} {L : Lg} {frm room : Nat} (hd : D.down = true) (hb : L.broken = false) (hL : L.data = []) (hs : L.seq ≠ last) (hr : 5 ≤ room) : addD D L frm room [[]] = (D, { L with broken := true }, 6) := by
  have h5 := fr5
  have hg : gather [[]] room L.data = some (frameB []) := by
    rw [hL]
    unfold gather
    rw [if_neg (by simp), List.nil_append]
    unfold gather
    rw [if_neg (by omega)]
  have hw : ∀ i b, D.write i b = (D, 6) := by
    intro i b
    have : D.why i = 6 := by unfold Dk.why; rw [if_pos hd]
    unfold Dk.write
    rw [this]
    rfl
  have hl : layF ((frameB []).length / 512 + 1) D frm (frameB []) (L.data.length / 512) = (D, 6) := by
    rw [hL, h5]
    show layF 1 D frm (frameB []) 0 = _
    unfold layF
    rw [if_neg (by omega), hw]
    rfl
  unfold addD
  rw [if_neg (by rw [hb]; simp), if_neg (by simp), hg]
  simp only
  rw [if_neg hs, hl]
  rfl
theorem parts_nil1 {w w' : World} {b : Nat} (hb : b = w.heap.size) (hw : w' = w.alloc (.cells [nilSl.v].toArray 39)) : Parts w' ⟨some ⟨b, 0, none⟩, 1, 1⟩ [[]] :=
  parts_one hb hw ⟨rfl, rfl⟩
theorem walArgs_ok (w : World) (n0 : Int) (_hw0 : (Lit.int .i64 n0).wf = true) (n1 : Int) (_hw1 : (Lit.int .i64 n1).wf = true) (n2 : Int) (_hw2 : (Lit.int .i64 n2).wf = true) :
    Calls Try.prog 12 #[.int .i64 n0, .int .i64 n1, .int .i64 n2] w (Ret r12 fun x w' => x = true ∧ Ext w w') := by
  have hr1 : -9223372036854775808 ≤ n1 ∧ n1 ≤ 9223372036854775807 := by simpa [Lit.wf, IntKind.min, IntKind.max, IntKind.signed, IntKind.bits] using _hw1
  have hr2 : -9223372036854775808 ≤ n2 ∧ n2 ≤ 9223372036854775807 := by simpa [Lit.wf, IntKind.min, IntKind.max, IntKind.signed, IntKind.bits] using _hw2
  apply s12_calls
  refine cR_of (lives4_ok w) ?_
  rintro x1 w2 ⟨rfl, hx2⟩
  refine jn_of fun k1 hk1 => ⟨fun h => absurd h (by decide), fun _ => ?_⟩
  rw [hk1]
  refine jn_of fun k2 hk2 => ?_
  have bad : k2 true w2 := by
    rw [hk2]
    exact ⟨fun _ => cR_of (lives4_ok w2) fun x w' ⟨hx, hw⟩ => ⟨hx, hx2.trans hw⟩, fun h => absurd h (by simp)⟩
  refine ⟨fun _ => bad, fun h1 => ?_⟩
  have h1 := of_decide_eq_false h1
  by_cases h40 : 40 < n0
  · rw [decide_eq_true h40]; exact bad
  rw [decide_eq_false h40, hk2]
  refine ⟨fun h => absurd h (by simp), fun _ => ?_⟩
  obtain ⟨m, rfl⟩ := Int.eq_ofNat_of_zero_le (show 0 ≤ n0 by omega)
  refine cR_of (new_ok w2 m (by omega) (by omega)) ?_
  rintro x22 w23 ⟨pd, bb, rfl, h23, hx23⟩
  obtain ⟨hpd, hbb, _, _⟩ := h23.lt
  have hpd : w2.heap.size ≤ pd := hpd
  have hbb : w2.heap.size ≤ bb := hbb
  refine cR_of (open_any h23 (upB hx23.size) n1 n2 hr1.2 hr2.2) ?_
  rintro x24 w25 ⟨hf25, hlen, hcase⟩
  have hx25 := footExt hf25 hx23 hpd hbb
  refine cR_of (open_bad w25 none n1 n2 (.inl rfl)) ?_
  rintro x26 w27 ⟨rfl, rfl⟩
  refine jn_of fun k3 hk3 => ⟨fun h => absurd h (by simp), fun _ => ?_⟩
  rw [hlen, hk3]
  refine jn_of fun k4 hk4 => ⟨fun h => absurd h (by simp), fun _ => ?_⟩
  intro b42 w43 hb42 hw43
  have hx43 : Ext w25 w43 := Ext.new hw43
  refine cR_of (add_nil _) ?_
  rintro x44 w45 ⟨rfl, rfl⟩
  rw [hk4]
  refine jn_of fun k5 hk5 => ⟨fun h => absurd h (by simp), fun _ => ?_⟩
  refine cR_of (reset_nil w43) ?_
  rintro x58 w59 ⟨rfl, rfl⟩
  rw [hk5]
  refine jn_of fun k6 hk6 => ⟨fun h => absurd h (by simp), fun _ => ?_⟩
  refine cR_of (room_nil w43) ?_
  rintro x72 w73 ⟨rfl, rfl⟩
  rw [hk6]
  refine jn_of fun k7 hk7 => ⟨fun h => absurd h (by simp), fun _ => ?_⟩
  refine cR_of (len_nil w43) ?_
  rintro x86 w87 ⟨rfl, rfl⟩
  rw [hk7]
  refine jn_of fun k8 hk8 => ⟨fun h => absurd h (by simp), fun _ => ?_⟩
  refine cR_of (broken_nil w43) ?_
  rintro x100 w101 ⟨rfl, rfl⟩
  rw [hk8]
  refine ⟨fun h => absurd h (by simp), fun _ => ?_⟩
  have hxw := (hx2.trans hx25).trans hx43
  -- the condition
  refine jn_of fun k9 hk9 => ?_
  have key1 : ∀ q : Bool, (q = true ↔ (n1 < 0 ∨ n2 < 3)) → k9 q w43 := by
    intro q hq
    rw [hk9]
    refine jn_of fun k10 hk10 => ?_
    have key2 : ∀ q : Bool, (q = true ↔ ((n1 < 0 ∨ n2 < 3) ∨ (m : Int) < n2)) → k10 q w43 := by
      intro q hq
      rw [hk10]
      refine jn_of fun k11 hk11 => ?_
      have key3 : ∀ q : Bool, (q = true ↔ (((n1 < 0 ∨ n2 < 3) ∨ (m : Int) < n2) ∨ (m : Int) - n2 < n1)) → k11 q w43 := by
        intro q hq
        rw [hk11]
        refine ⟨fun ht => ?_, fun hfl => ?_⟩
        · have hbad := hq.1 ht
          rcases hcase with ⟨_, rfl, hD⟩ | ⟨frm, blocks, e1, e2, q1, q2, _⟩
          · refine jn_of fun k12 hk12 => ⟨fun _ => ?_, fun h => absurd h (by simp)⟩
            show k12 true _
            rw [hk12]
            refine jn_of fun k13 hk13 => ⟨fun _ => ?_, fun h => absurd h (by simp)⟩
            refine cR_of (changes_ok (hD.ext hx43)) ?_
            rintro x153 w154 ⟨rfl, rfl⟩
            rw [hk13]
            exact ⟨rfl, hxw⟩
          · omega
        · have hgood : ¬ (((n1 < 0 ∨ n2 < 3) ∨ (m : Int) < n2) ∨ (m : Int) - n2 < n1) := fun hh => by rw [hq.2 hh] at hfl; cases hfl
          rcases hcase with ⟨hb, _⟩ | ⟨frm, blocks, rfl, rfl, q1, q2, pl, e1, hpl, e2, hW⟩
          · omega
          obtain ⟨x24a, x24b, x24c⟩ := x24
          simp only at e1 e2 hlen ⊢
          subst e1; subst e2
          have hplw : w2.heap.size ≤ pl := Nat.le_trans hx23.size hpl
          have hfr := (free_fresh m).headed frm 1 0
          have hroom : 5 ≤ roomOf blocks := by unfold roomOf; omega
          generalize hE : headed (fresh m) frm 1 0 = E at hW hfr
          have hbE : ∀ k, k < 900000 → Bnd E k := by
            intro k hk
            rw [← hE]
            exact ⟨by show 0 + 1 + 1 + k < _; omega, by show 0 + k < _; omega⟩
          refine jn_of fun k12 hk12 => ⟨fun h => absurd h (by simp), fun _ => ?_⟩
          have h43 := hW.ext hx43
          have hsz43 : w2.heap.size ≤ w43.heap.size := (hx25.trans hx43).size
          refine cR_of (add_ok h43 (upB hsz43) (hbE 5000 (by decide)) nilSl [] ⟨[], rfl, rfl, rfl, fun k s b h => by simp at h⟩ (by simp) (by simp)) ?_
          have e3 : addD E ⟨1, [], 0, false⟩ frm (roomOf blocks) [] = (E, ⟨1, [], 0, false⟩, 0) := rfl
          rw [e3]
          rintro x164 w165 ⟨rfl, hW165, hf165⟩
          have hx165 := wfootExt hf165 (hx25.trans hx43) hpd hbb hplw
          rw [hk12]
          refine jn_of fun k13 hk13 => ⟨fun h => absurd h (by simp), fun _ => ?_⟩
          refine cR_of (changes_ok hW165.disk) ?_
          rintro x175 w176 ⟨rfl, rfl⟩
          simp only
          rw [hfr.ch, hk13]
          refine ⟨fun h => absurd h (by simp), fun _ => ?_⟩
          obtain ⟨g, sd, hX⟩ := hW165
          simp only at hX
          refine cR_of (crash_ok hX.disk (0, 0, 0) (by decide)) ?_
          rintro x185 w186 ⟨h186, hf186⟩
          have hX186 := hX.setDisk h186 hf186
          have hx186 := footExt hf186 hx165 hpd hbb
          have hdn : (E.crash (0, 0, 0)).down = true := by
            rw [crash_up hfr.down]
          have hbl : (E.crash (0, 0, 0)).bl.length = m := by
            rw [crash_up hfr.down]
            show (List.map _ _).length = m
            rw [List.length_map, crashL_len']
            exact hfr.len
          have hbC : ∀ k, k < 900000 → Bnd (E.crash (0, 0, 0)) k := by
            intro k hk
            obtain ⟨c1, c2⟩ := crash_size E (0, 0, 0)
            have := hbE k hk
            exact ⟨by rw [c1]; exact this.1, Nat.lt_of_le_of_lt (Nat.add_le_add_right c2 k) this.2⟩
          generalize E.crash (0, 0, 0) = C at h186 hX186 hdn hbl hbC
          obtain ⟨hpll, hpdl, hbbl, _, _⟩ := hX186.lt
          have hgl := hX186.glt
          have hbn : ∀ {w' : World}, w186.heap.size ≤ w'.heap.size → ∀ k, w'.heap.size ≤ k → ((Up w2.heap.size k ∧ k ≠ pl) ∧ k ≠ g) := fun hs k hk => ⟨⟨Nat.le_trans hx186.size (Nat.le_trans hs hk), by omega⟩, by omega⟩
          have ho := open_ok hX186.disk (hbn (Nat.le_refl _)) frm blocks q1 (by rw [hbl]; exact q2) (hbC 2 (by decide))
          have e4 : openD C frm (roomOf blocks) = (C, .fails 6) := by unfold openD; rw [if_pos hdn]
          rw [e4] at ho
          refine cR_of ho ?_
          rintro x187 w188 ⟨rfl, h188, hf188⟩
          have hX188 := hX186.setDisk h188 hf188
          have hx188 := footExt hf188 hx186 hpd hbb
          refine jn_of fun k14 hk14 => ⟨fun _ => ?_, fun h => absurd h (by simp)⟩
          intro b191 w192 hb191 hw192
          have hx192 : Ext w188 w192 := Ext.new hw192
          have hW192 : WAt w192 (Up w2.heap.size) pd bb pl frm (roomOf blocks) C ⟨1, [], 0, false⟩ := ⟨g, sd, hX188.ext hx192⟩
          refine cR_of (add_ok hW192 (upB (hx188.trans hx192).size) (hbC 5000 (by decide)) _ _ (parts_nil1 hb191 hw192) (by simp) (by simp)) ?_
          rw [add_down hdn rfl rfl (by decide) hroom]
          rintro x193 w194 ⟨rfl, hW194, hf194⟩
          have hx194 := wfootExt hf194 (hx188.trans hx192) hpd hbb hplw
          rw [hk14]
          refine jn_of fun k15 hk15 => ⟨fun _ => ?_, fun h => absurd h (by simp)⟩
          refine cR_of (broken_ok hW194) ?_
          rintro x201 w202 ⟨rfl, rfl⟩
          show k15 true _
          rw [hk15]
          refine jn_of fun k16 hk16 => ⟨fun _ => ?_, fun h => absurd h (by simp)⟩
          intro b209 w210 hb209 hw210
          have hx210 : Ext w194 w210 := Ext.new hw210
          refine cR_of (add_ok (hW194.ext hx210) (upB (hx194.trans hx210).size) (hbC 5000 (by decide)) _ _ (parts_nil1 hb209 hw210) (by simp) (by simp)) ?_
          rintro x211 w212 ⟨e5, hW212, hf212⟩
          have e6 : addD C { (⟨1, [], 0, false⟩ : Lg) with broken := true } frm (roomOf blocks) [[]] = (C, { (⟨1, [], 0, false⟩ : Lg) with broken := true }, 3) := rfl
          rw [e6] at e5 hW212
          subst e5
          have hx212 := wfootExt hf212 (hx194.trans hx210) hpd hbb hplw
          rw [hk16]
          refine jn_of fun k17 hk17 => ⟨fun _ => ?_, fun h => absurd h (by simp)⟩
          refine cR_of (reset_ok hW212 (upB hx212.size) (hbC 2 (by decide))) ?_
          rintro x219 w220 ⟨e7, hW220, hf220⟩
          have e8 : (resetD C { (⟨1, [], 0, false⟩ : Lg) with broken := true } frm).2.2 = 3 := rfl
          have e7 : x219 = 3 := e7.trans e8
          subst e7
          rw [hk17]
          exact ⟨rfl, hx2.trans (wfootExt hf220 hx212 hpd hbb hplw)⟩
      refine ⟨fun ht => key3 true ⟨fun _ => .inl (hq.1 ht), fun _ => rfl⟩, fun hf => key3 _ ?_⟩
      rw [decide_eq_true_iff]
      have hn : ¬ ((n1 < 0 ∨ n2 < 3) ∨ (m : Int) < n2) := fun hh => by rw [hq.2 hh] at hf; cases hf
      rw [w64_eq (by omega) (by omega)]
      exact ⟨.inr, fun hh => hh.resolve_left hn⟩
    refine ⟨fun ht => key2 true ⟨fun _ => .inl (hq.1 ht), fun _ => rfl⟩, fun hf => key2 _ ?_⟩
    rw [decide_eq_true_iff]
    have hn : ¬ (n1 < 0 ∨ n2 < 3) := fun hh => by rw [hq.2 hh] at hf; cases hf
    exact ⟨.inr, fun hh => hh.resolve_left hn⟩
  refine ⟨fun ht => key1 true ⟨fun _ => .inl (of_decide_eq_true ht), fun _ => rfl⟩, fun hf => key1 _ ?_⟩
  rw [decide_eq_true_iff]
  exact ⟨.inr, fun hh => hh.resolve_left (of_decide_eq_false hf)⟩
end Go.Proofs.Ytagkcbbbdlmcjaa
end
