/- Parts of a proof, one behind the other: readings of functions, what they do, and what follows. -/
import Derived.Test.YtijopkmclcbehaaMPP1
set_option linter.unusedVariables false
set_option linter.unusedSimpArgs false
section
/- PoolPlays: whatever is got, put and dropped, in any order: each answer, and each frame's page, is the document's: the law answers true and leaves all that was there. -/
namespace Go.Proofs.Ytijopkmclcbehaa
open Go.Lift Go.Lift.Pool Go.RowKit
theorem get_cnt (P : Pl) (n : Int) : (P.get n).1.hits + (P.get n).1.misses = P.hits + P.misses + 1 := by
 unfold Pl.get
 split
 ·simp only; omega
 ·simp only; omega
theorem put_cnt (P : Pl) (n : Int) (bs : List UInt8) : (P.put n bs).1.hits + (P.put n bs).1.misses = P.hits + P.misses := by
 unfold Pl.put
 split
 ·rfl
 ·split
  ·rfl
  ·unfold Pl.place
   split <;> rfl
theorem drop_cnt (P : Pl) (n : Int) : (P.drop n).1.hits + (P.drop n).1.misses = P.hits + P.misses := by
 unfold Pl.drop
 split <;> rfl
theorem u8_succ (c : UInt8) : IntKind.u8.wrap ((c.toNat : Int) + 1) = (((c + 1).toNat : Nat) : Int) := by
 rw [wu8_mod]
 simp
theorem Fr.extX {X : Nat → Prop} {w w' : World} (h : Fr X w w') : ExtX X w w' := ⟨h.size, fun k hk hx => h.block k hk hx⟩
theorem u8s_set (bs : List UInt8) (i : Nat) (c : UInt8) : (u8s bs).set i (.int .u8 (c.toNat : Int)) = u8s (bs.set i c) := by simp [u8s, List.map_set]
theorem poolPlays_ok (w : World) (n0 : Int) (_hw0 : (Lit.int .i64 n0).wf = true) (p : Sl) (l1 : List OpA) (h1 : OpsAt w p l1) (hlc1 : p.len ≤ p.cap) (hcm1 : p.cap ≤ maxLen) :
  Calls Try.prog 3 #[.int .i64 n0, p.v] w (Ret r3 fun x w' => x = true ∧ Ext w w') := by
 apply s3_calls
 refine cR_of (lives_ok w) ?_
 rintro x1 w2 ⟨rfl, hx2⟩
 refine jn_of fun k1 hk1 => ⟨fun h => absurd h (by decide), fun _ => ?_⟩
 refine cR_of (fits_ok w2 p l1 (h1.ext hx2) (Nat.le_trans hlc1 hcm1)) ?_
 rintro x5 w8 ⟨hfit, hx8⟩
 have hxw8 := hx2.trans hx8
 rw [hk1]
 refine ⟨fun _ => cR_of (lives_ok w8) fun x w' ⟨hx, hw⟩ => ⟨hx, hxw8.trans hw⟩, fun hf5 => ?_⟩
 obtain ⟨hl300, hall⟩ := hfit (by simpa using hf5)
 by_cases hbad : n0 < 1 ∨ 64 < n0
 ·refine cR_of (new_bad w8 n0 hbad) ?_
  rintro x15 w16 ⟨rfl, rfl⟩
  refine jn_of fun k2 hk2 => ?_
  have key : k2 true w8 := by
   rw [hk2]
   refine ⟨fun _ => ?_, fun h => absurd h (by decide)⟩
   refine jn_of fun k3 hk3 => ⟨fun _ => ?_, fun h => absurd h (by simp)⟩
   rw [hk3]
   exact ⟨by simp, hxw8⟩
  refine ⟨fun _ => key, fun h1' => ?_⟩
  have h1' := of_decide_eq_false h1'
  rw [decide_eq_true (show 64 < n0 by omega)]; exact key
 obtain ⟨n, rfl⟩ := Int.eq_ofNat_of_zero_le (show 0 ≤ n0 by omega)
 refine cR_of (new_ok w8 n (by omega) (by omega)) ?_
 rintro x15 w16 ⟨pb, g, r, rfl, h16, hx16⟩
 obtain ⟨⟨hpb, hgb, hrb⟩, lpb, lgb, lrb⟩ := h16.lt
 have hpb : w8.heap.size ≤ pb := hpb
 have hgb : w8.heap.size ≤ g := hgb
 have hrb : w8.heap.size ≤ r := hrb
 have hs08 := hxw8.size
 refine jn_of fun k2 hk2 => ⟨fun h => absurd (of_decide_eq_true h) (by omega), fun _ => ?_⟩
 rw [show (decide (64 < (n : Int))) = false from decide_eq_false (by omega), hk2]
 refine ⟨fun h => absurd h (by decide), fun _ => ?_⟩
 refine cR_of (ref_new_ok w16 n (by omega)) ?_
 rintro x34 w35 ⟨hA35, hx35⟩
 refine ⟨hA35.len, hA35.one, fun b36 w37 hb36 hw37 => ?_⟩
 have hx37 : Ext w35 w37 := Ext.new hw37
 have hB37 : Blk w37 b36 31 x34 := Blk.new hb36 hw37
 have hs35 := hx35.size
 have hs16 := hx16.size
 have hxw37 := hxw8.trans (hx16.trans (hx35.trans hx37))
 have hnF : ∀ k, w16.heap.size ≤ k → ¬ Foot pb g r k := by
  rintro k hk (e | e | e) <;> omega
 have hP37 : PAt w37 (fun k => w8.heap.size ≤ k ∧ k ≠ b36) pb g r (newP n) := (h16.mono fun k hk hu => ⟨hu, by omega⟩).ext (hx35.trans hx37)
 have hA37 : RAt w37 (fun k => ¬ Foot pb g r k ∧ k ≠ b36) x34 (newP n) := (hA35.mono fun k hk hu => ⟨hnF k hu, by omega⟩).ext hx37
 have hp1 := h1.len
 have hb16 : w16.heap.size ≤ b36 := by omega
 have hbF : ¬ Foot pb g r b36 := hnF _ hb16
 refine ⟨fun s w' => ∃ (k : Nat) (P : Pl) (cs : List Value), k ≤ l1.length ∧ s = (k : Int) ∧ PAt w' (fun k => w8.heap.size ≤ k ∧ k ≠ b36) pb g r P ∧ RAt w' (fun k => ¬ Foot pb g r k ∧ k ≠ b36) cs P ∧ Blk w' b36 31 cs ∧ Ext w w' ∧ P.hits + P.misses ≤ k,
  fun s _ => l1.length - s.toNat, ⟨0, newP n, x34, Nat.zero_le _, rfl, hP37, hA37, hB37, hxw37, Nat.le_refl _⟩, ?_⟩
 rintro s w39 ⟨k, P, cs, hk, rfl, hP, hA, hB, hxw39, hcnt⟩
 refine ⟨fun hlt => ?_, fun hge => ⟨rfl, hxw39⟩⟩
 have hkl : k < l1.length := by have := of_decide_eq_true hlt; omega
 obtain ⟨a, ha, hat⟩ := (h1.ext hxw39).get hkl
 refine ⟨a, _, ha, by omega, by omega, rfl, ?_⟩
 rw [Int.toNat_natCast]
 refine ⟨_, rfl, hat, rfl, opCells_one _, fun b50 w51 hb50 hw51 => ?_⟩
 have hx51 : Ext w39 w51 := Ext.new hw51
 have hBo : Blk w51 b50 35 l1[k].cells := Blk.new hb50 hw51
 have hP51 := hP.ext hx51
 have hA51 := hA.ext hx51
 have hB51 := hB.ext hx51
 have hxw51 := hxw39.trans hx51
 have hwf := hP.wf
 have hlen := hA.len
 have hone := hA.one
 obtain ⟨_, lp, lg, lr⟩ := hP.lt
 have hs51 := hx51.size
 have hlB := hB.lt
 have hlBo := hBo.lt
 have hoF : ∀ k, w39.heap.size ≤ k → ¬ Foot pb g r k := by
  rintro k hk (e | e | e) <;> omega
 have hobs := hall _ (List.getElem_mem hkl)
 have hbyt := h1.ok _ (List.getElem_mem hkl)
 refine jn_of fun k52 hk52 => ?_
 have key : ∀ (P' : Pl) (cs' : List Value) (w1 : World), PAt w1 (fun k => w8.heap.size ≤ k ∧ k ≠ b36) pb g r P' → RAt w1 (fun k => ¬ Foot pb g r k ∧ k ≠ b36) cs' P' → Blk w1 b36 31 cs' → Ext w w1 → P'.hits + P'.misses ≤ k + 1 → k52 true w1 := by
  intro P' cs' w1 hP1 hA1 hB1 hx1 hc1
  rw [hk52]
  refine cR_of (pages_ok w1 _ pb g r P' hP1) ?_
  rintro x2 w2 ⟨hpl, hpc, hx2⟩
  refine cR_of (counts_ok w2 _ pb g r P' (hP1.ext hx2)) ?_
  rintro x3 w3 ⟨rfl, hx3⟩
  have hx13 := hx2.trans hx3
  obtain ⟨s, rfl, hR⟩ := id hA1
  have hB3 := hB1.ext hx13
  have hR3 := hR.ext hx13
  have hsl := hR.len
  have hfew := hP1.wf.few
  refine jn_of fun k3 hk3 => ⟨fun h => absurd h (by decide), fun _ => ?_⟩
  refine ⟨s, by rw [add_plain]; exact hB3.cell rfl, ?_⟩
  show k3 (!decide ((x2.len : Int) = (s.len : Int))) w3
  rw [show (!decide ((x2.len : Int) = (s.len : Int))) = false by simp [hpl, hsl], hk3]
  refine jn_of fun k4 hk4 => ⟨fun h => absurd h (by decide), fun _ => ?_⟩
  refine ⟨(P'.hits : Int), by rw [add_plain]; exact hB3.cell rfl, ?_⟩
  show k4 (!decide ((P'.hits : Int) = (P'.hits : Int))) w3
  rw [show (!decide ((P'.hits : Int) = (P'.hits : Int))) = false by simp, hk4]
  refine jn_of fun k5 hk5 => ⟨fun h => absurd h (by decide), fun _ => ?_⟩
  refine ⟨(P'.misses : Int), by rw [add_plain]; exact hB3.cell rfl, ?_⟩
  show k5 (!decide ((P'.misses : Int) = (P'.misses : Int))) w3
  rw [show (!decide ((P'.misses : Int) = (P'.misses : Int))) = false by simp, hk5]
  refine ⟨fun h => absurd h (by decide), fun _ => ?_⟩
  refine ⟨fun st w' => w' = w3 ∧ ∃ i : Nat, i ≤ P'.fr.length ∧ st = (i : Int), fun st _ => P'.fr.length - st.toNat, ⟨rfl, 0, Nat.zero_le _, rfl⟩, ?_⟩
  rintro st w' ⟨rfl, i, hi, rfl⟩
  refine ⟨fun hlt => ?_, fun hge => ?_⟩
  ·have hil : i < P'.fr.length := by have := of_decide_eq_true hlt; omega
   have hpg : (pgs P'.fr)[i]? = some (.int .i64 (fAt P'.fr i).page) := by
    unfold pgs
    rw [fAt_lt hil]
    simp [hil]
   obtain ⟨b, hb, hcb⟩ := (Ext.atO hx3 hpc).some_of hpg
   obtain ⟨a2, ha2, hc2⟩ := hR3.get hil
   refine ⟨b, _, hb, by omega, by omega, rfl, (fAt P'.fr i).page, ?_, s, by rw [add_plain]; exact hB3.cell rfl, a2, _, ha2, by omega, by omega, rfl, (fAt P'.fr i).page, ?_, ?_⟩
   ·rw [Int.toNat_natCast, Nat.mul_one]; exact hcb
   ·have := hc2 0 _ (show (rfC (fAt P'.fr i))[0]? = some (.int .i64 (fAt P'.fr i).page) from rfl)
    rw [Int.toNat_natCast]; exact this
   refine ⟨fun h => absurd h (by simp), fun _ => ?_⟩
   rw [w64_eq (by omega) (by omega)]
   exact ⟨⟨rfl, i + 1, by omega, by omega⟩, by simp only; omega⟩
  ·rw [w64_eq (by omega) (by omega)]
   exact ⟨⟨k + 1, P', _, by omega, by omega, hP1.ext hx13, hA1.ext hx13, hB3, hx1.trans hx13, hc1⟩, by simp only; omega⟩
 refine ⟨l1[k].kind, by rw [add_plain]; exact hBo.cell rfl, fun h0 => ?_, fun h0 => ⟨fun h1' => ?_, fun h1' => ?_⟩⟩
 · -- Get
  refine ⟨l1[k].n, by rw [add_plain]; exact hBo.cell rfl, ?_⟩
  refine cR_of (get_ok w51 _ pb g r P hP51 (by omega) l1[k].n) ?_
  rintro ⟨xs, xb⟩ w57 ⟨he, hbt, hP57, hf57, hfar⟩
  simp only at he hbt hfar
  have hB57 := hB51.fr hf57 hbF
  have hBo57 := hBo.fr hf57 (hoF b50 (by omega))
  have hA57 := hA51.fr (B' := fun k => ¬ Foot pb g r k ∧ k ≠ b36) hf57 (fun k hk => hk.1) fun k _ hk => hk
  have hxw57 : Ext w w57 := footExt hf57 hxw51 (by omega) (by omega) (by omega)
  have hs57 := hf57.size
  refine ⟨cs, hlen, hB57.at (by rw [List.drop_zero, List.take_length]), l1[k].n, by rw [add_plain]; exact hBo57.cell rfl, ?_⟩
  refine cR_of (ref_get_ok w57 _ cs P hA57 hwf (by omega) l1[k].n) ?_
  rintro ⟨cs2, ys, yb⟩ w61 ⟨he2, hA61, hx61⟩
  simp only at he2 hA61
  have hys : ys = (P.get l1[k].n).2.1 := congrArg Prod.fst he2
  have hyb : yb = (P.get l1[k].n).2.2 := congrArg Prod.snd he2
  refine ⟨hA61.len, hA61.one, fun b62 w63 hb62 hw63 => ?_⟩
  have hx63 : Ext w61 w63 := Ext.new hw63
  have hB62 : Blk w63 b62 31 cs2 := Blk.new hb62 hw63
  intro w64 hw64
  have hx64 : Ext w63 w64 := by rw [hw64]; exact Ext.drew _
  have hx5763 := hx61.trans hx63
  have hx5764 := hx5763.trans hx64
  have hbt63 := hbt.ext hx5763
  have hs61 := hx61.size
  refine jn_of fun k66 hk66 => ?_
  have key66 : k66 true w64 := by
   rw [hk66]
   refine ⟨cs2, hA61.len, hB62.at (by rw [List.drop_zero, List.take_length]), ?_⟩
   show stA _ _ _ _ _
   refine stA_blk (hB57.ext hx5764) hA61.len (by omega) hA61.one fun w80 hB80 hf80 => ?_
   rw [splice_all (n := 4) hA61.len hlen] at hB80
   refine key (P.get l1[k].n).1 cs2 w80 ((hP57.ext hx5764).fr' hf80 (fun k hk e => hk.2 e) fun k _ hk => hk) ?_ hB80 (hf80.ext (hxw57.trans hx5764) fun k _ e => by rw [e]; omega) (by have := get_cnt P l1[k].n; omega)
   refine ((hA61.mono (B' := fun k => ¬ Foot pb g r k ∧ k ≠ b36) fun k _ hk => ?_).ext (hx63.trans hx64)).fr hf80 (fun k hk e => hk.2 e) fun k _ hk => hk
   rcases hk with hk | hk
   ·exact hk
   ·exact ⟨hoF k (by omega), by omega⟩
  refine ⟨fun _ => ⟨_, hbt63.1, hbt63.2, ?_⟩, fun h => absurd h (by rw [he, hyb]; simp)⟩
  show k66 (decide ((P.get l1[k].n).2.1 = ys)) w64
  rw [hys, decide_eq_true rfl]
  exact key66
 · -- Put
  intro b84 w85 hb84 hw85
  have hx85 : Ext w51 w85 := Ext.new hw85
  refine ⟨l1[k].sl, by rw [add_plain]; exact (hBo.ext hx85).cell rfl, ?_⟩
  have hbyt51 := hbyt.ext hxw51
  have hbl := hbyt.1
  refine app_ok (base := w51.heap.size) mk_33 rfl (by decide) (Own.made (e := 5) (size := 1) (c := 0) hb84 hw85 (Nat.le_refl _) rfl (by simp [maxLen])) (news := u8s l1[k].bs)
   (by rw [u8s_len, hbl, Nat.mul_one]) (Ext.atO hx85 hbyt51.2) (u8s_one _) (by show 0 + l1[k].sl.len ≤ maxLen; simp only [maxLen]; omega) (by show (0 + l1[k].sl.len) * 1 ≤ _; omega) hx85.size ?_
  intro x87 w88 hl87 ho88 _ hB'
  rw [List.nil_append] at ho88
  have hx88 : Ext w51 w88 := hB' _ _ hx85 (Nat.le_refl _) hx85.size
  have hfar := own_far ho88
  have hs88 := hx88.size
  have hBo88 := hBo.ext hx88
  refine ⟨l1[k].n, by rw [add_plain]; exact hBo88.cell rfl, ?_⟩
  have hP88 := (hP51.mono (B' := fun k => (w8.heap.size ≤ k ∧ k ≠ b36) ∧ k < w51.heap.size) fun k hk hb => ⟨hb, hk⟩).ext hx88
  have hA88 := (hA51.mono (B' := fun k => (¬ Foot pb g r k ∧ k ≠ b36) ∧ k < w51.heap.size) fun k hk hb => ⟨hb, hk⟩).ext hx88
  refine cR_of (put_ok w88 _ pb g r P hP88 l1[k].n x87 l1[k].bs ho88.bytes (by omega) fun a ha => hoF _ (by have := (hfar a ha).1; omega)) ?_
  rintro x90 w91 ⟨rfl, hP91, hf91⟩
  have hxw88 := hxw51.trans hx88
  have hxw91 : Ext w w91 := footExt hf91 hxw88 (by omega) (by omega) (by omega)
  have hs91 := hf91.size
  have hB91 := (hB51.ext hx88).fr hf91 hbF
  have hBo91 := hBo88.fr hf91 (hoF b50 (by omega))
  have ho91 := hf91.own (fun a ha => hoF _ (by have := (hfar a ha).1; omega)) ho88
  have hA91 := hA88.fr (B' := fun k => (¬ Foot pb g r k ∧ k ≠ b36) ∧ k < w51.heap.size) hf91 (fun k hk => hk.1.1) fun k _ hk => hk
  have hbyt91 := hbyt.ext hxw91
  refine ⟨cs, hlen, hB91.at (by rw [List.drop_zero, List.take_length]), l1[k].n, by rw [add_plain]; exact hBo91.cell rfl, l1[k].sl, by rw [add_plain]; exact hBo91.cell rfl, l1[k].bs, hbyt91.1, hbyt91.2, ?_⟩
  refine cR_of (ref_put_ok w91 _ cs P hA91 hwf l1[k].n l1[k].bs (by omega)) ?_
  rintro ⟨cs2, y⟩ w97 ⟨he2, hA97, hx97⟩
  simp only at he2 hA97
  subst he2
  refine ⟨hA97.len, hA97.one, fun b98 w99 hb98 hw99 => ?_⟩
  have hx99 : Ext w97 w99 := Ext.new hw99
  have hB98 : Blk w99 b98 31 cs2 := Blk.new hb98 hw99
  intro w100 hw100
  have hx100 : Ext w99 w100 := by rw [hw100]; exact Ext.drew _
  have hx91100 := hx97.trans (hx99.trans hx100)
  have hs97 := hx97.size
  refine ⟨cs2, hA97.len, hB98.at (by rw [List.drop_zero, List.take_length]), ?_⟩
  show stA _ _ _ _ _
  refine stA_blk (hB91.ext hx91100) hA97.len (by omega) hA97.one fun w103 hB103 hf103 => ?_
  rw [splice_all (n := 4) hA97.len hlen] at hB103
  have hxw103 : Ext w w103 := hf103.ext (hxw91.trans hx91100) fun k _ e => by rw [e]; omega
  have hP103 : PAt w103 (fun k => (w8.heap.size ≤ k ∧ k ≠ b36) ∧ (k < w51.heap.size ∨ w88.heap.size ≤ k)) pb g r (P.put l1[k].n l1[k].bs).1 := by
   refine ((hP91.mono (B' := fun k => (w8.heap.size ≤ k ∧ k ≠ b36) ∧ (k < w51.heap.size ∨ w88.heap.size ≤ k)) fun k _ hk => ?_).ext hx91100).fr' hf103 (fun k hk e => hk.1.2 e) fun k _ hk => hk
   rcases hk with hk | hk
   ·exact ⟨hk.1, .inl hk.2⟩
   ·exact ⟨⟨by omega, by omega⟩, .inr hk⟩
  have hA103 : RAt w103 (fun k => (¬ Foot pb g r k ∧ k ≠ b36) ∧ (k < w51.heap.size ∨ w88.heap.size ≤ k)) cs2 (P.put l1[k].n l1[k].bs).1 := by
   refine ((hA97.mono (B' := fun k => (¬ Foot pb g r k ∧ k ≠ b36) ∧ (k < w51.heap.size ∨ w88.heap.size ≤ k)) fun k _ hk => ?_).ext (hx99.trans hx100)).fr hf103 (fun k hk e => hk.1.2 e) fun k _ hk => hk
   rcases hk with hk | hk
   ·exact ⟨hk.1, .inl hk.2⟩
   ·exact ⟨⟨hoF k (by omega), by omega⟩, .inr (by omega)⟩
  have ho103 := hf103.own (fun a ha e => by have := (hfar a ha).1; have e : a.block = b36 := e; omega) (Own.ext hx91100 ho91)
  refine ⟨fun st w' => ∃ (i : Nat) (bs' : List UInt8), i ≤ x87.len ∧ st = (i : Int) ∧ Own w' w51.heap.size 5 1 x87 (u8s bs') ∧ PAt w' (fun k => (w8.heap.size ≤ k ∧ k ≠ b36) ∧ (k < w51.heap.size ∨ w88.heap.size ≤ k)) pb g r (P.put l1[k].n l1[k].bs).1 ∧
    RAt w' (fun k => (¬ Foot pb g r k ∧ k ≠ b36) ∧ (k < w51.heap.size ∨ w88.heap.size ≤ k)) cs2 (P.put l1[k].n l1[k].bs).1 ∧ Blk w' b36 31 cs2 ∧ Ext w w', fun st _ => x87.len - st.toNat,
   ⟨0, l1[k].bs, Nat.zero_le _, rfl, ho103, hP103, hA103, hB103, hxw103⟩, ?_⟩
  rintro st w' ⟨i, bs', hi, rfl, ho, hP', hA', hB', hx'⟩
  have hl87' : x87.len = 0 + l1[k].sl.len := hl87
  refine ⟨fun hlt => ?_, fun hge => ?_⟩
  ·have hil : i < x87.len := by have := of_decide_eq_true hlt; omega
   have hbl' := ho.length
   rw [u8s_len] at hbl'
   have hib : i < bs'.length := by omega
   refine ix_own ho (by decide) rfl hil fun go hgo hgb' hgl => ?_
   have hat' := ho.at
   rw [hgo] at hat'
   have hcell := hat' i _ (u8s_get (List.getElem?_eq_getElem hib))
   rw [add_plain, Nat.zero_add] at hcell
   refine ⟨(bs'[i].toNat : Int), by rw [Nat.mul_one]; exact hcell, ?_⟩
   refine ix_own ho (by decide) rfl hil fun go2 hgo2 _ _ => ?_
   rw [hgo] at hgo2
   cases hgo2
   rw [u8_succ, Nat.mul_one]
   refine st1_own ho hgo (by omega) fun w2 hw2 ho2 hbel2 => ?_
   rw [u8s_set] at ho2
   have hf2 : Fr (· = go) w' w2 := by rw [hw2]; exact setCell_fr _ _ _ _
   obtain ⟨hg1, hg2⟩ := hfar _ hgo
   have hg1 : w51.heap.size ≤ go := hg1
   have hg2 : go < w88.heap.size := hg2
   rw [w64_eq (by omega) (by omega)]
   refine ⟨⟨i + 1, _, by omega, by omega, ho2, hP'.fr' hf2 (fun k hk e => ?_) (fun k _ hk => hk), hA'.fr hf2 (fun k hk e => ?_) (fun k _ hk => hk), hB'.fr hf2 (show ¬ b36 = go by omega), hf2.ext hx' fun k _ e => by rw [e]; have := hxw51.size; omega⟩, by simp only; omega⟩
   ·have e : k = go := e
    have := hk.2
    omega
   ·have e : k = go := e
    have := hk.2
    omega
  ·rw [decide_eq_true rfl]
   exact key _ cs2 w' (hP'.mono fun k _ hk => hk.1) (hA'.mono fun k _ hk => hk.1) hB' hx' (by have := put_cnt P l1[k].n l1[k].bs; omega)
 · -- Drop
  refine ⟨cs, hlen, hB51.at (by rw [List.drop_zero, List.take_length]), l1[k].n, by rw [add_plain]; exact hBo.cell rfl, ?_⟩
  refine cR_of (ref_drop_ok w51 _ cs P hA51 hwf l1[k].n) ?_
  rintro ⟨cs2, y⟩ w128 ⟨he2, hA128, hx128⟩
  simp only at he2 hA128
  subst he2
  refine ⟨hA128.len, hA128.one, fun b129 w130 hb129 hw130 => ?_⟩
  have hx130 : Ext w128 w130 := Ext.new hw130
  have hB129 : Blk w130 b129 31 cs2 := Blk.new hb129 hw130
  have hx51130 := hx128.trans hx130
  have hs128 := hx128.size
  refine ⟨Foot pb g r, ?_⟩
  intro w132 hw132
  have hx132 : Ext w130 w132 := by rw [hw132]; exact Ext.drew _
  have hx51132 := hx51130.trans hx132
  have hBo130 := hBo.ext hx51130
  refine ⟨by rw [add_plain]; exact hoF b50 (by omega), l1[k].n, by rw [add_plain]; exact hBo130.cell rfl, hoF b129 (by omega), cs2, hA128.len, hB129.at (by rw [List.drop_zero, List.take_length]), ?_⟩
  refine cR_of (drop_ok w132 _ pb g r P (hP51.ext hx51132) l1[k].n) ?_
  rintro x138 w139 ⟨rfl, hP139, hf139⟩
  refine ⟨Fr.extX hf139, ?_⟩
  have hxw139 : Ext w w139 := footExt hf139 (hxw51.trans hx51132) (by omega) (by omega) (by omega)
  show stA _ _ _ _ _
  refine stA_blk ((hB51.ext hx51132).fr hf139 hbF) hA128.len (by omega) hA128.one fun w141 hB141 hf141 => ?_
  rw [splice_all (n := 4) hA128.len hlen] at hB141
  rw [show ((P.drop l1[k].n).2 == (P.drop l1[k].n).2) = true by simp]
  refine key _ cs2 w141 (hP139.fr' hf141 (fun k hk e => hk.2 e) fun k _ hk => hk) ?_ hB141 (hf141.ext hxw139 fun k _ e => by rw [e]; omega) (by have := drop_cnt P l1[k].n; omega)
  refine (((hA128.mono (B' := fun k => ¬ Foot pb g r k ∧ k ≠ b36) fun k _ hk => ?_).ext (hx130.trans hx132)).fr (B' := fun k => ¬ Foot pb g r k ∧ k ≠ b36) hf139 (fun k hk => hk.1) fun k _ hk => hk).fr hf141 (fun k hk e => hk.2 e) fun k _ hk => hk
  rcases hk with hk | hk
  ·exact hk
  ·exact ⟨hoF k (by omega), by omega⟩
end Go.Proofs.Ytijopkmclcbehaa
end
