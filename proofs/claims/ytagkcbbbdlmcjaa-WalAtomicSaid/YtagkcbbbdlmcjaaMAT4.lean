/- Parts of a proof, one behind the other: readings of functions, what they do, and what follows. -/
import Derived.Test.YtagkcbbbdlmcjaaMAT3
section
/- The typed readings of the functions, and that the program meets each: written by gen.py (a program of this session). -/
set_option linter.unusedVariables false
set_option linter.unusedSimpArgs false
namespace Go.Proofs.Ytagkcbbbdlmcjaa
open Go.Lift
set_option maxRecDepth 100000 in
set_option maxHeartbeats 4000000 in
theorem s68_calls (K : List Value × Int → World → Prop) (p0 : List Value) (w : World) (h : s68 K p0 w) :
    Calls Try.prog 68 #[aggv p0] w (Ret r68 K) := by
  unfold s68 at h
  refine calls_of_CW (n := 35) Try.func68 rfl rfl rfl ?_
  refine CW.seq ?_
  refine CW.region ?_
  obtain ⟨b1, hb1_⟩ : ∃ b_, b_ = w.heap.size := ⟨_, rfl⟩
  obtain ⟨w2, hw2_⟩ : ∃ w_, w_ = w.alloc (.cells (List.toArray p0) 49) := ⟨_, rfl⟩
  have h := h b1 w2 hb1_ hw2_
  refine RL.opS trivial rfl (OpW.boxE (cs := p0) (rfl) hb1_ hw2_ ?_)
  obtain ⟨b3, hb3_⟩ : ∃ b_, b_ = w2.heap.size := ⟨_, rfl⟩
  obtain ⟨w4, hw4_⟩ : ∃ w_, w_ = w2.alloc (.cells (List.toArray [Value.slice none 0 0, Value.slice none 0 0, Value.slice none 0 0, Value.int .i64 0, Value.bool false]) 49) := ⟨_, rfl⟩
  have h := h b3 w4 hb3_ hw4_
  refine RL.opS trivial rfl (OpW.allocE (b := b3) zero_49 hb3_ hw4_ ?_)
  refine RL.opS trivial rfl (OpW.assign (v := .int .i64 0) rfl ?_)
  refine RL.nil ?_
  refine CW.seq ?_
  refine CW.region ?_
  refine RL.opS trivial rfl (OpW.fieldAddr field_49_3 rfl ?_)
  obtain ⟨x5, h1, h⟩ := h
  refine RL.opS trivial rfl (OpW.load1 (v := .int .i64 x5) one_3 rfl h1 ?_)
  refine RL.opS trivial rfl (OpW.assign (v := .int .i64 x5) rfl ?_)
  refine RL.nil ?_
  refine CW.seq ?_
  refine CW.region ?_
  refine RL.opS trivial rfl (OpW.fieldAddr field_49_3 rfl ?_)
  obtain ⟨x6, h1, h⟩ := h
  refine RL.opS trivial rfl (OpW.load1 (v := .int .i64 x6) one_3 rfl h1 ?_)
  refine RL.opS trivial rfl (OpW.bin (k := .i64) (a := x6) (b := 1) (v := .int .i64 (IntKind.i64.wrap (x6 + 1))) rfl rfl rfl ?_)
  refine RL.opS trivial rfl (OpW.fieldAddr field_49_3 rfl ?_)
  obtain ⟨u_, h1, h2, h⟩ := h
  obtain ⟨w7, hw7_⟩ : ∃ w_, w_ = w4.setCell (Addr.add ⟨b1, 0, none⟩ 3) (.int .i64 (IntKind.i64.wrap (x6 + 1))) := ⟨_, rfl⟩
  have h := h w7 hw7_
  refine RL.opN trivial (OpW.store1E (v := .int .i64 (IntKind.i64.wrap (x6 + 1))) size_3 rfl rfl rfl h1 h2 hw7_ ?_)
  refine RL.nil ?_
  refine CW.seq ?_
  refine CW.seq ?_
  refine CW.region ?_
  refine RL.opS trivial rfl (OpW.assign (v := .int .i64 0) rfl ?_)
  refine RL.nil ?_
  refine CW.block ?_
  obtain ⟨I36, mu37, hI, hs⟩ := h
  refine CW.loop (σ := Int) (fun s8 ρ => ρ 5 = .int .i64 s8 ∧ ρ 1 = .pointer (some ⟨b1, 0, none⟩) ∧ ρ 2 = .pointer (some ⟨b3, 0, none⟩) ∧ ρ 4 = .int .i64 x5) I36 mu37 0 ⟨rfl, rfl, rfl, rfl⟩ hI ?_
  rintro s8 ρ w9 ⟨e11, e12, e13, e14⟩ hI
  have h := hs s8 w9 hI
  clear hs hI
  refine CW.seq ?_
  refine CW.seq ?_
  refine CW.region ?_
  refine RL.opS trivial rfl (OpW.move (v := .int .i64 s8) e11 ?_)
  refine RL.opS trivial rfl (OpW.fieldAddr field_49_2 e12 ?_)
  obtain ⟨x15, h1, h⟩ := h
  refine RL.opS trivial rfl (OpW.load1 (v := Sl.v x15) one_47 rfl h1 ?_)
  refine RL.opS trivial rfl (OpW.len (s := x15) slice_47 rfl ?_)
  refine RL.opS trivial rfl (OpW.bin (k := .i64) (a := s8) (b := (x15.len : Int)) (v := .bool (decide (s8 < (x15.len : Int)))) rfl rfl rfl ?_)
  refine RL.nil ?_
  obtain ⟨ha, hc⟩ := h
  refine CW.cond (b := (decide (s8 < (x15.len : Int)))) rfl (fun hb16 => ?_) (fun hb16 => ?_)
  · have h := ha hb16; clear ha hc
    refine CW.skip ?_
    refine CW.seq ?_
    refine CW.block ?_
    refine CW.seq ?_
    refine CW.region ?_
    refine RL.opS trivial rfl (OpW.fieldAddr field_49_2 e12 ?_)
    obtain ⟨x17, h1, h⟩ := h
    refine RL.opS trivial rfl (OpW.load1 (v := Sl.v x17) one_47 rfl h1 ?_)
    refine RL.opS trivial rfl (OpW.move (v := .int .i64 s8) e11 ?_)
    obtain ⟨a18_, a18, h1, h2, h3, h4, h⟩ := h
    refine RL.opS trivial rfl (OpW.indexE (a' := a18) slice_47 rfl rfl h1 h2 h3 h4 ?_)
    refine RL.opS trivial rfl (OpW.fieldAddr (off := 0) field_27_0 rfl ?_)
    obtain ⟨x20, h1, h⟩ := h
    refine RL.opS trivial rfl (OpW.load1 (v := .int .i64 x20) one_3 rfl h1 ?_)
    refine RL.opS trivial rfl (OpW.move (v := .int .i64 x5) e14 ?_)
    refine RL.opS trivial rfl (OpW.bin (k := .i64) (a := x20) (b := x5) (v := .bool (decide (x20 = x5))) rfl rfl rfl ?_)
    refine RL.nil ?_
    obtain ⟨ha, hc⟩ := h
    refine CW.cond (b := (decide (x20 = x5))) rfl (fun hb21 => ?_) (fun hb21 => ?_)
    · have h := ha hb21; clear ha hc
      refine CW.seq ?_
      obtain ⟨w22, hw22_⟩ : ∃ w_, w_ = w9.drew := ⟨_, rfl⟩
      have h := h w22 hw22_
      have hx23 : Ext w9 w22 := by rw [hw22_]; exact Ext.drew _
      refine CW.draws (m := 9) (listed := #[false, false, false, false, false, false, false, false, false]) mixed [0, 1, 2, 3, 4, 5, 8] (Ext w9) rfl rfl ?_
      rw [← hw22_]
      obtain ⟨x24, h1, h2, h⟩ := h
      refine DL.takeK (listed' := #[true, false, false, false, false, false, false, false, false]) (v := aggv x24) 0 rfl rfl (by kernel_rfl) (by kernel_rfl) rfl trivial rfl hx23 (fun w_ hS_ K_ h_ => OpW.loadA agg_49 e12 h1 (hS_.at h2) h_) ?_
      refine DL.takeP (listed' := #[true, true, false, false, false, false, false, false, false]) (v := .pointer (some (Addr.add ⟨b1, 0, none⟩ 2))) 1 rfl rfl (by kernel_rfl) rfl trivial rfl (fun w_ K_ h_ => OpW.fieldAddr field_49_2 e12 h_) ?_
      obtain ⟨x25, h1, h⟩ := h
      refine DL.takeK (listed' := #[true, true, true, false, false, false, false, false, false]) (v := Sl.v x25) 2 rfl rfl (by kernel_rfl) (by kernel_rfl) rfl trivial rfl hx23 (fun w_ hS_ K_ h_ => OpW.load1 (v := Sl.v x25) one_47 rfl (hS_.cell h1) h_) ?_
      refine DL.takeP (listed' := #[true, true, true, true, false, false, false, false, false]) (v := .int .i64 s8) 3 rfl rfl (by kernel_rfl) rfl trivial rfl (fun w_ K_ h_ => OpW.move (v := .int .i64 s8) e11 h_) ?_
      obtain ⟨a26_, a26, h1, h2, h3, h4, h⟩ := h
      refine DL.takeP (listed' := #[true, true, true, true, true, false, false, false, false]) (v := .pointer (some a26)) 4 rfl rfl (by kernel_rfl) rfl trivial rfl (fun w_ K_ h_ => OpW.indexE (a' := a26) slice_47 rfl rfl h1 h2 h3 h4 h_) ?_
      obtain ⟨x28, h1, h2, h⟩ := h
      refine DL.takeK (listed' := #[true, true, true, true, true, true, false, false, false]) (v := aggv x28) 5 rfl rfl (by kernel_rfl) (by kernel_rfl) rfl trivial rfl hx23 (fun w_ hS_ K_ h_ => OpW.loadA agg_27 rfl h1 (hS_.at h2) h_) ?_
      refine DL.execS (listed' := #[true, true, true, true, true, true, true, false, false]) 6 rfl (by kernel_rfl) rfl trivial rfl (OpW.callR (al := [aggv x24, aggv x28]) Try.func58 fb_58 fn_58 rfl h (fun x29 w30 h => ?_))
      refine ⟨(fun h_ => absurd h_ (by decide)), ?_⟩
      obtain ⟨g_, o_, e_, cur_, ha_, h1, h2, h3, h4, h⟩ := h
      obtain ⟨w31, hw31_⟩ : ∃ w_, w_ = w30.setRow g_ (cur_.toList.take o_ ++ x29 ++ cur_.toList.drop (o_ + List.length x29)).toArray := ⟨_, rfl⟩
      have h := h w31 hw31_
      refine DL.execN (listed' := #[true, true, true, true, true, true, true, true, false]) 7 rfl (by kernel_rfl) rfl trivial (OpW.storeAE (cs := x29) size_49 e13 rfl ha_ h1 h2 h3 h4 hw31_ ?_)
      refine ⟨(fun h_ => absurd h_ (by decide)), ?_⟩
      refine DL.takeP (listed' := #[true, true, true, true, true, true, true, true, true]) (v := .int .i64 6) 8 rfl rfl (by kernel_rfl) rfl trivial rfl (fun w_ K_ h_ => OpW.assign (v := .int .i64 6) rfl h_) ?_
      refine DL.done (by kernel_rfl) ?_
      refine CW.ret ?_
      obtain ⟨x32, hc1, hc2, h⟩ := h
      exact ret_intro (res2c rfl agg_49 e13 hc1 hc2 rfl) ⟨(x32, 6), rfl, h⟩
    · have h := hc hb21; clear ha hc
      refine CW.skip ?_
      refine CW.region ?_
      refine RL.opS trivial rfl (OpW.move (v := .int .i64 s8) e11 ?_)
      refine RL.opS trivial rfl (OpW.bin (k := .i64) (a := s8) (b := 1) (v := .int .i64 (IntKind.i64.wrap (s8 + 1))) rfl rfl rfl ?_)
      refine RL.opS trivial rfl (OpW.assign (v := .int .i64 (IntKind.i64.wrap (s8 + 1))) rfl ?_)
      refine RL.nil ?_
      exact ⟨(IntKind.i64.wrap (s8 + 1)), ⟨rfl, e12, e13, e14⟩, h⟩
  · have h := hc hb16; clear ha hc
    refine CW.exit ?_
    refine CW.seq ?_
    refine CW.region ?_
    obtain ⟨x33, h1, h2, h⟩ := h
    refine RL.opS trivial rfl (OpW.loadA agg_49 e12 h1 h2 ?_)
    obtain ⟨g_, o_, e_, cur_, ha_, h1, h2, h3, h4, h⟩ := h
    obtain ⟨w34, hw34_⟩ : ∃ w_, w_ = w9.setRow g_ (cur_.toList.take o_ ++ x33 ++ cur_.toList.drop (o_ + List.length x33)).toArray := ⟨_, rfl⟩
    have h := h w34 hw34_
    refine RL.opN trivial (OpW.storeAE (cs := x33) size_49 e13 rfl ha_ h1 h2 h3 h4 hw34_ ?_)
    refine RL.opS trivial rfl (OpW.assign (v := .int .i64 0) rfl ?_)
    refine RL.nil ?_
    refine CW.ret ?_
    obtain ⟨x35, hc1, hc2, h⟩ := h
    exact ret_intro (res2c rfl agg_49 e13 hc1 hc2 rfl) ⟨(x35, 0), rfl, h⟩
end Go.Proofs.Ytagkcbbbdlmcjaa
end
section
/- The typed readings of the functions, and that the program meets each: written by gen.py (a program of this session). -/
set_option linter.unusedVariables false
set_option linter.unusedSimpArgs false
namespace Go.Proofs.Ytagkcbbbdlmcjaa
open Go.Lift
set_option maxRecDepth 100000 in
set_option maxHeartbeats 4000000 in
theorem s82_calls (K : Sl → World → Prop) (p0 : Sl) (p1 : Int) (p2 : List UInt8) (w : World) (h : s82 K p0 p1 p2 w) :
    Calls Try.prog 82 #[Sl.v p0, .int .i64 p1, str p2] w (Ret r82 K) := by
  unfold s82 at h
  refine calls_of_CW (n := 16) Try.func82 rfl rfl rfl ?_
  refine CW.seq ?_
  refine CW.region ?_
  refine RL.opS trivial rfl (OpW.assign (v := Sl.v nilSl) rfl ?_)
  refine RL.nil ?_
  refine CW.seq ?_
  refine CW.region ?_
  obtain ⟨b1, hb1_⟩ : ∃ b_, b_ = w.heap.size := ⟨_, rfl⟩
  obtain ⟨w2, hw2_⟩ : ∃ w_, w_ = w.alloc (.cells (List.toArray []) 9) := ⟨_, rfl⟩
  have h := h b1 w2 hb1_ hw2_
  refine RL.opS trivial rfl (OpW.buildSliceE (vs := []) (cs := []) (by rfl) (by kernel_rfl) hb1_ hw2_ ?_)
  refine RL.opS trivial rfl (OpW.move (v := Sl.v p0) rfl ?_)
  obtain ⟨x3, w4, hr_, h⟩ := h
  refine RL.opS trivial rfl (OpW.appendL (v := Sl.v x3) rfl hr_ ?_)
  refine RL.opS trivial rfl (OpW.assign (v := Sl.v x3) rfl ?_)
  refine RL.nil ?_
  refine CW.seq ?_
  refine CW.region ?_
  refine RL.opS trivial rfl (OpW.move (v := Sl.v x3) rfl ?_)
  refine RL.opS trivial rfl (OpW.move (v := .int .i64 p1) rfl ?_)
  refine RL.opS trivial rfl (OpW.move (v := str p2) rfl ?_)
  obtain ⟨a5_, a5, h1, h2, h3, h4, h⟩ := h
  refine RL.opS trivial rfl (OpW.indexE (a' := a5) slice_45 rfl rfl h1 h2 h3 h4 ?_)
  obtain ⟨u_, h1, h2, h⟩ := h
  obtain ⟨w7, hw7_⟩ : ∃ w_, w_ = w4.setCell a5 (str p2) := ⟨_, rfl⟩
  have h := h w7 hw7_
  refine RL.opN trivial (OpW.store1E (v := str p2) size_9 rfl rfl rfl h1 h2 hw7_ ?_)
  refine RL.nil ?_
  refine CW.seq ?_
  refine CW.region ?_
  refine RL.opS trivial rfl (OpW.move (v := Sl.v x3) rfl ?_)
  refine RL.opS trivial rfl (OpW.assign (v := Sl.v x3) rfl ?_)
  refine RL.nil ?_
  refine CW.ret ?_
  exact ret_intro (res1 rfl rfl) ⟨x3, rfl, h⟩
end Go.Proofs.Ytagkcbbbdlmcjaa
end
section
/- The document's disk: what its functions answer, over the same plain disk. -/
set_option linter.unusedVariables false
set_option linter.unusedSimpArgs false
namespace Go.Proofs.Ytagkcbbbdlmcjaa
open Go.Lift Go.Lift.Disk Go.RowKit
variable {B : Nat → Prop}
theorem mkz_45 : mkCells Try.prog 45 = some (9, 1, 16, [str []]) := by kernel_rfl
abbrev txts (l : List (List UInt8)) : List Value := l.map str
theorem txts_one (l : List (List UInt8)) : ∀ u ∈ txts l, u.oneCell' = true := by
  intro u hu
  obtain ⟨x, _, rfl⟩ := List.mem_map.1 hu
  rfl
theorem txts_get {l : List (List UInt8)} {i : Nat} (hi : i < l.length) : (txts l)[i]? = some (str l[i]) := by simp [hi]
theorem txts_set (l : List (List UInt8)) (i : Nat) (b : List UInt8) : (txts l).set i (str b) = txts (l.set i b) := by simp [txts, List.map_set]
def pairC (p : Nat × List UInt8) : List Value := [.int .i64 (p.1 : Int), str p.2]
structure StrsAt (w : World) (s : Sl) (l : List (List UInt8)) : Prop where
  len : s.len = l.length
  cells : AtO w s.a (txts l)
structure PairsAt (w : World) (s : Sl) (l : List (Nat × List UInt8)) : Prop where
  len : s.len = l.length
  cells : AtO w s.a (l.flatMap pairC)
theorem StrsAt.ext {w w' : World} {s : Sl} {l : List (List UInt8)} (h : StrsAt w s l) (hx : Ext w w') : StrsAt w' s l := ⟨h.len, Ext.atO hx h.cells⟩
theorem PairsAt.ext {w w' : World} {s : Sl} {l : List (Nat × List UInt8)} (h : PairsAt w s l) (hx : Ext w w') : PairsAt w' s l := ⟨h.len, Ext.atO hx h.cells⟩
theorem StrsAt.get {w : World} {s : Sl} {l : List (List UInt8)} (h : StrsAt w s l) {i : Nat} (hi : i < l.length) : ∃ a, s.a = some a ∧ w.cell? (a.add i) = some (str l[i]) := h.cells.some_of (txts_get hi)
theorem PairsAt.get {w : World} {s : Sl} {l : List (Nat × List UInt8)} (h : PairsAt w s l) {k : Nat} (hk : k < l.length) : ∃ a, s.a = some a ∧ At w (a.add (k * 2)) (pairC l[k]) := by
  have e := flatMap_at pairC (n := 2) (fun _ => rfl) l k hk
  have hl : k * 2 < (l.flatMap pairC).length := by rw [flatMap_len pairC (n := 2) (fun _ => rfl)]; omega
  obtain ⟨a, ha, _⟩ := h.cells.some_of (List.getElem?_eq_getElem hl)
  have hc := h.cells
  rw [ha] at hc
  exact ⟨a, ha, by rw [← e]; exact At.sub hc _ _⟩
/-- where its cells lie, if it has any -/
def Far (B : Nat → Prop) (s : Sl) : Prop := s.len ≠ 0 → ∀ a, s.a = some a → B a.block
theorem Far.nil : Far B nilSl := fun h => absurd rfl h
/-- the document's disk in a struct's cells -/
structure RX (w : World) (B : Nat → Prop) (ss sp sf : Sl) (D : Dk) : Prop where
  sure : StrsAt w ss (D.bl.map (·.2))
  pend : PairsAt w sp D.pend
  falls : FallsAt w sf D.falls
  f1 : Far B ss
  f2 : Far B sp
  f3 : Far B sf
abbrev rc (ss sp sf : Sl) (c : Int) (d : Bool) : List Value := [ss.v, sp.v, sf.v, .int .i64 c, .bool d]
def RAt (w : World) (B : Nat → Prop) (cs : List Value) (D : Dk) : Prop := ∃ ss sp sf, cs = rc ss sp sf D.changes D.down ∧ RX w B ss sp sf D
theorem RX.ext {w w' : World} {ss sp sf : Sl} {D : Dk} (h : RX w B ss sp sf D) (hx : Ext w w') : RX w' B ss sp sf D := ⟨h.sure.ext hx, h.pend.ext hx, h.falls.ext hx, h.f1, h.f2, h.f3⟩
theorem RAt.ext {w w' : World} {cs : List Value} {D : Dk} (h : RAt w B cs D) (hx : Ext w w') : RAt w' B cs D := by
  obtain ⟨ss, sp, sf, h1, h2⟩ := h
  exact ⟨ss, sp, sf, h1, h2.ext hx⟩
theorem rc_one (ss sp sf : Sl) (c : Int) (d : Bool) : ∀ v ∈ rc ss sp sf c d, v.oneCell' = true := by
  intro v hv
  simp only [rc, List.mem_cons, List.not_mem_nil, or_false] at hv
  rcases hv with rfl | rfl | rfl | rfl | rfl <;> rfl
theorem RAt.len {w : World} {cs : List Value} {D : Dk} (h : RAt w B cs D) : cs.length = 5 := by obtain ⟨_, _, _, rfl, _⟩ := h; rfl
theorem RAt.one {w : World} {cs : List Value} {D : Dk} (h : RAt w B cs D) : ∀ v ∈ cs, v.oneCell' = true := by obtain ⟨_, _, _, rfl, _⟩ := h; exact rc_one _ _ _ _ _

theorem with_ok (w : World) (s : Sl) (l : List (List UInt8)) (h : StrsAt w s l) (i : Nat) (hi : i < l.length) (hl : l.length ≤ 1000000) (t : List UInt8) :
    Calls Try.prog 82 #[s.v, .int .i64 (i : Int), str t] w (Ret r82 fun x w' => StrsAt w' x (l.set i t) ∧ Ext w w' ∧ ∀ a, x.a = some a → w.heap.size ≤ a.block) := by
  apply s82_calls
  intro b1 w2 hb1 hw2
  have hx2 : Ext w w2 := Ext.new hw2
  have hsl := h.len
  refine app_ok (base := w.heap.size) mkz_45 rfl (by decide) (Own.made (e := 9) (size := 1) (c := 0) hb1 hw2 (Nat.le_refl _) rfl (by simp [maxLen])) (news := txts l)
    (by simp [hsl]) (Ext.atO hx2 h.cells) (txts_one l) (by simp only [maxLen]; omega) (by simp only; omega) hx2.size ?_
  intro s' w4 hl' ho' _ hB'
  have hx4 : Ext w w4 := hB' _ _ hx2 (Nat.le_refl _) hx2.size
  have hl4 : s'.len = l.length := by rw [hl']; simp [hsl]
  rw [List.nil_append] at ho'
  refine ix_own ho' (by decide) rfl (by omega) fun g hg hbg hgs => ?_
  rw [Nat.mul_one]
  refine st1_own ho' hg (by omega) fun w7 hw7 ho7 hB7 => ?_
  rw [txts_set] at ho7
  refine ⟨⟨by rw [hl4]; simp, ho7.at⟩, hB7 _ _ hx4 (Nat.le_refl _), fun a ha => ?_⟩
  rw [hg] at ha
  cases ha
  exact hbg
theorem why_ok (w : World) (cs : List Value) (D : Dk) (h : RAt w B cs D) (i : Int) : Calls Try.prog 66 #[aggv cs, .int .i64 i] w (Ret r66 fun x w' => x = D.why i ∧ Ext w w') := by
  obtain ⟨ss, sp, sf, rfl, h⟩ := h
  apply s66_calls
  intro b1 w2 hb1 hw2
  have hx2 : Ext w w2 := Ext.new hw2
  have hB : Blk w2 b1 49 (rc ss sp sf D.changes D.down) := Blk.new hb1 hw2
  refine ⟨D.down, by rw [add_plain]; exact hB.cell rfl, ?_⟩
  unfold Dk.why
  refine ⟨fun hd => ?_, fun hd => ?_⟩
  · rw [if_pos hd]; exact ⟨rfl, hx2⟩
  rw [if_neg (by rw [hd]; simp)]
  have hsl := h.sure.len
  rw [List.length_map] at hsl
  refine jn_of fun k hk => ?_
  have key : ∀ b : Bool, (b = true ↔ (i < 0 ∨ (D.bl.length : Int) ≤ i)) → k b w2 := by
    intro b hb
    rw [hk]
    refine ⟨fun ht => ?_, fun hf => ?_⟩
    · rw [if_pos (hb.1 ht)]; exact ⟨rfl, hx2⟩
    · rw [if_neg fun h => by rw [hb.2 h] at hf; cases hf]; exact ⟨rfl, hx2⟩
  refine ⟨fun h0 => key _ ?_, fun h0 => ?_⟩
  · have := of_decide_eq_true h0; simp [this]
  · have h0 := of_decide_eq_false h0
    refine ⟨ss, by rw [add_plain]; exact hB.cell rfl, key _ ?_⟩
    simp only [decide_eq_true_eq]
    omega
theorem now_ok (w : World) (cs : List Value) (D : Dk) (h : RAt w B cs D) (hpl : D.pend.length ≤ 1000000) (i : Nat) (hi : i < D.bl.length) :
    Calls Try.prog 29 #[aggv cs, .int .i64 (i : Int)] w (Ret r29 fun x w' => x = lastOf D.pend i (bAt D.bl i).2 ∧ Ext w w') := by
  obtain ⟨ss, sp, sf, rfl, h⟩ := h
  apply s29_calls
  intro b1 w2 hb1 hw2
  have hx2 : Ext w w2 := Ext.new hw2
  have hB : Blk w2 b1 49 (rc ss sp sf D.changes D.down) := Blk.new hb1 hw2
  have h2 := h.ext hx2
  have hsl := h.sure.len
  rw [List.length_map] at hsl
  have hpl2 := h.pend.len
  obtain ⟨a, ha, hc⟩ := h2.sure.get (i := i) (by rw [List.length_map]; exact hi)
  refine ⟨ss, by rw [add_plain]; exact hB.cell rfl, a, _, ha, by omega, by omega, rfl, ?_⟩
  rw [Int.toNat_natCast, Nat.mul_one]
  refine ⟨_, hc, ?_⟩
  refine ⟨fun st w' => w2 = w' ∧ ∃ k : Nat, k ≤ D.pend.length ∧ st.2 = (k : Int) ∧ st.1 = lastOf (D.pend.take k) i (bAt D.bl i).2, fun st _ => D.pend.length - st.2.toNat, ⟨rfl, 0, Nat.zero_le _, rfl, ?_⟩, ?_⟩
  · rw [List.take_zero, List.getElem_map, bAt_lt hi]; rfl
  rintro ⟨acc, st⟩ w8 ⟨rfl, k, hk, rfl, rfl⟩
  refine ⟨sp, by rw [add_plain]; exact hB.cell rfl, ?_⟩
  refine ⟨fun hlt => ?_, fun hge => ?_⟩
  · have hkp : k < D.pend.length := by have := of_decide_eq_true hlt; simp only at this; omega
    obtain ⟨a2, ha2, hat⟩ := h2.pend.get hkp
    refine jn_of fun k1 hk1 => ?_
    have hnext : lastOf (D.pend.take (k + 1)) i (bAt D.bl i).2 = if D.pend[k].1 = i then D.pend[k].2 else lastOf (D.pend.take k) i (bAt D.bl i).2 := by
      rw [List.take_succ_eq_append_getElem hkp, lastOf_append]
    have next : ∀ x, x = lastOf (D.pend.take (k + 1)) i (bAt D.bl i).2 → k1 x w2 := by
      intro x hx
      rw [hk1]
      simp only
      rw [w64_eq (by omega) (by omega)]
      exact ⟨⟨trivial, k + 1, by omega, by omega, hx⟩, by omega⟩
    refine ⟨sp, by rw [add_plain]; exact hB.cell rfl, a2, _, ha2, by simp only; omega, by simp only; omega, rfl, ?_⟩
    simp only [Int.toNat_natCast]
    have hc0 := hat 0 _ rfl
    have hc1 := hat 1 _ rfl
    refine ⟨(D.pend[k].1 : Int), hc0, ?_⟩
    refine ⟨fun he => ?_, fun he => ?_⟩
    · have he := of_decide_eq_true he
      refine ⟨sp, by rw [add_plain]; exact hB.cell rfl, a2, _, ha2, by omega, by omega, rfl, ?_⟩
      simp only [Int.toNat_natCast]
      refine ⟨D.pend[k].2, hc1, next _ ?_⟩
      rw [hnext, if_pos (by omega)]
    · have he := of_decide_eq_false he
      refine next _ ?_
      rw [hnext, if_neg (by omega)]
  · have hge : k = D.pend.length := by have := of_decide_eq_false hge; simp only at this; omega
    subst hge
    rw [List.take_length]
    exact ⟨rfl, hx2⟩
theorem rnew_ok (w : World) (hB : ∀ k, w.heap.size ≤ k → B k) (n : Nat) (hn : n ≤ 4096) : Calls Try.prog 24 #[.int .i64 (n : Int)] w (Ret r24 fun x w' => RAt w' B x (fresh n) ∧ Ext w w') := by
  apply s24_calls
  intro b1 w2 hb1 hw2
  have hx2 : Ext w w2 := Ext.new hw2
  have hB2 : Blk w2 b1 49 (rc nilSl nilSl nilSl 0 false) := Blk.new hb1 hw2
  refine ⟨by decide, by decide, by decide, by decide, fun b4 w4 hb4 hw4 => ?_⟩
  have hx4 : Ext w2 w4 := Ext.new hw4
  have hz : Bytes w4 ⟨some ⟨b4, 0, none⟩, Int.toNat 512, Int.toNat 512⟩ zero512 := by
    refine ⟨List.length_replicate .., ?_⟩
    rw [zeros_u8'] at hw4
    exact At.new hb4 hw4
  refine ⟨_, hz.1, hz.2, ?_⟩
  refine ⟨fun st w' => ∃ k : Nat, k ≤ n ∧ st.2 = (k : Int) ∧ Own w' w4.heap.size 9 1 st.1 (txts (List.replicate k zero512)) ∧ Ext w4 w', fun st _ => n - st.2.toNat, ⟨0, Nat.zero_le _, rfl, Own.nil _ _ _ _, Ext.refl _⟩, ?_⟩
  rintro ⟨s, st⟩ w8 ⟨k, hk, rfl, ho, hx8⟩
  refine ⟨fun hlt => ?_, fun hge => ?_⟩
  · have hkn : k < n := by have := of_decide_eq_true hlt; simp only at this; omega
    intro b16 w17 hb16 hw17
    have hx17 : Ext w8 w17 := Ext.new hw17
    have hol := ho.length
    simp only [List.length_map, List.length_replicate] at hol
    refine app_ok (base := w4.heap.size) mkz_45 rfl (by decide) (ho.ext hx17) (news := txts [zero512]) rfl (At.new hb16 hw17) (txts_one _) (by simp only [maxLen]; omega) (by simp only; omega) (hx8.trans hx17).size ?_
    intro s' w' hl' ho' _ hB'
    simp only
    rw [w64_eq (by omega) (by omega)]
    refine ⟨⟨k + 1, by omega, by omega, ?_, hB' _ _ (hx8.trans hx17) (Nat.le_refl _) (hx8.trans hx17).size⟩, by omega⟩
    rw [List.replicate_succ', txts, List.map_append]
    exact ho'
  · have hge : k = n := by have := of_decide_eq_false hge; simp only at this; omega
    subst hge
    have hB8 := (hB2.ext hx4).ext hx8
    refine stA_blk hB8 rfl (by simp) (by intro v hv; exact rc_one s nilSl nilSl 0 false v hv) fun w20 hB20 hf20 => ?_
    have hx20 : Ext w w20 := hf20.ext ((hx2.trans hx4).trans hx8) fun k _ e => by rw [e, hb1]; exact Nat.le_refl _
    have hsp : splice (rc nilSl nilSl nilSl 0 false) 0 [s.v, Value.slice none 0 0, Value.slice none 0 0, Value.int .i64 0, Value.bool false] = rc s nilSl nilSl 0 false := rfl
    have hB20 : Blk w20 b1 49 (rc s nilSl nilSl 0 false) := hB20
    refine ⟨rc s nilSl nilSl 0 false, rfl, hB20.at rfl, ?_⟩
    have hol := ho.length
    simp only [List.length_map, List.length_replicate] at hol
    have hge4 : ∀ b, s.a = some b → w4.heap.size ≤ b.block := by
      intro b hb
      obtain ⟨sa, l, c⟩ := s
      simp only at hb
      subst hb
      rcases ho.2 with ⟨h1, h2⟩ | ⟨g, cap, cur, h1, h3, _⟩
      · simp at h1
      · simp only [Value.slice.injEq, Option.some.injEq] at h1
        obtain ⟨rfl, _, _⟩ := h1
        exact h3
    have hb1l : b1 < w4.heap.size := Nat.lt_of_lt_of_le (Blk.lt hB2) hx4.size
    refine ⟨⟨s, nilSl, nilSl, rfl, ⟨⟨by simp [fresh]; omega, ?_⟩, ⟨rfl, rfl⟩, ⟨rfl, Nat.le_refl _, rfl, fun _ => rfl, by simp [fresh]⟩, fun _ b hb => hB _ (Nat.le_trans (hx2.trans hx4).size (hge4 b hb)), Far.nil, Far.nil⟩⟩, hx20⟩
    have hat := (hf20.own (fun b hb e => by
      have hge : w4.heap.size ≤ b.block := by
        obtain ⟨sa, l, c⟩ := s
        simp only at hb
        subst hb
        rcases ho.2 with ⟨h1, h2⟩ | ⟨g, cap, cur, h1, h3, _⟩
        · simp at h1
        · simp only [Value.slice.injEq, Option.some.injEq] at h1
          obtain ⟨rfl, _, _⟩ := h1
          exact h3
      have e : b.block = b1 := e
      omega) ho).at
    have : (fresh k).bl.map (·.2) = List.replicate k zero512 := by simp [fresh]
    rw [this]
    exact hat
end Go.Proofs.Ytagkcbbbdlmcjaa
end
section
/- The document's disk: a loss of power, a change, a flush, a write. -/
set_option linter.unusedVariables false
set_option linter.unusedSimpArgs false
namespace Go.Proofs.Ytagkcbbbdlmcjaa
open Go.Lift Go.Lift.Disk Go.RowKit
variable {B : Nat → Prop}
theorem sures_set (l : List Bl) (i : Nat) (b : List UInt8) : (setSure l i b).map (·.2) = (l.map (·.2)).set i b := by
  unfold setSure
  rw [List.map_set]
theorem bAt_sure {l : List Bl} {i : Nat} (hi : i < l.length) : (l.map (·.2))[i]'(by simpa using hi) = (bAt l i).2 := by
  rw [List.getElem_map, bAt_lt hi]
theorem set_same {l : List (List UInt8)} {i : Nat} (hi : i < l.length) : l.set i l[i] = l := List.set_getElem_self hi
/-- the step of a loss of power, over what surely is -/
def cut3 (f : Fall) (last : Int) (k : Nat) : Nat := if k < 64 ∧ f.2.1.toNat.testBit k = true then 512 else if (k : Int) = last then torn f else 0
theorem step_sure {f : Fall} {last : Int} {l : List Bl} {k : Nat} {p : Nat × List UInt8} (hi : p.1 < l.length) (hp : p.2.length = 512) (hb : (bAt l p.1).2.length = 512) :
    (crashStep f last l k p).map (·.2) = (l.map (·.2)).set p.1 (p.2.take (cut3 f last k) ++ (bAt l p.1).2.drop (cut3 f last k)) := by
  unfold crashStep cut3
  split
  · rw [sures_set, List.take_of_length_le (by omega), List.drop_of_length_le (by omega), List.append_nil]
  · split
    · rw [sures_set]
    · have hs : p.1 < (l.map (·.2)).length := by simpa using hi
      rw [List.take_zero, List.drop_zero, List.nil_append, ← bAt_sure hi, List.set_getElem_self hs]
theorem halve_bit {x : Nat} (k : Nat) (hx : x < 18446744073709551616) : (Int.tmod ((x / 2 ^ k : Nat) : Int) 2 = 1) ↔ (k < 64 ∧ x.testBit k = true) := by
  have hnn : (0 : Int) ≤ ((x / 2 ^ k : Nat) : Int) := Int.natCast_nonneg _
  rw [Int.tmod_eq_emod_of_nonneg hnn, Nat.testBit_eq_decide_div_mod_eq, decide_eq_true_iff]
  constructor
  · intro h
    refine ⟨?_, by generalize x / 2 ^ k = m at h ⊢; omega⟩
    rcases Nat.lt_or_ge k 64 with h' | h'
    · exact h'
    · have : x / 2 ^ k = 0 := Nat.div_eq_of_lt (Nat.lt_of_lt_of_le hx (Nat.pow_le_pow_right (by decide : 0 < 2) h'))
      rw [this] at h
      cases h
  · rintro ⟨_, h⟩
    generalize x / 2 ^ k = m at h ⊢
    omega
theorem halve (x k : Nat) : IntKind.u64.wrap (Int.tdiv ((x / 2 ^ k : Nat) : Int) 2) = (((x % 18446744073709551616) / 2 ^ (k + 1) : Nat) : Int) ∨ 18446744073709551616 ≤ x := by
  rcases Nat.lt_or_ge x 18446744073709551616 with h | h
  · left
    have h1 : x / 2 ^ k ≤ x := Nat.div_le_self _ _
    have e : x / 2 ^ (k + 1) = x / 2 ^ k / 2 := by rw [Nat.pow_succ, Nat.div_div_eq_div_mul]
    rw [Nat.mod_eq_of_lt h, e]
    generalize x / 2 ^ k = m at h1 ⊢
    rw [Int.tdiv_eq_ediv_of_nonneg (by omega), wu64_eq (by omega) (by omega)]
    omega
  · exact .inr h
theorem rcrash_ok (w : World) (cs : List Value) (D : Dk) (h : RAt w B cs D) (hwf : D.Wf) (hBn : ∀ k, w.heap.size ≤ k → B k) (f : Fall) (hf : 0 ≤ f.2.1 ∧ f.2.1 < 18446744073709551616) :
    Calls Try.prog 58 #[aggv cs, aggv (fallOf f)] w (Ret r58 fun x w' => RAt w' B x (D.crash f) ∧ Ext w w') := by
  obtain ⟨ss, sp, sf, rfl, h⟩ := h
  apply s58_calls
  intro b1 w2 hb1 hw2
  have hx2 : Ext w w2 := Ext.new hw2
  have hB2 : Blk w2 b1 49 (rc ss sp sf D.changes D.down) := Blk.new hb1 hw2
  intro b3 w4 hb3 hw4
  have hx4 : Ext w2 w4 := Ext.new hw4
  have hF4 : Blk w4 b3 27 (fallOf f) := Blk.new hb3 hw4
  intro b5 w6 hb5 hw6
  have hx6 : Ext w4 w6 := Ext.new hw6
  have hR6 : Blk w6 b5 49 (rc nilSl nilSl nilSl 0 false) := Blk.new hb5 hw6
  have hB6 := (hB2.ext hx4).ext hx6
  have hF6 := hF4.ext hx6
  have hxw6 := (hx2.trans hx4).trans hx6
  have h13 : b1 < b3 := by rw [hb3]; exact hB2.lt
  have h35 : b3 < b5 := by rw [hb5]; exact hF4.lt
  have hwb1 : w.heap.size ≤ b1 := by rw [hb1]; exact Nat.le_refl _
  have h6 := h.ext hxw6
  refine ⟨D.down, by rw [add_plain]; exact hB6.cell rfl, ?_⟩
  -- the answer is put into its place
  have fin : ∀ (w' : World) (ss' sp' sf' : Sl) (c : Int) (d : Bool), Blk w' b5 49 (rc nilSl nilSl nilSl 0 false) → Ext w w' → ∀ K : World → Prop, (∀ w'', Blk w'' b5 49 (rc ss' sp' sf' c d) → Ext w w'' → Fr (· = b5) w' w'' → K w'') → stA 5 ⟨b5, 0, none⟩ (rc ss' sp' sf' c d) w' K := by
    intro w' ss' sp' sf' c d hB hx K hK
    refine stA_blk hB rfl (by simp) (rc_one _ _ _ _ _) fun w'' hB'' hf'' => hK w'' hB'' (hf''.ext hx fun k _ e => by rw [e]; omega) hf''
  refine ⟨fun hd => ?_, fun hd => ?_⟩
  · refine ⟨rc ss sp sf D.changes D.down, rfl, hB6.at rfl, ?_⟩
    refine fin w6 _ _ _ _ _ hR6 hxw6 _ fun w10 hB10 hx10 _ => ?_
    refine ⟨rc ss sp sf D.changes D.down, rfl, hB10.at rfl, ?_⟩
    have : D.crash f = D := by unfold Dk.crash; rw [if_pos hd]
    rw [this]
    exact ⟨⟨ss, sp, sf, rfl, h.ext hx10⟩, hx10⟩
  obtain ⟨kp, hkp⟩ := Int.eq_ofNat_of_zero_le hf.1
  have hkp2 : kp < 18446744073709551616 := by omega
  refine ⟨f.2.1, by rw [add_plain]; exact hF6.cell rfl, ?_⟩
  have hss : ∀ a, ss.a = some a → a.block ≠ b1 ∧ a.block ≠ b5 := by
    intro a ha
    obtain ⟨a', ha', hc⟩ := h.sure.get (i := 0) (by rw [List.length_map]; exact hwf.pos)
    rw [ha] at ha'
    cases ha'
    have := World.block_lt_of_cell? w _ hc
    rw [add_block] at this
    omega
  have hpl := h.pend.len
  have hple := hwf.plen
  refine ⟨fun st w' => ∃ (k : Nat) (l : List Bl) (s' : Sl), k ≤ D.pend.length ∧ st.2 = (k : Int) ∧ st.1 = ((kp / 2 ^ k : Nat) : Int) ∧ Blk w' b1 49 (rc s' sp sf D.changes D.down) ∧ Blk w' b3 27 (fallOf f) ∧ Blk w' b5 49 (rc nilSl nilSl nilSl 0 false) ∧
      StrsAt w' s' (l.map (·.2)) ∧ (∀ a, s'.a = some a → a.block ≠ b1 ∧ a.block ≠ b5) ∧ Far B s' ∧ Ext w w' ∧ l.length = D.bl.length ∧ WfB l ∧ crashL f ((D.pend.length : Int) - 1) k (D.pend.drop k) l = crashL f ((D.pend.length : Int) - 1) 0 D.pend D.bl,
    fun st _ => D.pend.length - st.2.toNat, ⟨0, D.bl, ss, Nat.zero_le _, rfl, by rw [hkp]; simp, hB6, hF6, hR6, h6.sure, hss, h.f1, hxw6, rfl, hwf.bl, rfl⟩, ?_⟩
  rintro ⟨kk, st⟩ w14 ⟨k, l, s', hk, rfl, rfl, hB, hF, hR, hS, hfar, hFs, hx, hll, hwl, hcr⟩
  have hpe := h.pend.ext hx
  refine ⟨sp, by rw [add_plain]; exact hB.cell rfl, ?_⟩
  refine ⟨fun hlt => ?_, fun hge => ?_⟩
  · have hkl : k < D.pend.length := by have := of_decide_eq_true hlt; simp only at this; omega
    obtain ⟨hpi, hp512⟩ := hwf.pend _ (List.getElem_mem hkl)
    have hpi' : D.pend[k].1 < l.length := by rw [hll]; exact hpi
    have hb512 := (bAt_len hwl hpi').2
    obtain ⟨a, ha, hat⟩ := hpe.get hkl
    refine ⟨sp, by rw [add_plain]; exact hB.cell rfl, a, _, ha, by simp only; omega, by simp only; omega, rfl, ?_⟩
    simp only [Int.toNat_natCast]
    refine ⟨pairC D.pend[k], rfl, hat, rfl, ?_, fun b27 w28 hb27 hw28 => ?_⟩
    · intro v hv
      simp only [pairC, List.mem_cons, List.not_mem_nil, or_false] at hv
      rcases hv with rfl | rfl <;> rfl
    have hx28 : Ext w14 w28 := Ext.new hw28
    have hP : Blk w28 b27 114 (pairC D.pend[k]) := Blk.new hb27 hw28
    have hB28 := hB.ext hx28
    refine jn_of fun k1 hk1 => ?_
    have next : ∀ n : Int, n = (cut3 f ((D.pend.length : Int) - 1) k : Int) → k1 n w28 := by
      intro n hn
      subst hn
      have hc512 : cut3 f ((D.pend.length : Int) - 1) k ≤ 512 := by
        unfold cut3
        have := (torn_eq f).2
        split
        · omega
        · split <;> omega
      generalize hcu : cut3 f ((D.pend.length : Int) - 1) k = n at hc512
      rw [hk1]
      intro w43 hw43
      have hx43 : Ext w28 w43 := by subst hw43; exact Ext.drew _
      have hS28 := hS.ext hx28
      have hsl := hS.len
      rw [List.length_map] at hsl
      obtain ⟨a2, ha2, hc2⟩ := hS28.get (i := D.pend[k].1) (by rw [List.length_map]; exact hpi')
      rw [bAt_sure hpi'] at hc2
      refine ⟨s', by rw [add_plain]; exact hB28.cell rfl, (D.pend[k].1 : Int), by rw [add_plain]; exact hP.cell rfl, D.pend[k].2, by rw [add_plain]; exact hP.cell rfl, ⟨by omega, by omega, by rw [hp512]; omega⟩, ?_⟩
      refine ⟨s', by rw [add_plain]; exact hB28.cell rfl, (D.pend[k].1 : Int), by rw [add_plain]; exact hP.cell rfl, a2, _, ha2, by omega, by omega, rfl, ?_⟩
      simp only [Int.toNat_natCast, Nat.mul_one]
      refine ⟨(bAt l D.pend[k].1).2, hc2, ⟨by omega, by rw [hb512]; omega, by omega⟩, ?_, ?_⟩
      · simp only [Int.toNat_zero, List.drop_zero, List.length_take, List.length_drop, hp512, hb512]; omega
      have earg : ((D.pend[k].2.take n).drop (Int.toNat 0) ++ ((bAt l D.pend[k].1).2.take (bAt l D.pend[k].1).2.length).drop n) = D.pend[k].2.take n ++ (bAt l D.pend[k].1).2.drop n := by
        rw [List.take_length]; rfl
      rw [earg]
      have hfew := hwf.few
      refine cR_of (with_ok w43 s' _ (hS28.ext hx43) D.pend[k].1 (by rw [List.length_map]; exact hpi') (by rw [List.length_map]; omega) _) ?_
      rintro x53 w54 ⟨hS54, hx54, hg54⟩
      have hxx := hx43.trans hx54
      rw [add_plain]
      refine st1_blk (hB28.ext hxx) (by simp) fun w55 hB55 hf55 => ?_
      have hx55 : Ext w w55 := hf55.ext ((hx.trans hx28).trans hxx) fun k _ e => by rw [e]; exact hwb1
      have hhalf : IntKind.u64.wrap (Int.tdiv ((kp / 2 ^ k : Nat) : Int) 2) = ((kp / 2 ^ (k + 1) : Nat) : Int) := by
        rcases halve kp k with h | h
        · rw [Nat.mod_eq_of_lt hkp2] at h; exact h
        · omega
      rw [w64_eq (by omega) (by omega), hhalf]
      have hst := step_sure (f := f) (last := (D.pend.length : Int) - 1) (k := k) hpi' hp512 hb512
      rw [hcu] at hst
      have hb5w : b5 < w43.heap.size := Nat.lt_of_lt_of_le (hR.ext hx28).lt hx43.size
      refine ⟨⟨k + 1, crashStep f ((D.pend.length : Int) - 1) l k D.pend[k], x53, by omega, by omega, rfl, hB55, (((hF.ext hx28).ext hxx).fr hf55 (by omega)), (((hR.ext hx28).ext hxx).fr hf55 (by omega)), ?_, (fun a ha => by have := hg54 a ha; omega), (fun _ a ha => hBn _ (Nat.le_trans (Nat.le_trans (hx.trans hx28).size hx43.size) (hg54 a ha))), hx55, by rw [crashStep_len, hll], ?_, ?_⟩, by omega⟩
      · rw [hst]
        refine ⟨hS54.len, hf55.atO (fun a ha e => ?_) hS54.cells⟩
        have := hg54 a ha
        have e : a.block = b1 := e
        omega
      · unfold crashStep
        split
        · exact setSure_wf hwl hpi' hp512
        · split
          · exact setSure_wf hwl hpi' (by have := (torn_eq f).2; rw [List.length_append, List.length_take, List.length_drop, hp512, hb512]; omega)
          · exact hwl
      · rw [← hcr, List.drop_eq_getElem_cons hkl, crashL]
    have hbit := halve_bit k hkp2
    have ef : f.2.1.toNat = kp := by rw [hkp]; rfl
    refine ⟨fun ho => ?_, fun ho => ?_⟩
    · have ho := hbit.1 (of_decide_eq_true ho)
      refine next 512 ?_
      unfold cut3
      rw [if_pos (by rw [ef]; exact ho)]
      rfl
    · have ho := of_decide_eq_false ho
      have hno : ¬ (k < 64 ∧ f.2.1.toNat.testBit k = true) := by rw [ef]; exact fun h => ho (hbit.2 h)
      refine ⟨sp, by rw [add_plain]; exact hB28.cell rfl, ?_⟩
      have el : IntKind.i64.wrap ((sp.len : Int) - 1) = (D.pend.length : Int) - 1 := by rw [hpl, w64_eq (by omega) (by omega)]
      show ifB _ _ _
      rw [el]
      refine ⟨fun hla => ?_, fun hla => ?_⟩
      · have hla := of_decide_eq_true hla
        refine ⟨f.2.2, by rw [add_plain]; exact (hF.ext hx28).cell rfl, next _ ?_⟩
        unfold cut3
        rw [if_neg hno, if_pos hla]
        exact (torn_eq f).1
      · have hla := of_decide_eq_false hla
        refine next 0 ?_
        unfold cut3
        rw [if_neg hno, if_neg hla]
        rfl
  · have hge : k = D.pend.length := by have := of_decide_eq_false hge; simp only at this; omega
    subst hge
    rw [List.drop_length, crashL] at hcr
    refine ⟨s', by rw [add_plain]; exact hB.cell rfl, sf, by rw [add_plain]; exact hB.cell rfl, (D.changes : Int), by rw [add_plain]; exact hB.cell rfl, ?_⟩
    refine fin w14 s' nilSl sf D.changes true hR hx _ fun w61 hB61 hx61 hf61 => ?_
    refine ⟨rc s' nilSl sf D.changes true, rfl, hB61.at rfl, ?_⟩
    have ec := crash_up hd f
    rw [← hcr] at ec
    refine ⟨⟨s', nilSl, sf, by rw [ec], ?_⟩, hx61⟩
    rw [ec]
    refine ⟨?_, ⟨rfl, rfl⟩, h.falls.ext hx61, hFs, Far.nil, h.f3⟩
    have e2 : ((l.map fun p : Bl => (p.2, p.2)).map (·.2)) = l.map (·.2) := by rw [List.map_map]; rfl
    show StrsAt w61 s' ((l.map fun p : Bl => (p.2, p.2)).map (·.2))
    rw [e2]
    exact ⟨hS.len, hf61.atO (fun a ha e => (hfar a ha).2 e) hS.cells⟩
end Go.Proofs.Ytagkcbbbdlmcjaa
end
section
/- The document's disk: a change, a flush, a write. -/
set_option linter.unusedVariables false
set_option linter.unusedSimpArgs false
namespace Go.Proofs.Ytagkcbbbdlmcjaa
open Go.Lift Go.Lift.Disk Go.RowKit
variable {B : Nat → Prop}
theorem blk_mem {w : World} {g : Nat} {e : TypeId} {cs : List Value} {a : Addr} {v : Value} (hB : Blk w g e cs) (hc : w.cell? a = some v) (hb : a.block = g) : v ∈ cs := by
  have hB' : w.heap[g]? = some (.cells cs.toArray e (0, 0)) := hB
  unfold World.cell? at hc
  rw [hb, hB'] at hc
  simp only at hc
  split at hc
  · cases hc
  · exact List.mem_of_getElem? (by simpa using hc)
section
variable {w w' : World} {g : Nat} {e : TypeId} {s1 s2 s3 : Sl} {c : Int} {d : Bool}
theorem StrsAt.fr {s : Sl} {l : List (List UInt8)} (h : StrsAt w s l) (hB : Blk w g e (rc s1 s2 s3 c d)) (hf : Fr (· = g) w w') : StrsAt w' s l := by
  refine ⟨h.len, ?_⟩
  by_cases hl : 0 < l.length
  · refine hf.atO (fun a ha e => ?_) h.cells
    obtain ⟨a', ha', hc⟩ := h.get hl
    rw [ha] at ha'
    cases ha'
    have := blk_mem hB hc (by rw [add_block]; exact e)
    simp [rc] at this
  · have : l = [] := List.eq_nil_of_length_eq_zero (by omega)
    subst this
    have h0 := h.cells
    cases hs : s.a with
    | none => rfl
    | some a => exact fun j v hj => by simp at hj
theorem PairsAt.fr {s : Sl} {l : List (Nat × List UInt8)} (h : PairsAt w s l) (hB : Blk w g e (rc s1 s2 s3 c d)) (hf : Fr (· = g) w w') : PairsAt w' s l := by
  refine ⟨h.len, ?_⟩
  by_cases hl : 0 < l.length
  · refine hf.atO (fun a ha e => ?_) h.cells
    obtain ⟨a', ha', hc⟩ := h.get hl
    rw [ha] at ha'
    cases ha'
    have h1 := hc 1 _ rfl
    have := blk_mem hB h1 (by rw [add_block, add_block]; exact e)
    simp [rc] at this
  · have : l = [] := List.eq_nil_of_length_eq_zero (by omega)
    subst this
    cases hs : s.a with
    | none => rfl
    | some a => exact fun j v hj => by simp at hj
theorem FallsAt.fr {s : Sl} {l : List Fall} (h : FallsAt w s l) (hB : Blk w g e (rc s1 s2 s3 c d)) (hf : Fr (· = g) w w') : FallsAt w' s l := by
  refine ⟨h.len, h.cap, ?_, h.nil, h.keep⟩
  by_cases hl : 0 < l.length
  · refine hf.atO (fun a ha e => ?_) h.cells
    have hc := h.cells
    rw [ha] at hc
    have h0 := fallC_at (l := l) (k := 0) hl
    have hg : (fallC l)[1]? = some (.int .u64 l[0].2.1) := by
      have := congrArg (fun x : List Value => x[1]?) h0
      simp only [Nat.zero_mul, List.drop_zero] at this
      rw [List.getElem?_take_of_lt (by decide)] at this
      exact this
    have := blk_mem hB (hc 1 _ hg) (by rw [add_block]; exact e)
    simp [rc] at this
  · have : l = [] := List.eq_nil_of_length_eq_zero (by omega)
    subst this
    cases hs : s.a with
    | none => rfl
    | some a => exact fun j v hj => by simp [fallC] at hj
theorem RX.fr {ss sp sf : Sl} {D : Dk} (h : RX w B ss sp sf D) (hB : Blk w g e (rc s1 s2 s3 c d)) (hf : Fr (· = g) w w') : RX w' B ss sp sf D := ⟨h.sure.fr hB hf, h.pend.fr hB hf, h.falls.fr hB hf, h.f1, h.f2, h.f3⟩
theorem RAt.fr {cs : List Value} {D : Dk} (h : RAt w B cs D) (hB : Blk w g e (rc s1 s2 s3 c d)) (hf : Fr (· = g) w w') : RAt w' B cs D := by
  obtain ⟨ss, sp, sf, h1, h2⟩ := h
  exact ⟨ss, sp, sf, h1, h2.fr hB hf⟩
/-- an answer is put into its place -/
theorem put_ans {cs : List Value} {D : Dk} {K : World → Prop} (h : RAt w B cs D) (hB : Blk w g e (rc s1 s2 s3 c d)) (hK : ∀ w'', RAt w'' B cs D → Blk w'' g e cs → Fr (· = g) w w'' → K w'') : stA 5 ⟨g, 0, none⟩ cs w K := by
  have hl := h.len
  refine stA_blk hB hl (by simp) h.one fun w'' hB'' hf'' => hK w'' (h.fr hB hf'') ?_ hf''
  have : splice (rc s1 s2 s3 c d) 0 cs = cs := by
    unfold splice
    rw [List.take_zero, List.nil_append, List.drop_of_length_le (by rw [hl]; simp), List.append_nil]
  rw [this] at hB''
  exact hB''
end
theorem tick_wf {D : Dk} (h : D.Wf) (hc : D.changes < 1000000000) : (Dk.tick D).Wf := ⟨h.pos, h.few, h.bl, h.pend, h.plen, h.keep, h.flen, by show D.changes + 1 ≤ _; omega⟩
theorem rstrike_ok (w : World) (cs : List Value) (D : Dk) (h : RAt w B cs D) (hwf : D.Wf) (hch : D.changes < 1000000000) (hBn : ∀ k, w.heap.size ≤ k → B k) :
    Calls Try.prog 68 #[aggv cs] w (Ret r68 fun x w' => x.2 = D.strike.2 ∧ RAt w' B x.1 D.strike.1 ∧ Ext w w') := by
  obtain ⟨ss, sp, sf, rfl, h⟩ := h
  apply s68_calls
  intro b1 w2 hb1 hw2
  have hx2 : Ext w w2 := Ext.new hw2
  have hB2 : Blk w2 b1 49 (rc ss sp sf D.changes D.down) := Blk.new hb1 hw2
  intro b3 w4 hb3 hw4
  have hx4 : Ext w2 w4 := Ext.new hw4
  have hR4 : Blk w4 b3 49 (rc nilSl nilSl nilSl 0 false) := Blk.new hb3 hw4
  have hB4 := hB2.ext hx4
  have h13 : b1 < b3 := by rw [hb3]; exact hB2.lt
  have hwb1 : w.heap.size ≤ b1 := by rw [hb1]; exact Nat.le_refl _
  refine ⟨(D.changes : Int), by rw [add_plain]; exact hB4.cell rfl, (D.changes : Int), by rw [add_plain]; exact hB4.cell rfl, ?_⟩
  show st1 _ _ _ _
  rw [add_plain, w64_eq (by omega) (by omega)]
  refine st1_blk hB4 (by simp) fun w7 hB7 hf7 => ?_
  have hx7 : Ext w w7 := hf7.ext (hx2.trans hx4) fun k _ e => by rw [e]; exact hwb1
  have hB7 : Blk w7 b1 49 (rc ss sp sf ((D.changes : Int) + 1) D.down) := hB7
  have hR7 := hR4.fr hf7 (by omega)
  have hc1 : (((Dk.tick D).changes : Nat) : Int) = (D.changes : Int) + 1 := by unfold Dk.tick; simp only; omega
  have hT : ∀ {w'}, Ext w w' → RAt w' B (rc ss sp sf ((D.changes : Int) + 1) D.down) (Dk.tick D) := fun hx => ⟨ss, sp, sf, by rw [hc1]; rfl, ⟨h.sure.ext hx, h.pend.ext hx, h.falls.ext hx, h.f1, h.f2, h.f3⟩⟩
  have hfl := h.falls.len
  have hfln := hwf.flen
  have hfa := h.falls.ext hx7
  refine ⟨fun st w' => w7 = w' ∧ ∃ k : Nat, k ≤ D.falls.length ∧ st = (k : Int) ∧ (D.falls.take k).find? (fun f => f.1 == (D.changes : Int)) = none, fun st _ => D.falls.length - st.toNat, ⟨rfl, 0, Nat.zero_le _, rfl, by simp⟩, ?_⟩
  rintro st w9 ⟨rfl, k, hk, rfl, hno⟩
  refine ⟨sf, by rw [add_plain]; exact hB7.cell rfl, ?_⟩
  refine ⟨fun hlt => ?_, fun hge => ?_⟩
  · have hkl : k < D.falls.length := by have := of_decide_eq_true hlt; omega
    have hsplit : D.falls = D.falls.take k ++ D.falls[k] :: D.falls.drop (k + 1) := by rw [← List.drop_eq_getElem_cons hkl, List.take_append_drop]
    have hl3 : k * 3 < (fallC D.falls).length := by rw [fallC_len]; omega
    obtain ⟨a, ha, _⟩ := hfa.cells.some_of (List.getElem?_eq_getElem hl3)
    have hat : At w7 (a.add (k * 3)) (fallOf D.falls[k]) := by
      have hc := hfa.cells
      rw [ha] at hc
      rw [← fallC_at hkl]
      exact At.sub hc _ _
    refine ⟨sf, by rw [add_plain]; exact hB7.cell rfl, a, _, ha, by omega, by omega, rfl, ?_⟩
    simp only [Int.toNat_natCast]
    have hc0 := hat 0 _ rfl
    refine ⟨D.falls[k].1, hc0, ?_⟩
    refine ⟨fun he => ?_, fun hne => ?_⟩
    · have he := of_decide_eq_true he
      have hfind : D.falls.find? (fun f => f.1 == (D.changes : Int)) = some D.falls[k] := by
        have e2 := congrArg (fun l : List Fall => l.find? (fun f => f.1 == (D.changes : Int))) hsplit
        refine e2.trans ?_
        show List.find? _ (_ ++ _) = _
        rw [List.find?_append, hno, List.find?_cons_of_pos (by simp [he])]
        rfl
      intro w22 hw22
      have hx22 : Ext w7 w22 := by subst hw22; exact Ext.drew _
      refine ⟨rc ss sp sf ((D.changes : Int) + 1) D.down, rfl, hB7.at rfl, sf, by rw [add_plain]; exact hB7.cell rfl, a, _, ha, by omega, by omega, rfl, ?_⟩
      simp only [Int.toNat_natCast]
      refine ⟨fallOf D.falls[k], rfl, hat, ?_⟩
      refine cR_of (rcrash_ok w22 _ _ (hT (hx7.trans hx22)) (tick_wf hwf hch) (fun k hk => hBn k (Nat.le_trans (hx7.trans hx22).size hk)) D.falls[k] (hwf.keep _ (List.getElem_mem hkl))) ?_
      rintro x29 w30 ⟨hA30, hx30⟩
      have hxx := hx22.trans hx30
      refine put_ans hA30 (hR7.ext hxx) fun w31 hA31 hB31 hf31 => ?_
      refine ⟨x29, hA31.len, hB31.at (by rw [List.drop_zero, List.take_length]), ?_⟩
      rw [strike_some hfind]
      exact ⟨rfl, hA31, hf31.ext (hx7.trans hxx) fun k _ e => by rw [e]; omega⟩
    · have hne := of_decide_eq_false hne
      rw [w64_eq (by omega) (by omega)]
      refine ⟨⟨trivial, k + 1, by omega, by omega, ?_⟩, by omega⟩
      rw [List.take_succ_eq_append_getElem hkl, List.find?_append, hno]
      simp [hne]
  · have hge : k = D.falls.length := by have := of_decide_eq_false hge; omega
    subst hge
    rw [List.take_length] at hno
    refine ⟨rc ss sp sf ((D.changes : Int) + 1) D.down, rfl, hB7.at rfl, ?_⟩
    refine put_ans (hT hx7) hR7 fun w31 hA31 hB31 hf31 => ?_
    refine ⟨rc ss sp sf ((D.changes : Int) + 1) D.down, rfl, hB31.at rfl, ?_⟩
    rw [strike_none hno]
    exact ⟨rfl, hA31, hf31.ext hx7 fun k _ e => by rw [e]; omega⟩
end Go.Proofs.Ytagkcbbbdlmcjaa
end
section
/- The document's disk: a flush, a write. -/
set_option linter.unusedVariables false
set_option linter.unusedSimpArgs false
namespace Go.Proofs.Ytagkcbbbdlmcjaa
open Go.Lift Go.Lift.Disk Go.RowKit
variable {B : Nat → Prop}
theorem crashL_wf (f : Fall) (last : Int) : ∀ (ps : List (Nat × List UInt8)) (k : Nat) (l : List Bl), WfB l → (∀ p ∈ ps, p.1 < l.length ∧ p.2.length = 512) → WfB (crashL f last k ps l)
  | [], _, _, h, _ => h
  | p :: ps, k, l, h, hp => by
    obtain ⟨h1, h2⟩ := hp p (by simp)
    rw [crashL]
    refine crashL_wf f last ps (k + 1) _ ?_ fun q hq => by rw [crashStep_len]; exact hp q (by simp [hq])
    have hb := (bAt_len h h1).2
    unfold crashStep
    split
    · exact setSure_wf h h1 h2
    · split
      · exact setSure_wf h h1 (by have := (torn_eq f).2; rw [List.length_append, List.length_take, List.length_drop, h2, hb]; omega)
      · exact h
theorem crash_wf {D : Dk} (h : D.Wf) (f : Fall) : (D.crash f).Wf := by
  unfold Dk.crash
  split
  · exact h
  · have hw := crashL_wf f ((D.pend.length : Int) - 1) D.pend 0 D.bl h.bl h.pend
    have hl := crashL_len' f ((D.pend.length : Int) - 1) D.pend 0 D.bl
    refine ⟨by simp only [List.length_map, hl]; exact h.pos, by simp only [List.length_map, hl]; exact h.few, ?_, by simp, by simp, h.keep, h.flen, h.ch⟩
    intro p hp
    obtain ⟨q, hq, rfl⟩ := List.mem_map.1 hp
    exact ⟨(hw q hq).2, (hw q hq).2⟩
theorem strike_wf {D : Dk} (h : D.Wf) (hc : D.changes < 1000000000) : D.strike.1.Wf := by
  cases hf : D.falls.find? (fun f => f.1 == (D.changes : Int)) with
  | none => rw [strike_none hf]; exact tick_wf h hc
  | some f => rw [strike_some hf]; exact crash_wf (tick_wf h hc) f
theorem put_wf {D : Dk} (h : D.Wf) (hp : D.pend.length < 1000000) {i : Nat} (hi : i < D.bl.length) {b : List UInt8} (hb : b.length = 512) : (D.put i b).Wf := by
  refine ⟨by show 0 < (setNow _ _ _).length; rw [setNow_len]; exact h.pos, by show (setNow _ _ _).length ≤ _; rw [setNow_len]; exact h.few, setNow_wf h.bl hi hb, ?_, ?_, h.keep, h.flen, h.ch⟩
  · intro p hp
    show p.1 < (setNow _ _ _).length ∧ _
    rw [setNow_len]
    rcases List.mem_append.1 (show p ∈ D.pend ++ [(i, b)] from hp) with hp | hp
    · exact h.pend p hp
    · rw [List.mem_singleton.1 hp]; exact ⟨hi, hb⟩
  · show (D.pend ++ [(i, b)]).length ≤ _
    rw [List.length_append]
    simp only [List.length_cons, List.length_nil]
    omega
theorem sures_now {l : List Bl} {i : Nat} (hi : i < l.length) (b : List UInt8) : (setNow l i b).map (·.2) = l.map (·.2) := by
  unfold setNow
  rw [List.map_set]
  have hs : i < (l.map (·.2)).length := by simpa using hi
  have := bAt_sure hi
  show (l.map (·.2)).set i (bAt l i).2 = _
  rw [← this, List.set_getElem_self hs]
theorem rflush_ok (w : World) (cs : List Value) (D : Dk) (h : RAt w B cs D) (hwf : D.Wf) (hch : D.changes < 1000000000) (hBn : ∀ k, w.heap.size ≤ k → B k) :
    Calls Try.prog 65 #[aggv cs] w (Ret r65 fun x w' => x.2 = D.flush.2 ∧ RAt w' B x.1 D.flush.1 ∧ Ext w w') := by
  obtain ⟨ss, sp, sf, rfl, h⟩ := h
  apply s65_calls
  intro b1 w2 hb1 hw2
  have hx2 : Ext w w2 := Ext.new hw2
  have hB2 : Blk w2 b1 49 (rc ss sp sf D.changes D.down) := Blk.new hb1 hw2
  intro b3 w4 hb3 hw4
  have hx4 : Ext w2 w4 := Ext.new hw4
  have hR4 : Blk w4 b3 49 (rc nilSl nilSl nilSl 0 false) := Blk.new hb3 hw4
  have hB4 := hB2.ext hx4
  have hxw4 := hx2.trans hx4
  have hwb3 : w.heap.size ≤ b3 := by rw [hb3]; exact hx2.size
  have hA4 : RAt w4 B (rc ss sp sf D.changes D.down) D := ⟨ss, sp, sf, rfl, h.ext hxw4⟩
  refine ⟨D.down, by rw [add_plain]; exact hB4.cell rfl, ?_⟩
  unfold Dk.flush
  refine ⟨fun hd => ?_, fun hd => ?_⟩
  · rw [if_pos hd]
    refine ⟨rc ss sp sf D.changes D.down, rfl, hB4.at rfl, ?_⟩
    refine put_ans hA4 hR4 fun w8 hA8 hB8 hf8 => ?_
    exact ⟨rc ss sp sf D.changes D.down, rfl, hB8.at rfl, rfl, hA8, hf8.ext hxw4 fun k _ e => by rw [e]; exact hwb3⟩
  rw [if_neg (by rw [hd]; simp)]
  refine ⟨rc ss sp sf D.changes D.down, rfl, hB4.at rfl, ?_⟩
  refine cR_of (rstrike_ok w4 _ D hA4 hwf hch (fun k hk => hBn k (Nat.le_trans hxw4.size hk))) ?_
  rintro ⟨cs2, e2⟩ w12 ⟨he2, hA12, hx12⟩
  simp only at he2 hA12
  subst he2
  have hEw := strike_wf hwf hch
  have hR12 := hR4.ext hx12
  refine ⟨hA12.len, hA12.one, fun b13 w14 hb13 hw14 => ?_⟩
  have hx14 : Ext w12 w14 := Ext.new hw14
  have hB14 : Blk w14 b13 49 cs2 := Blk.new hb13 hw14
  have hA14 := hA12.ext hx14
  have hR14 := hR12.ext hx14
  have h313 : b3 < b13 := by rw [hb13]; exact hR12.lt
  have hxw14 := (hxw4.trans hx12).trans hx14
  refine ⟨fun hne => ?_, fun he => ?_⟩
  · rw [if_pos (nd_t hne)]
    refine ⟨cs2, hA14.len, hB14.at (by rw [List.drop_zero, List.take_length]), ?_⟩
    refine put_ans hA14 hR14 fun w17 hA17 hB17 hf17 => ?_
    exact ⟨cs2, hA17.len, hB17.at (by rw [List.drop_zero, List.take_length]), rfl, hA17, hf17.ext hxw14 fun k _ e => by rw [e]; exact hwb3⟩
  have he := nd_f he
  rw [if_neg (by rw [he]; simp)]
  generalize D.strike.1 = E at hA12 hA14 hEw ⊢
  obtain ⟨s0, sp2, sf2, rfl, hE⟩ := hA12
  have hpl := hE.pend.len
  have hple := hEw.plen
  refine ⟨fun st w' => ∃ (k : Nat) (s' : Sl), k ≤ E.pend.length ∧ st = (k : Int) ∧ Blk w' b13 49 (rc s' sp2 sf2 E.changes E.down) ∧ Blk w' b3 49 (rc nilSl nilSl nilSl 0 false) ∧ StrsAt w' s' ((flushL E.bl (E.pend.take k)).map (·.2)) ∧ Far B s' ∧ Ext w12 w',
    fun st _ => E.pend.length - st.toNat, ⟨0, s0, Nat.zero_le _, rfl, hB14, hR14, hE.sure.ext hx14, hE.f1, hx14⟩, ?_⟩
  rintro st w20 ⟨k, s', hk, rfl, hB, hR, hS, hFs, hx⟩
  have hpe := hE.pend.ext hx
  refine ⟨sp2, by rw [add_plain]; exact hB.cell rfl, ?_⟩
  refine ⟨fun hlt => ?_, fun hge => ?_⟩
  · have hkl : k < E.pend.length := by have := of_decide_eq_true hlt; omega
    obtain ⟨hpi, hp512⟩ := hEw.pend _ (List.getElem_mem hkl)
    obtain ⟨a, ha, hat⟩ := hpe.get hkl
    have hc0 := hat 0 _ rfl
    have hc1 := hat 1 _ rfl
    have hll : (flushL E.bl (E.pend.take k)).length = E.bl.length := flushL_len' _ _
    intro w27 hw27
    have hx27 : Ext w20 w27 := by subst hw27; exact Ext.drew _
    refine ⟨s', by rw [add_plain]; exact hB.cell rfl, sp2, by rw [add_plain]; exact hB.cell rfl, a, _, ha, by omega, by omega, rfl, ?_⟩
    simp only [Int.toNat_natCast]
    refine ⟨(E.pend[k].1 : Int), hc0, sp2, by rw [add_plain]; exact hB.cell rfl, a, _, ha, by omega, by omega, rfl, ?_⟩
    simp only [Int.toNat_natCast]
    refine ⟨E.pend[k].2, hc1, ?_⟩
    have hfew := hEw.few
    refine cR_of (with_ok w27 s' _ (hS.ext hx27) E.pend[k].1 (by rw [List.length_map, hll]; exact hpi) (by rw [List.length_map, hll]; omega) _) ?_
    rintro x38 w39 ⟨hS39, hx39, hg39⟩
    have hxx := hx27.trans hx39
    rw [add_plain]
    refine st1_blk (hB.ext hxx) (by simp) fun w40 hB40 hf40 => ?_
    rw [w64_eq (by omega) (by omega)]
    have hfs : flushL E.bl (E.pend.take (k + 1)) = setSure (flushL E.bl (E.pend.take k)) E.pend[k].1 E.pend[k].2 := by
      unfold flushL
      rw [List.take_succ_eq_append_getElem hkl, List.foldl_append]
      rfl
    refine ⟨⟨k + 1, x38, by omega, by omega, hB40, (hR.ext hxx).fr hf40 (by omega), ?_, (fun _ a ha => hBn _ (Nat.le_trans (Nat.le_trans ((hxw4.trans hx12).trans hx).size hx27.size) (hg39 a ha))), hf40.ext (hx.trans hxx) fun k _ e => by rw [e, hb13]; exact Nat.le_refl _⟩, by first | omega | (simp only; omega)⟩
    rw [hfs, sures_set]
    exact hS39.fr (hB.ext hxx) hf40
  · have hge : k = E.pend.length := by have := of_decide_eq_false hge; omega
    subst hge
    rw [List.take_length] at hS
    rw [add_plain]
    refine st1_blk hB (by simp) fun w41 hB41 hf41 => ?_
    have hB41 : Blk w41 b13 49 (rc s' nilSl sf2 E.changes E.down) := hB41
    have hx41 : Ext w12 w41 := hf41.ext hx fun k _ e => by rw [e, hb13]; exact Nat.le_refl _
    refine ⟨rc s' nilSl sf2 E.changes E.down, rfl, hB41.at rfl, ?_⟩
    have hA41 : RAt w41 B (rc s' nilSl sf2 E.changes E.down) { E with bl := flushL E.bl E.pend, pend := [] } := ⟨s', nilSl, sf2, rfl, ⟨hS.fr hB hf41, ⟨rfl, rfl⟩, hE.falls.ext hx41, hFs, Far.nil, hE.f3⟩⟩
    refine put_ans hA41 (hR.fr hf41 (by omega)) fun w43 hA43 hB43 hf43 => ?_
    exact ⟨rc s' nilSl sf2 E.changes E.down, rfl, hB43.at rfl, rfl, hA43, hf43.ext ((hxw4.trans hx12).trans hx41) fun k _ e => by rw [e]; exact hwb3⟩
end Go.Proofs.Ytagkcbbbdlmcjaa
end
section
/- The document's disk: a write. -/
set_option linter.unusedVariables false
set_option linter.unusedSimpArgs false
namespace Go.Proofs.Ytagkcbbbdlmcjaa
open Go.Lift Go.Lift.Disk Go.RowKit
variable {B : Nat → Prop}
theorem mkz_46' : mkCells Try.prog 46 = some (114, 2, 24, [Value.int .i64 0, str []]) := mkz_46
theorem pairs_one (l : List (Nat × List UInt8)) : ∀ u ∈ l.flatMap pairC, u.oneCell' = true := by
  intro u hu
  obtain ⟨p, _, hp⟩ := List.mem_flatMap.1 hu
  simp only [pairC, List.mem_cons, List.not_mem_nil, or_false] at hp
  rcases hp with rfl | rfl <;> rfl
theorem Own.ge5 {w : World} {base : Nat} {e : TypeId} {size : Nat} {s : Sl} {xs : List Value} (h : Own w base e size s xs) : ∀ b, s.a = some b → base ≤ b.block := by
  intro b hb
  obtain ⟨sa, l, c⟩ := s
  simp only at hb
  subst hb
  rcases h.2 with ⟨h1, h2⟩ | ⟨g, cap, cur, h1, h3, _⟩
  · simp at h1
  · simp only [Value.slice.injEq, Option.some.injEq] at h1
    obtain ⟨rfl, _, _⟩ := h1
    exact h3
theorem rput_ok (w : World) (cs : List Value) (D : Dk) (h : RAt w B cs D) (hwf : D.Wf) (hch : D.changes < 1000000000) (hpn : D.pend.length < 1000000) (hBn : ∀ k, w.heap.size ≤ k → B k) (i : Int) (bs : List UInt8) :
    Calls Try.prog 42 #[aggv cs, .int .i64 i, str bs] w (Ret r42 fun x w' => x.2 = (D.write i bs).2 ∧ RAt w' B x.1 (D.write i bs).1 ∧ Ext w w') := by
  obtain ⟨ss, sp, sf, rfl, h⟩ := h
  apply s42_calls
  intro b1 w2 hb1 hw2
  have hx2 : Ext w w2 := Ext.new hw2
  have hB2 : Blk w2 b1 49 (rc ss sp sf D.changes D.down) := Blk.new hb1 hw2
  intro b3 w4 hb3 hw4
  have hx4 : Ext w2 w4 := Ext.new hw4
  have hR4 : Blk w4 b3 49 (rc nilSl nilSl nilSl 0 false) := Blk.new hb3 hw4
  have hB4 := hB2.ext hx4
  have hxw4 := hx2.trans hx4
  have h13 : b1 < b3 := by rw [hb3]; exact hB2.lt
  have hwb1 : w.heap.size ≤ b1 := by rw [hb1]; exact Nat.le_refl _
  have hwb3 : w.heap.size ≤ b3 := by omega
  have hA : ∀ {w'}, Ext w w' → RAt w' B (rc ss sp sf D.changes D.down) D := fun hx => ⟨ss, sp, sf, rfl, h.ext hx⟩
  refine ⟨rc ss sp sf D.changes D.down, rfl, hB4.at rfl, ?_⟩
  refine cR_of (why_ok w4 _ D (hA hxw4) i) ?_
  rintro x6 w7 ⟨rfl, hx7⟩
  have hxw7 := hxw4.trans hx7
  have hB7 := hB4.ext hx7
  have hR7 := hR4.ext hx7
  unfold Dk.write
  refine ⟨fun hne => ?_, fun he => ?_⟩
  · rw [if_pos (nd_t hne)]
    refine ⟨rc ss sp sf D.changes D.down, rfl, hB7.at rfl, ?_⟩
    refine put_ans (hA hxw7) hR7 fun w8 hA8 hB8 hf8 => ?_
    exact ⟨rc ss sp sf D.changes D.down, rfl, hB8.at rfl, rfl, hA8, hf8.ext hxw7 fun k _ e => by rw [e]; exact hwb3⟩
  have he := nd_f he
  rw [if_neg (by rw [he]; simp)]
  refine ⟨fun hne => ?_, fun hl => ?_⟩
  · have hne := nd_t hne
    rw [if_pos (by omega)]
    refine ⟨rc ss sp sf D.changes D.down, rfl, hB7.at rfl, ?_⟩
    refine put_ans (hA hxw7) hR7 fun w8 hA8 hB8 hf8 => ?_
    exact ⟨rc ss sp sf D.changes D.down, rfl, hB8.at rfl, rfl, hA8, hf8.ext hxw7 fun k _ e => by rw [e]; exact hwb3⟩
  have hl := nd_f hl
  rw [if_neg (by omega)]
  obtain ⟨hd, hi0, hi1⟩ := why_zero he
  obtain ⟨n, rfl⟩ := Int.eq_ofNat_of_zero_le hi0
  have hn : n < D.bl.length := by omega
  have h512 : bs.length = 512 := by omega
  rw [Int.toNat_natCast]
  intro b16 w17 hb16 hw17
  have hx17 : Ext w7 w17 := Ext.new hw17
  have hpl := h.pend.len
  have hfl : ∀ l : List (Nat × List UInt8), (l.flatMap pairC).length = l.length * 2 := fun l => flatMap_len pairC (n := 2) (fun _ => rfl) l
  refine ⟨sp, by rw [add_plain]; exact (hB7.ext hx17).cell rfl, ?_⟩
  refine app_ok (base := w7.heap.size) mkz_46' rfl (by decide) (Own.made (e := 114) (size := 2) (c := 0) hb16 hw17 (Nat.le_refl _) rfl (by simp [maxLen])) (news := D.pend.flatMap pairC)
    (by rw [hfl, hpl]) (Ext.atO (hxw7.trans hx17) h.pend.cells) (pairs_one _) (by simp only [maxLen]; omega) (by simp only; omega) hx17.size ?_
  intro s19 w20 hl19 ho19 _ hB20
  have hx20 : Ext w7 w20 := hB20 _ _ hx17 (Nat.le_refl _) hx17.size
  rw [List.nil_append] at ho19
  have hl19' : s19.len = D.pend.length := by rw [hl19]; simp [hpl]
  refine ⟨rfl, ?_, fun b21 w22 hb21 hw22 => ?_⟩
  · exact fun v hv => pairs_one [(n, bs)] v (by simpa [pairC] using hv)
  have hx22 : Ext w20 w22 := Ext.new hw22
  refine app_ok (base := w7.heap.size) mkz_46' rfl (by decide) (ho19.ext hx22) (news := pairC (n, bs)) rfl (At.new hb21 hw22) (fun u hu => pairs_one [(n, bs)] u (by simpa using hu)) (by simp only [maxLen]; omega) (by simp only; omega) (hx20.trans hx22).size ?_
  intro s23 w24 hl23 ho23 _ hB24
  have hx24 : Ext w7 w24 := hB24 _ _ (hx20.trans hx22) (Nat.le_refl _) (hx20.trans hx22).size
  have hxw24 := hxw7.trans hx24
  rw [add_plain]
  refine st1_blk (hB7.ext hx24) (by simp) fun w25 hB25 hf25 => ?_
  have hB25 : Blk w25 b1 49 (rc ss s23 sf D.changes D.down) := hB25
  have hx25 : Ext w w25 := hf25.ext hxw24 fun k _ e => by rw [e]; exact hwb1
  have hP25 : PairsAt w25 s23 (D.pend ++ [(n, bs)]) := by
    refine ⟨by rw [hl23, List.length_append]; show s19.len + 1 = _; rw [hl19']; rfl, ?_⟩
    have e : (D.pend ++ [(n, bs)]).flatMap pairC = D.pend.flatMap pairC ++ pairC (n, bs) := by simp [List.flatMap_append]
    rw [e]
    refine (hf25.own (fun b hb e => ?_) ho23).at
    have hb1w : b1 < w7.heap.size := hB7.lt
    have hge : w7.heap.size ≤ b.block := by
      obtain ⟨sa, l, c⟩ := s23
      simp only at hb
      subst hb
      rcases ho23.2 with ⟨h1, h2⟩ | ⟨g, cap, cur, h1, h3, _⟩
      · simp at h1
      · simp only [Value.slice.injEq, Option.some.injEq] at h1
        obtain ⟨rfl, _, _⟩ := h1
        exact h3
    have e : b.block = b1 := e
    omega
  have hA25 : RAt w25 B (rc ss s23 sf D.changes D.down) (D.put n bs) := by
    refine ⟨ss, s23, sf, rfl, ⟨?_, hP25, h.falls.ext hx25, h.f1, (fun _ b hb => hBn _ (Nat.le_trans hxw7.size (Own.ge5 ho23 b hb))), h.f3⟩⟩
    show StrsAt w25 ss ((setNow D.bl n bs).map (·.2))
    rw [sures_now hn]
    exact h.sure.ext hx25
  refine ⟨rc ss s23 sf D.changes D.down, rfl, hB25.at rfl, ?_⟩
  refine cR_of (rstrike_ok w25 _ _ hA25 (put_wf hwf hpn hn h512) hch (fun k hk => hBn k (Nat.le_trans hx25.size hk))) ?_
  rintro ⟨cs2, e2⟩ w28 ⟨he2, hA28, hx28⟩
  simp only at he2 hA28
  subst he2
  have hR28 := (((hR7.ext hx24).fr hf25 (by omega)).ext hx28)
  refine put_ans hA28 hR28 fun w29 hA29 hB29 hf29 => ?_
  exact ⟨cs2, hA29.len, hB29.at (by rw [List.drop_zero, List.take_length]), rfl, hA29, hf29.ext (hx25.trans hx28) fun k _ e => by rw [e]; exact hwb3⟩
end Go.Proofs.Ytagkcbbbdlmcjaa
end
section
/- What one thing done leaves of the plain disk; and the document's disk beside one that is written. -/
set_option linter.unusedVariables false
set_option linter.unusedSimpArgs false
namespace Go.Proofs.Ytagkcbbbdlmcjaa
open Go.Lift Go.Lift.Disk Go.RowKit
variable {B : Nat → Prop}
theorem atO_nil (w : World) (a : Option Addr) : AtO w a [] := by
  cases a with
  | none => rfl
  | some a => exact fun j v hj => by simp at hj
theorem RAt.foot {w w' : World} {X : Nat → Prop} {cs : List Value} {D : Dk} (h : RAt w B cs D) (hf : Fr X w w') (hX : ∀ k, B k → ¬ X k) : RAt w' B cs D := by
  obtain ⟨ss, sp, sf, h1, h2⟩ := h
  refine ⟨ss, sp, sf, h1, ⟨h2.sure.len, ?_⟩, ⟨h2.pend.len, ?_⟩, ⟨h2.falls.len, h2.falls.cap, ?_, h2.falls.nil, h2.falls.keep⟩, h2.f1, h2.f2, h2.f3⟩
  · by_cases h0 : ss.len = 0
    · have := h2.sure.len
      rw [List.eq_nil_of_length_eq_zero (this.symm.trans h0)]
      exact atO_nil _ _
    · exact hf.atO (fun a ha => hX _ (h2.f1 h0 a ha)) h2.sure.cells
  · by_cases h0 : sp.len = 0
    · have := h2.pend.len
      rw [List.eq_nil_of_length_eq_zero (this.symm.trans h0)]
      exact atO_nil _ _
    · exact hf.atO (fun a ha => hX _ (h2.f2 h0 a ha)) h2.pend.cells
  · by_cases h0 : sf.len = 0
    · have := h2.falls.len
      rw [List.eq_nil_of_length_eq_zero (this.symm.trans h0)]
      exact atO_nil _ _
    · exact hf.atO (fun a ha => hX _ (h2.f3 h0 a ha)) h2.falls.cells
/-- the disk while it is played with: so many blocks, so many things done; each block is what was written last -/
structure Play (n k : Nat) (D : Dk) : Prop where
  len : D.bl.length = n
  ch : D.changes ≤ k
  pend : D.pend.length ≤ k
  now : ∀ i, i < n → (bAt D.bl i).1 = lastOf D.pend i (bAt D.bl i).2
theorem play_fresh (n : Nat) : Play n 0 (fresh n) := by
  have h := run_fresh n
  exact ⟨h.len, h.ch, h.pend, h.now⟩
theorem play_mono {n k m : Nat} {D : Dk} (h : Play n k D) (hk : k ≤ m) : Play n m D := ⟨h.len, Nat.le_trans h.ch hk, Nat.le_trans h.pend hk, h.now⟩
theorem play_crash {n k : Nat} {D : Dk} (h : Play n k D) (f : Fall) : Play n k (D.crash f) := by
  unfold Dk.crash
  split
  · exact h
  · refine ⟨by simp only [List.length_map, crashL_len']; exact h.len, h.ch, Nat.zero_le _, fun i hi => ?_⟩
    show (bAt (List.map _ _) i).1 = lastOf [] i (bAt (List.map _ _) i).2
    rw [bAt_map (by rw [crashL_len', h.len]; exact hi)]
    rfl
theorem play_tick {n k : Nat} {D : Dk} (h : Play n k D) : Play n (k + 1) (Dk.tick D) := ⟨h.len, by show D.changes + 1 ≤ _; have := h.ch; omega, Nat.le_succ_of_le h.pend, h.now⟩
theorem play_strike {n k : Nat} {D : Dk} (h : Play n k D) : Play n (k + 1) D.strike.1 := by
  cases hf : D.falls.find? (fun f => f.1 == (D.changes : Int)) with
  | none => rw [strike_none hf]; exact play_tick h
  | some f => rw [strike_some hf]; exact play_crash (play_tick h) f
theorem play_put {n k : Nat} {D : Dk} (h : Play n k D) {i : Nat} (hi : i < n) {b : List UInt8} : (D.put i b).bl.length = n ∧ (D.put i b).changes ≤ k ∧ (D.put i b).pend.length ≤ k + 1 ∧ ∀ j, j < n → (bAt (D.put i b).bl j).1 = lastOf (D.put i b).pend j (bAt (D.put i b).bl j).2 := by
  refine ⟨by show (setNow _ _ _).length = n; rw [setNow_len]; exact h.len, h.ch, ?_, ?_⟩
  · show (D.pend ++ [(i, b)]).length ≤ _
    rw [List.length_append]
    have := h.pend
    simp only [List.length_cons, List.length_nil]
    omega
  · intro j hj
    show (bAt (setNow D.bl i b) j).1 = lastOf (D.pend ++ [(i, b)]) j (bAt (setNow D.bl i b) j).2
    rw [bAt_setNow _ (by rw [h.len]; exact hj), lastOf_append]
    by_cases he : i = j
    · simp [he]
    · simp only [he, if_false]
      exact h.now j hj
theorem play_write {n k : Nat} {D : Dk} (h : Play n k D) (i : Int) (b : List UInt8) : Play n (k + 1) (D.write i b).1 := by
  unfold Dk.write
  split
  · exact play_mono h (Nat.le_succ _)
  · rename_i hw
    split
    · exact play_mono h (Nat.le_succ _)
    · have hw : D.why i = 0 := by simpa using hw
      obtain ⟨_, h0, h1⟩ := why_zero hw
      obtain ⟨m, rfl⟩ := Int.eq_ofNat_of_zero_le h0
      rw [Int.toNat_natCast]
      have hm : m < n := by rw [← h.len]; omega
      obtain ⟨a1, a2, a3, a4⟩ := play_put h hm (b := b)
      -- what a change adds is counted apart from what is pending
      cases hf : (D.put m b).falls.find? (fun f => f.1 == ((D.put m b).changes : Int)) with
      | none =>
        rw [strike_none hf]
        exact ⟨a1, by show (D.put m b).changes + 1 ≤ _; omega, a3, a4⟩
      | some f =>
        rw [strike_some hf]
        exact play_crash (D := Dk.tick (D.put m b)) ⟨a1, by show (D.put m b).changes + 1 ≤ _; omega, a3, a4⟩ f
theorem play_flush {n k : Nat} {D : Dk} (h : Play n k D) : Play n (k + 1) D.flush.1 := by
  unfold Dk.flush
  split
  · exact play_mono h (Nat.le_succ _)
  · have hs := play_strike h
    split
    · exact hs
    · refine ⟨by show (flushL _ _).length = n; rw [flushL_len']; exact hs.len, hs.ch, Nat.zero_le _, fun i hi => ?_⟩
      show (bAt (flushL _ _) i).1 = lastOf [] i (bAt (flushL _ _) i).2
      rw [flushL_at _ _ _ (by rw [hs.len]; exact hi), ← hs.now i hi]
      rfl
end Go.Proofs.Ytagkcbbbdlmcjaa
end
section
/- The typed readings of the functions, and that the program meets each: written by gen.py (a program of this session). -/
set_option linter.unusedVariables false
set_option linter.unusedSimpArgs false
namespace Go.Proofs.Ytagkcbbbdlmcjaa
open Go.Lift
set_option maxRecDepth 100000 in
set_option maxHeartbeats 4000000 in
theorem s40_calls (K : List Value × Bool → World → Prop) (p0 : Option Addr) (p1 : List Value) (p2 : List Value) (w : World) (h : s40 K p0 p1 p2 w) :
    Calls Try.prog 40 #[.pointer p0, aggv p1, aggv p2] w (Ret r40 K) := by
  unfold s40 at h
  refine calls_of_CW (n := 198) Try.func40 rfl rfl rfl ?_
  refine CW.seq ?_
  refine CW.region ?_
  obtain ⟨b1, hb1_⟩ : ∃ b_, b_ = w.heap.size := ⟨_, rfl⟩
  obtain ⟨w2, hw2_⟩ : ∃ w_, w_ = w.alloc (.cells (List.toArray p1) 49) := ⟨_, rfl⟩
  have h := h b1 w2 hb1_ hw2_
  refine RL.opS trivial rfl (OpW.boxE (cs := p1) (rfl) hb1_ hw2_ ?_)
  obtain ⟨b3, hb3_⟩ : ∃ b_, b_ = w2.heap.size := ⟨_, rfl⟩
  obtain ⟨w4, hw4_⟩ : ∃ w_, w_ = w2.alloc (.cells (List.toArray p2) 65) := ⟨_, rfl⟩
  have h := h b3 w4 hb3_ hw4_
  refine RL.opS trivial rfl (OpW.boxE (cs := p2) (rfl) hb3_ hw4_ ?_)
  obtain ⟨b5, hb5_⟩ : ∃ b_, b_ = w4.heap.size := ⟨_, rfl⟩
  obtain ⟨w6, hw6_⟩ : ∃ w_, w_ = w4.alloc (.cells (List.toArray [Value.slice none 0 0, Value.slice none 0 0, Value.slice none 0 0, Value.int .i64 0, Value.bool false]) 49) := ⟨_, rfl⟩
  have h := h b5 w6 hb5_ hw6_
  refine RL.opS trivial rfl (OpW.allocE (b := b5) zero_49 hb5_ hw6_ ?_)
  refine RL.opS trivial rfl (OpW.assign (v := .bool false) rfl ?_)
  refine RL.nil ?_
  refine CW.seq ?_
  refine CW.seq ?_
  refine CW.region ?_
  refine RL.opS trivial rfl (OpW.fieldAddr (off := 0) field_65_0 rfl ?_)
  obtain ⟨x7, h1, h⟩ := h
  refine RL.opS trivial rfl (OpW.load1 (v := .int .i64 x7) one_3 rfl h1 ?_)
  refine RL.opS trivial rfl (OpW.convInt (a := x7) int_3 int_66 rfl ?_)
  refine RL.opS trivial rfl (OpW.quo (a := (IntKind.u64.wrap x7)) (b := 7) (v := .int .u64 (Int.tmod (IntKind.u64.wrap x7) 7)) rfl rfl (by decide) rfl ?_)
  refine RL.nil ?_
  refine CW.block ?_
  refine CW.seq ?_
  refine CW.region ?_
  refine RL.opS trivial rfl (OpW.bin (k := .u64) (a := (Int.tmod (IntKind.u64.wrap x7) 7)) (b := 0) (v := .bool (decide ((Int.tmod (IntKind.u64.wrap x7) 7) = 0))) rfl rfl rfl ?_)
  refine RL.opS trivial rfl (OpW.assign (v := .bool (decide ((Int.tmod (IntKind.u64.wrap x7) 7) = 0))) rfl ?_)
  refine RL.nil ?_
  obtain ⟨ha, hc⟩ := h
  refine CW.cond (b := (decide ((Int.tmod (IntKind.u64.wrap x7) 7) = 0))) rfl (fun hb8 => ?_) (fun hb8 => ?_)
  · have h := ha hb8; clear ha hc
    refine CW.seq ?_
    refine CW.region ?_
    refine RL.opS trivial rfl (OpW.fieldAddr field_65_2 rfl ?_)
    obtain ⟨x9, h1, h⟩ := h
    refine RL.opS trivial rfl (OpW.load1 (v := .int .u8 x9) one_5 rfl h1 ?_)
    refine RL.opS trivial rfl (OpW.fieldAddr field_65_3 rfl ?_)
    obtain ⟨x10, h1, h⟩ := h
    refine RL.opS trivial rfl (OpW.load1 (v := str x10) one_9 rfl h1 ?_)
    refine RL.opS trivial rfl (OpW.callR (al := [.int .u8 x9, str x10]) Try.func32 fb_32 fn_32 rfl h (fun x11 w12 h => ?_))
    refine RL.opS trivial rfl (OpW.assign (v := Sl.v x11) rfl ?_)
    refine RL.nil ?_
    refine jn_elim h ?_; clear h; intro k59 hk60 h
    refine CW.seqJ (A := Sl) (fun s20 ρ => ρ 8 = Sl.v s20 ∧ ρ 0 = .pointer p0 ∧ ρ 4 = .pointer (some ⟨b1, 0, none⟩) ∧ ρ 5 = .pointer (some ⟨b3, 0, none⟩) ∧ ρ 6 = .pointer (some ⟨b5, 0, none⟩)) k59 ?_ ?_
    · rintro s20 ρ w21 ⟨e22, e23, e24, e25, e26⟩ h
      subst hk60
      refine CW.seq ?_
      refine CW.region ?_
      refine RL.opS trivial rfl (OpW.move (v := .pointer p0) e23 ?_)
      refine RL.opS trivial rfl (OpW.fieldAddr field_65_1 e25 ?_)
      obtain ⟨x27, h1, h⟩ := h
      refine RL.opS trivial rfl (OpW.load1 (v := .int .i64 x27) one_3 rfl h1 ?_)
      refine RL.opS trivial rfl (OpW.move (v := Sl.v s20) e22 ?_)
      refine RL.opS trivial rfl (OpW.callR (al := [.pointer p0, .int .i64 x27, Sl.v s20]) Try.func33 fb_33 fn_33 rfl h (fun x28 w29 h => ?_))
      refine RL.opS trivial rfl (OpW.assign (v := .int .i64 x28) rfl ?_)
      refine RL.nil ?_
      refine CW.seq ?_
      refine CW.region ?_
      obtain ⟨x30, h1, h2, h⟩ := h
      refine RL.opS trivial rfl (OpW.loadA agg_49 e24 h1 h2 ?_)
      refine RL.opS trivial rfl (OpW.fieldAddr field_65_1 e25 ?_)
      obtain ⟨x31, h1, h⟩ := h
      refine RL.opS trivial rfl (OpW.load1 (v := .int .i64 x31) one_3 rfl h1 ?_)
      refine RL.opS trivial rfl (OpW.move (v := Sl.v s20) e22 ?_)
      obtain ⟨x32, h1, h2, h⟩ := h
      refine RL.opS trivial rfl (OpW.b2s bsl_39 str_9 rfl h1 h2 ?_)
      refine RL.opS trivial rfl (OpW.callR (al := [aggv x30, .int .i64 x31, str x32]) Try.func42 fb_42 fn_42 rfl h (fun x33 w34 h => ?_))
      refine RL.opS trivial rfl (OpW.move (v := .tuple #[aggv x33.1, .int .i64 x33.2]) rfl ?_)
      refine RL.opS trivial rfl (OpW.extract (v := aggv x33.1) rfl rfl ?_)
      refine RL.opS trivial rfl (OpW.extract (v := .int .i64 x33.2) rfl rfl ?_)
      obtain ⟨hl_b35, ho_b35, h⟩ := h
      obtain ⟨b35, hb35_⟩ : ∃ b_, b_ = w34.heap.size := ⟨_, rfl⟩
      obtain ⟨w36, hw36_⟩ : ∃ w_, w_ = w34.alloc (.cells (List.toArray x33.1) 49) := ⟨_, rfl⟩
      have h := h b35 w36 hb35_ hw36_
      refine RL.opS trivial rfl (OpW.allocZ (b := b35) zero_49 hb35_ ?_)
      refine RL.opN trivial (OpW.storeF (zs := [Value.slice none 0 0, Value.slice none 0 0, Value.slice none 0 0, Value.int .i64 0, Value.bool false]) (cs := x33.1) size_49 rfl rfl hl_b35 (by decide) ho_b35 hb35_ hw36_ ?_)
      refine RL.opS trivial rfl (OpW.assign (v := .int .i64 x33.2) rfl ?_)
      refine RL.nil ?_
      refine CW.seq ?_
      refine CW.seq ?_
      refine CW.region ?_
      refine RL.opS trivial rfl (OpW.move (v := Sl.v s20) e22 ?_)
      refine RL.opS trivial rfl (OpW.len (s := s20) slice_39 rfl ?_)
      refine RL.opS trivial rfl (OpW.move (v := .int .i64 0) rfl ?_)
      refine RL.nil ?_
      refine CW.block ?_
      obtain ⟨I57, mu58, hI, hs⟩ := h
      refine CW.loop (σ := Int) (fun s37 ρ => ρ 57 = .int .i64 s37 ∧ ρ 6 = .pointer (some ⟨b5, 0, none⟩) ∧ ρ 8 = Sl.v s20 ∧ ρ 9 = .int .i64 x28 ∧ ρ 10 = .pointer (some ⟨b35, 0, none⟩) ∧ ρ 11 = .int .i64 x33.2 ∧ ρ 56 = .int .i64 (s20.len : Int)) I57 mu58 0 ⟨rfl, e26, e22, rfl, rfl, rfl, rfl⟩ hI ?_
      rintro s37 ρ w38 ⟨e40, e41, e42, e43, e44, e45, e46⟩ hI
      have h := hs s37 w38 hI
      clear hs hI
      refine CW.seq ?_
      refine CW.region ?_
      refine RL.opS trivial rfl (OpW.bin (k := .i64) (a := s37) (b := (s20.len : Int)) (v := .bool (decide (s37 < (s20.len : Int)))) e40 e46 rfl ?_)
      refine RL.nil ?_
      refine CW.seq ?_
      obtain ⟨ha, hc⟩ := h
      refine CW.cond (b := (decide (s37 < (s20.len : Int)))) rfl (fun hb47 => ?_) (fun hb47 => ?_)
      · have h := ha hb47; clear ha hc
        refine CW.skip ?_
        refine CW.seq ?_
        refine CW.block ?_
        refine CW.seq ?_
        refine CW.region ?_
        refine RL.opS trivial rfl (OpW.move (v := .int .i64 s37) e40 ?_)
        refine RL.opS trivial rfl (OpW.assign (v := .int .i64 s37) rfl ?_)
        refine RL.nil ?_
        refine CW.region ?_
        refine RL.opS trivial rfl (OpW.move (v := Sl.v s20) e42 ?_)
        refine RL.opS trivial rfl (OpW.move (v := .int .i64 s37) rfl ?_)
        obtain ⟨a48_, a48, h1, h2, h3, h4, h⟩ := h
        refine RL.opS trivial rfl (OpW.indexE (a' := a48) slice_39 rfl rfl h1 h2 h3 h4 ?_)
        obtain ⟨x50, h1, h⟩ := h
        refine RL.opS trivial rfl (OpW.load1 (v := .int .u8 x50) one_5 rfl h1 ?_)
        refine RL.opS trivial rfl (OpW.bin (k := .u8) (a := x50) (b := 1) (v := .int .u8 (IntKind.u8.wrap (x50 + 1))) rfl rfl rfl ?_)
        obtain ⟨a51_, a51, h1, h2, h3, h4, h⟩ := h
        refine RL.opS trivial rfl (OpW.indexE (a' := a51) slice_39 rfl rfl h1 h2 h3 h4 ?_)
        obtain ⟨u_, h1, h2, h⟩ := h
        obtain ⟨w53, hw53_⟩ : ∃ w_, w_ = w38.setCell a51 (.int .u8 (IntKind.u8.wrap (x50 + 1))) := ⟨_, rfl⟩
        have h := h w53 hw53_
        refine RL.opN trivial (OpW.store1E (v := .int .u8 (IntKind.u8.wrap (x50 + 1))) size_5 rfl rfl rfl h1 h2 hw53_ ?_)
        refine RL.nil ?_
        refine CW.region ?_
        refine RL.opS trivial rfl (OpW.bin (k := .i64) (a := s37) (b := 1) (v := .int .i64 (IntKind.i64.wrap (s37 + 1))) e40 rfl rfl ?_)
        refine RL.opS trivial rfl (OpW.move (v := .int .i64 (IntKind.i64.wrap (s37 + 1))) rfl ?_)
        refine RL.nil ?_
        exact ⟨(IntKind.i64.wrap (s37 + 1)), ⟨rfl, e41, e42, e43, e44, e45, e46⟩, h⟩
      · have h := hc hb47; clear ha hc
        refine CW.exit ?_
        refine CW.seq ?_
        refine CW.region ?_
        obtain ⟨x54, h1, h2, h⟩ := h
        refine RL.opS trivial rfl (OpW.loadA agg_49 e44 h1 h2 ?_)
        refine RL.opS trivial rfl (OpW.move (v := .int .i64 x28) e43 ?_)
        refine RL.opS trivial rfl (OpW.move (v := .int .i64 x33.2) e45 ?_)
        refine RL.opS trivial rfl (OpW.bin (k := .i64) (a := x28) (b := x33.2) (v := .bool (decide (x28 = x33.2))) rfl rfl rfl ?_)
        obtain ⟨g_, o_, e_, cur_, ha_, h1, h2, h3, h4, h⟩ := h
        obtain ⟨w55, hw55_⟩ : ∃ w_, w_ = w38.setRow g_ (cur_.toList.take o_ ++ x54 ++ cur_.toList.drop (o_ + List.length x54)).toArray := ⟨_, rfl⟩
        have h := h w55 hw55_
        refine RL.opN trivial (OpW.storeAE (cs := x54) size_49 e41 rfl ha_ h1 h2 h3 h4 hw55_ ?_)
        refine RL.opS trivial rfl (OpW.assign (v := .bool (decide (x28 = x33.2))) rfl ?_)
        refine RL.nil ?_
        refine CW.ret ?_
        obtain ⟨x56, hc1, hc2, h⟩ := h
        exact ret_intro (res2c rfl agg_49 e41 hc1 hc2 rfl) ⟨(x56, (decide (x28 = x33.2))), rfl, h⟩
    · clear hk60
      refine CW.seq ?_
      refine CW.region ?_
      refine RL.opS trivial rfl (OpW.fieldAddr field_65_4 rfl ?_)
      obtain ⟨x14, h1, h⟩ := h
      refine RL.opS trivial rfl (OpW.load1 (v := .bool x14) one_4 rfl h1 ?_)
      refine RL.nil ?_
      obtain ⟨ha, hc⟩ := h
      refine CW.cond (b := x14) rfl (fun hb15 => ?_) (fun hb15 => ?_)
      · have h := ha hb15; clear ha hc
        refine CW.region ?_
        refine RL.opS trivial rfl (OpW.move (v := Sl.v x11) rfl ?_)
        obtain ⟨b16, hb16_⟩ : ∃ b_, b_ = w12.heap.size := ⟨_, rfl⟩
        obtain ⟨w17, hw17_⟩ : ∃ w_, w_ = w12.alloc (.cells (List.toArray [.int .u8 0]) 5) := ⟨_, rfl⟩
        have h := h b16 w17 hb16_ hw17_
        refine RL.opS trivial rfl (OpW.buildSliceE (vs := [(0, .int .u8 0)]) (cs := [.int .u8 0]) (by rfl) (by kernel_rfl) hb16_ hw17_ ?_)
        obtain ⟨x18, w19, hr_, h⟩ := h
        refine RL.opS trivial rfl (OpW.appendL (v := Sl.v x18) rfl hr_ ?_)
        refine RL.opS trivial rfl (OpW.assign (v := Sl.v x18) rfl ?_)
        refine RL.nil ?_
        exact ⟨x18, ⟨rfl, rfl, rfl, rfl, rfl⟩, h⟩
      · have h := hc hb15; clear ha hc
        refine CW.skip ?_
        exact ⟨x11, ⟨rfl, rfl, rfl, rfl, rfl⟩, h⟩
  · have h := hc hb8; clear ha hc
    refine CW.seq ?_
    refine CW.region ?_
    refine RL.opS trivial rfl (OpW.bin (k := .u64) (a := (Int.tmod (IntKind.u64.wrap x7) 7)) (b := 1) (v := .bool (decide ((Int.tmod (IntKind.u64.wrap x7) 7) = 1))) rfl rfl rfl ?_)
    refine RL.opS trivial rfl (OpW.assign (v := .bool (decide ((Int.tmod (IntKind.u64.wrap x7) 7) = 1))) rfl ?_)
    refine RL.nil ?_
    obtain ⟨ha, hc⟩ := h
    refine CW.cond (b := (decide ((Int.tmod (IntKind.u64.wrap x7) 7) = 1))) rfl (fun hb61 => ?_) (fun hb61 => ?_)
    · have h := ha hb61; clear ha hc
      refine CW.seq ?_
      refine CW.region ?_
      refine RL.opS trivial rfl (OpW.move (v := .pointer p0) rfl ?_)
      refine RL.opS trivial rfl (OpW.callR (al := [.pointer p0]) Try.func34 fb_34 fn_34 rfl h (fun x62 w63 h => ?_))
      refine RL.opS trivial rfl (OpW.assign (v := .int .i64 x62) rfl ?_)
      refine RL.nil ?_
      refine CW.seq ?_
      refine CW.region ?_
      obtain ⟨x64, h1, h2, h⟩ := h
      refine RL.opS trivial rfl (OpW.loadA agg_49 rfl h1 h2 ?_)
      refine RL.opS trivial rfl (OpW.callR (al := [aggv x64]) Try.func65 fb_65 fn_65 rfl h (fun x65 w66 h => ?_))
      refine RL.opS trivial rfl (OpW.move (v := .tuple #[aggv x65.1, .int .i64 x65.2]) rfl ?_)
      refine RL.opS trivial rfl (OpW.extract (v := aggv x65.1) rfl rfl ?_)
      refine RL.opS trivial rfl (OpW.extract (v := .int .i64 x65.2) rfl rfl ?_)
      obtain ⟨hl_b67, ho_b67, h⟩ := h
      obtain ⟨b67, hb67_⟩ : ∃ b_, b_ = w66.heap.size := ⟨_, rfl⟩
      obtain ⟨w68, hw68_⟩ : ∃ w_, w_ = w66.alloc (.cells (List.toArray x65.1) 49) := ⟨_, rfl⟩
      have h := h b67 w68 hb67_ hw68_
      refine RL.opS trivial rfl (OpW.allocZ (b := b67) zero_49 hb67_ ?_)
      refine RL.opN trivial (OpW.storeF (zs := [Value.slice none 0 0, Value.slice none 0 0, Value.slice none 0 0, Value.int .i64 0, Value.bool false]) (cs := x65.1) size_49 rfl rfl hl_b67 (by decide) ho_b67 hb67_ hw68_ ?_)
      refine RL.opS trivial rfl (OpW.assign (v := .int .i64 x65.2) rfl ?_)
      refine RL.nil ?_
      refine CW.seq ?_
      refine CW.region ?_
      obtain ⟨x69, h1, h2, h⟩ := h
      refine RL.opS trivial rfl (OpW.loadA agg_49 rfl h1 h2 ?_)
      refine RL.opS trivial rfl (OpW.move (v := .int .i64 x62) rfl ?_)
      refine RL.opS trivial rfl (OpW.move (v := .int .i64 x65.2) rfl ?_)
      refine RL.opS trivial rfl (OpW.bin (k := .i64) (a := x62) (b := x65.2) (v := .bool (decide (x62 = x65.2))) rfl rfl rfl ?_)
      obtain ⟨g_, o_, e_, cur_, ha_, h1, h2, h3, h4, h⟩ := h
      obtain ⟨w70, hw70_⟩ : ∃ w_, w_ = w68.setRow g_ (cur_.toList.take o_ ++ x69 ++ cur_.toList.drop (o_ + List.length x69)).toArray := ⟨_, rfl⟩
      have h := h w70 hw70_
      refine RL.opN trivial (OpW.storeAE (cs := x69) size_49 rfl rfl ha_ h1 h2 h3 h4 hw70_ ?_)
      refine RL.opS trivial rfl (OpW.assign (v := .bool (decide (x62 = x65.2))) rfl ?_)
      refine RL.nil ?_
      refine CW.ret ?_
      obtain ⟨x71, hc1, hc2, h⟩ := h
      exact ret_intro (res2c rfl agg_49 rfl hc1 hc2 rfl) ⟨(x71, (decide (x62 = x65.2))), rfl, h⟩
    · have h := hc hb61; clear ha hc
      refine CW.seq ?_
      refine CW.region ?_
      refine RL.opS trivial rfl (OpW.bin (k := .u64) (a := (Int.tmod (IntKind.u64.wrap x7) 7)) (b := 2) (v := .bool (decide ((Int.tmod (IntKind.u64.wrap x7) 7) = 2))) rfl rfl rfl ?_)
      refine RL.opS trivial rfl (OpW.assign (v := .bool (decide ((Int.tmod (IntKind.u64.wrap x7) 7) = 2))) rfl ?_)
      refine RL.nil ?_
      obtain ⟨ha, hc⟩ := h
      refine CW.cond (b := (decide ((Int.tmod (IntKind.u64.wrap x7) 7) = 2))) rfl (fun hb72 => ?_) (fun hb72 => ?_)
      · have h := ha hb72; clear ha hc
        refine CW.seq ?_
        refine CW.region ?_
        refine RL.opS trivial rfl (OpW.move (v := .pointer p0) rfl ?_)
        refine RL.opS trivial rfl (OpW.fieldAddr field_65_1 rfl ?_)
        obtain ⟨x73, h1, h⟩ := h
        refine RL.opS trivial rfl (OpW.load1 (v := .int .i64 x73) one_3 rfl h1 ?_)
        refine RL.opS trivial rfl (OpW.callR (al := [.pointer p0, .int .i64 x73]) Try.func28 fb_28 fn_28 rfl h (fun x74 w75 h => ?_))
        refine RL.opS trivial rfl (OpW.move (v := .tuple #[Sl.v x74.1, .int .i64 x74.2]) rfl ?_)
        refine RL.opS trivial rfl (OpW.extract (v := Sl.v x74.1) rfl rfl ?_)
        refine RL.opS trivial rfl (OpW.extract (v := .int .i64 x74.2) rfl rfl ?_)
        refine RL.opS trivial rfl (OpW.assign (v := Sl.v x74.1) rfl ?_)
        refine RL.opS trivial rfl (OpW.assign (v := .int .i64 x74.2) rfl ?_)
        refine RL.nil ?_
        refine CW.seq ?_
        refine CW.seq ?_
        refine CW.region ?_
        obtain ⟨x76, h1, h2, h⟩ := h
        refine RL.opS trivial rfl (OpW.loadA agg_49 rfl h1 h2 ?_)
        refine RL.opS trivial rfl (OpW.fieldAddr field_65_1 rfl ?_)
        obtain ⟨x77, h1, h⟩ := h
        refine RL.opS trivial rfl (OpW.load1 (v := .int .i64 x77) one_3 rfl h1 ?_)
        refine RL.opS trivial rfl (OpW.callR (al := [aggv x76, .int .i64 x77]) Try.func66 fb_66 fn_66 rfl h (fun x78 w79 h => ?_))
        refine RL.opS trivial rfl (OpW.assign (v := .int .i64 x78) rfl ?_)
        refine RL.nil ?_
        refine CW.seq ?_
        refine CW.region ?_
        refine RL.opS trivial rfl (OpW.move (v := .int .i64 x78) rfl ?_)
        refine RL.opS trivial rfl (OpW.bin (k := .i64) (a := x78) (b := 0) (v := .bool (!decide (x78 = 0))) rfl rfl rfl ?_)
        refine RL.nil ?_
        obtain ⟨ha, hc⟩ := h
        refine CW.cond (b := (!decide (x78 = 0))) rfl (fun hb80 => ?_) (fun hb80 => ?_)
        · have h := ha hb80; clear ha hc
          refine CW.seq ?_
          refine CW.region ?_
          obtain ⟨x81, h1, h2, h⟩ := h
          refine RL.opS trivial rfl (OpW.loadA agg_49 rfl h1 h2 ?_)
          refine RL.opS trivial rfl (OpW.move (v := .int .i64 x74.2) rfl ?_)
          refine RL.opS trivial rfl (OpW.move (v := .int .i64 x78) rfl ?_)
          refine RL.opS trivial rfl (OpW.bin (k := .i64) (a := x74.2) (b := x78) (v := .bool (decide (x74.2 = x78))) rfl rfl rfl ?_)
          refine RL.opS trivial rfl (OpW.move (v := .bool (decide (x74.2 = x78))) rfl ?_)
          refine jn_elim h ?_; clear h; intro k91 hk92 h
          refine RL.joinAt (A := Bool) 4 (fun s84 ρ => ρ 107 = .bool s84 ∧ ρ 6 = .pointer (some ⟨b5, 0, none⟩) ∧ ρ 99 = aggv x81) k91 ?_ ?_
          · rintro s84 ρ w85 ⟨e86, e87, e88⟩ h
            subst hk92
            dsimp only [List.drop]
            obtain ⟨g_, o_, e_, cur_, ha_, h1, h2, h3, h4, h⟩ := h
            obtain ⟨w89, hw89_⟩ : ∃ w_, w_ = w85.setRow g_ (cur_.toList.take o_ ++ x81 ++ cur_.toList.drop (o_ + List.length x81)).toArray := ⟨_, rfl⟩
            have h := h w89 hw89_
            refine RL.opN trivial (OpW.storeAE (cs := x81) size_49 e87 e88 ha_ h1 h2 h3 h4 hw89_ ?_)
            refine RL.opS trivial rfl (OpW.assign (v := .bool s84) e86 ?_)
            refine RL.nil ?_
            refine CW.ret ?_
            obtain ⟨x90, hc1, hc2, h⟩ := h
            exact ret_intro (res2c rfl agg_49 e87 hc1 hc2 rfl) ⟨(x90, s84), rfl, h⟩
          · clear hk92
            dsimp only [List.take]
            obtain ⟨ha, hc⟩ := h
            rcases Bool.eq_false_or_eq_true (decide (x74.2 = x78)) with hb82 | hb82
            · have h := ha hb82; clear ha hc
              refine RL.opS (wanted_of rfl rfl hb82) rfl (OpW.move (v := Sl.v x74.1) rfl ?_)
              refine RL.opS (wanted_of rfl rfl hb82) rfl (OpW.len (s := x74.1) slice_39 rfl ?_)
              refine RL.opS (wanted_of rfl rfl hb82) rfl (OpW.bin (k := .i64) (a := (x74.1.len : Int)) (b := 0) (v := .bool (decide ((x74.1.len : Int) = 0))) rfl rfl rfl ?_)
              refine RL.opS trivial rfl (OpW.pick (b := true) (v := .bool (decide ((x74.1.len : Int) = 0))) (congrArg Value.bool hb82) rfl ?_)
              refine RL.nil ?_
              exact ⟨(decide ((x74.1.len : Int) = 0)), ⟨rfl, rfl, rfl⟩, h⟩
            · have h := hc hb82; clear ha hc
              refine RL.skipS (notWanted_of rfl rfl hb82) rfl ?_
              refine RL.skipS (notWanted_of rfl rfl hb82) rfl ?_
              refine RL.skipS (notWanted_of rfl rfl hb82) rfl ?_
              refine RL.opS trivial rfl (OpW.pick (b := false) (v := .bool false) (congrArg Value.bool hb82) rfl ?_)
              refine RL.nil ?_
              exact ⟨false, ⟨rfl, rfl, rfl⟩, h⟩
        · have h := hc hb80; clear ha hc
          refine CW.skip ?_
          refine CW.seq ?_
          obtain ⟨w93, hw93_⟩ : ∃ w_, w_ = w79.drew := ⟨_, rfl⟩
          have h := h w93 hw93_
          have hx94 : ExtB (some (Addr.block ⟨b5, 0, none⟩)) w79 w93 := by rw [hw93_]; exact ExtB.of (Ext.drew _)
          refine CW.draws (m := 14) (listed := #[false, false, false, false, false, false, false, false, false, false, false, false, false, false]) mixed [0, 1, 2, 3, 4, 5, 6, 7, 8, 9, 10, 11, 12, 13] (ExtB (some (Addr.block ⟨b5, 0, none⟩)) w79) rfl rfl ?_
          rw [← hw93_]
          obtain ⟨hne96, h⟩ := h
          obtain ⟨x95, h1, h2, h⟩ := h
          refine DL.takeK (listed' := #[true, false, false, false, false, false, false, false, false, false, false, false, false, false]) (v := aggv x95) 0 rfl rfl (by kernel_rfl) (by kernel_rfl) rfl trivial rfl hx94 (fun w_ hS_ K_ h_ => OpW.loadA agg_49 rfl h1 (hS_.at hne96 h2) h_) ?_
          refine DL.takeP (listed' := #[true, true, false, false, false, false, false, false, false, false, false, false, false, false]) (v := .int .i64 x74.2) 1 rfl rfl (by kernel_rfl) rfl trivial rfl (fun w_ K_ h_ => OpW.move (v := .int .i64 x74.2) rfl h_) ?_
          refine DL.takeP (listed' := #[true, true, true, false, false, false, false, false, false, false, false, false, false, false]) (v := .bool (decide (x74.2 = 0))) 2 rfl rfl (by kernel_rfl) rfl trivial rfl (fun w_ K_ h_ => OpW.bin (k := .i64) (a := x74.2) (b := 0) (v := .bool (decide (x74.2 = 0))) rfl rfl rfl h_) ?_
          refine DL.takeP (listed' := #[true, true, true, true, false, false, false, false, false, false, false, false, false, false]) (v := .bool (decide (x74.2 = 0))) 3 rfl rfl (by kernel_rfl) rfl trivial rfl (fun w_ K_ h_ => OpW.move (v := .bool (decide (x74.2 = 0))) rfl h_) ?_
          refine jn_elim h ?_; clear h; intro k117 hk118 h
          refine DL.cutS (A := Bool) (fun s108 ρ => ρ 119 = .bool s108 ∧ ρ 6 = .pointer (some ⟨b5, 0, none⟩) ∧ ρ 108 = aggv x95) k117 2 #[true, true, true, true, true, true, true, true, true, true, true, true, false, false] ?_ ?_
          · rintro s108 ρ w109 ⟨e111, e112, e113⟩ hx110 h
            subst hk118
            obtain ⟨g_, o_, e_, cur_, ha_, h1, h2, h3, h4, h⟩ := h
            obtain ⟨w114, hw114_⟩ : ∃ w_, w_ = w109.setRow g_ (cur_.toList.take o_ ++ x95 ++ cur_.toList.drop (o_ + List.length x95)).toArray := ⟨_, rfl⟩
            have h := h w114 hw114_
            refine DL.execN (listed' := #[true, true, true, true, true, true, true, true, true, true, true, true, true, false]) 12 rfl (by kernel_rfl) rfl trivial (OpW.storeAE (cs := x95) size_49 e112 e113 ha_ h1 h2 h3 h4 hw114_ ?_)
            have hx115 : ExtB (some (Addr.block ⟨b5, 0, none⟩)) w79 w114 := by
              rw [hw114_]
              refine ExtB.setRow hx110 ?_
              have hbk_ := congrArg Addr.block ha_; simp only [add_block] at hbk_; simp_all
            refine ⟨(fun _ _ => hx115), ?_⟩
            refine DL.takeP (listed' := #[true, true, true, true, true, true, true, true, true, true, true, true, true, true]) (v := .bool s108) 13 rfl rfl (by kernel_rfl) rfl trivial rfl (fun w_ K_ h_ => OpW.assign (v := .bool s108) e111 h_) ?_
            refine DL.done (by kernel_rfl) ?_
            refine CW.ret ?_
            obtain ⟨x116, hc1, hc2, h⟩ := h
            exact ret_intro (res2c rfl agg_49 e112 hc1 hc2 rfl) ⟨(x116, s108), rfl, h⟩
          · intro hJJ97; clear hk118
            obtain ⟨ha, hc⟩ := h
            rcases Bool.eq_false_or_eq_true (decide (x74.2 = 0)) with hb98 | hb98
            · have h := ha hb98; clear ha hc
              refine DL.takeP (listed' := #[true, true, true, true, true, false, false, false, false, false, false, false, false, false]) (v := Sl.v x74.1) 4 rfl rfl (by kernel_rfl) rfl (wanted_of rfl rfl hb98) rfl (fun w_ K_ h_ => OpW.move (v := Sl.v x74.1) rfl h_) ?_
              obtain ⟨hne100, h⟩ := h
              obtain ⟨x99, h1, h2, h⟩ := h
              refine DL.takeK (listed' := #[true, true, true, true, true, true, false, false, false, false, false, false, false, false]) (v := str x99) 5 rfl rfl (by kernel_rfl) (by kernel_rfl) rfl (wanted_of rfl rfl hb98) rfl hx94 (fun w_ hS_ K_ h_ => OpW.b2s bsl_39 str_9 rfl h1 (hS_.atO hne100 h2) h_) ?_
              obtain ⟨hne102, h⟩ := h
              obtain ⟨x101, h1, h2, h⟩ := h
              refine DL.takeK (listed' := #[true, true, true, true, true, true, true, false, false, false, false, false, false, false]) (v := aggv x101) 6 rfl rfl (by kernel_rfl) (by kernel_rfl) rfl (wanted_of rfl rfl hb98) rfl hx94 (fun w_ hS_ K_ h_ => OpW.loadA agg_49 rfl h1 (hS_.at hne102 h2) h_) ?_
              refine DL.takeP (listed' := #[true, true, true, true, true, true, true, true, false, false, false, false, false, false]) (v := .pointer (some (Addr.add ⟨b3, 0, none⟩ 1))) 7 rfl rfl (by kernel_rfl) rfl (wanted_of rfl rfl hb98) rfl (fun w_ K_ h_ => OpW.fieldAddr field_65_1 rfl h_) ?_
              obtain ⟨hne104, h⟩ := h
              obtain ⟨x103, h1, h⟩ := h
              refine DL.takeK (listed' := #[true, true, true, true, true, true, true, true, true, false, false, false, false, false]) (v := .int .i64 x103) 8 rfl rfl (by kernel_rfl) (by kernel_rfl) rfl (wanted_of rfl rfl hb98) rfl hx94 (fun w_ hS_ K_ h_ => OpW.load1 (v := .int .i64 x103) one_3 rfl (hS_.cell hne104 h1) h_) ?_
              refine DL.execS (listed' := #[true, true, true, true, true, true, true, true, true, true, false, false, false, false]) 9 rfl (by kernel_rfl) rfl (wanted_of rfl rfl hb98) rfl (OpW.callR (al := [aggv x101, .int .i64 x103]) Try.func29 fb_29 fn_29 rfl h (fun x105 w106 h => ?_))
              obtain ⟨hxc_, h⟩ := h
              have hx107 := ExtB.trans_ext hx94 hxc_
              refine ⟨(fun _ _ => hx107), ?_⟩
              refine DL.takeP (listed' := #[true, true, true, true, true, true, true, true, true, true, true, false, false, false]) (v := .bool (decide (x99 = x105))) 10 rfl rfl (by kernel_rfl) rfl (wanted_of rfl rfl hb98) rfl (fun w_ K_ h_ => OpW.strCmp (b := decide (x99 = x105)) rfl rfl rfl h_) ?_
              refine DL.takeP (listed' := #[true, true, true, true, true, true, true, true, true, true, true, true, false, false]) (v := .bool (decide (x99 = x105))) 11 rfl rfl (by kernel_rfl) rfl trivial rfl (fun w_ K_ h_ => OpW.pick (b := true) (v := .bool (decide (x99 = x105))) (congrArg Value.bool hb98) rfl h_) ?_
              exact hJJ97 _ _ ⟨(decide (x99 = x105)), ⟨rfl, rfl, rfl⟩, hx107, h⟩
            · have h := hc hb98; clear ha hc
              refine DL.skipP (listed' := #[true, true, true, true, true, false, false, false, false, false, false, false, false, false]) 4 rfl (by kernel_rfl) rfl (notWanted_of rfl rfl hb98) rfl ?_
              refine DL.skipP (listed' := #[true, true, true, true, true, true, false, false, false, false, false, false, false, false]) 5 rfl (by kernel_rfl) rfl (notWanted_of rfl rfl hb98) rfl ?_
              refine DL.skipP (listed' := #[true, true, true, true, true, true, true, false, false, false, false, false, false, false]) 6 rfl (by kernel_rfl) rfl (notWanted_of rfl rfl hb98) rfl ?_
              refine DL.skipP (listed' := #[true, true, true, true, true, true, true, true, false, false, false, false, false, false]) 7 rfl (by kernel_rfl) rfl (notWanted_of rfl rfl hb98) rfl ?_
              refine DL.skipP (listed' := #[true, true, true, true, true, true, true, true, true, false, false, false, false, false]) 8 rfl (by kernel_rfl) rfl (notWanted_of rfl rfl hb98) rfl ?_
              refine DL.skipX (listed' := #[true, true, true, true, true, true, true, true, true, true, false, false, false, false]) 9 rfl (by kernel_rfl) rfl (notWanted_of rfl rfl hb98) rfl ?_
              refine DL.skipP (listed' := #[true, true, true, true, true, true, true, true, true, true, true, false, false, false]) 10 rfl (by kernel_rfl) rfl (notWanted_of rfl rfl hb98) rfl ?_
              refine DL.takeP (listed' := #[true, true, true, true, true, true, true, true, true, true, true, true, false, false]) (v := .bool false) 11 rfl rfl (by kernel_rfl) rfl trivial rfl (fun w_ K_ h_ => OpW.pick (b := false) (v := .bool false) (congrArg Value.bool hb98) rfl h_) ?_
              exact hJJ97 _ _ ⟨false, ⟨rfl, rfl, rfl⟩, hx94, h⟩
      · have h := hc hb72; clear ha hc
        refine CW.seq ?_
        refine CW.region ?_
        refine RL.opS trivial rfl (OpW.bin (k := .u64) (a := (Int.tmod (IntKind.u64.wrap x7) 7)) (b := 3) (v := .bool (decide ((Int.tmod (IntKind.u64.wrap x7) 7) = 3))) rfl rfl rfl ?_)
        refine RL.opS trivial rfl (OpW.assign (v := .bool (decide ((Int.tmod (IntKind.u64.wrap x7) 7) = 3))) rfl ?_)
        refine RL.nil ?_
        obtain ⟨ha, hc⟩ := h
        refine CW.cond (b := (decide ((Int.tmod (IntKind.u64.wrap x7) 7) = 3))) rfl (fun hb119 => ?_) (fun hb119 => ?_)
        · have h := ha hb119; clear ha hc
          refine CW.seq ?_
          refine CW.region ?_
          refine RL.opS trivial rfl (OpW.move (v := .pointer p0) rfl ?_)
          refine RL.opS trivial rfl (OpW.fieldAddr field_65_5 rfl ?_)
          obtain ⟨x120, h1, h2, h⟩ := h
          refine RL.opS trivial rfl (OpW.loadA agg_27 rfl h1 h2 ?_)
          refine RL.opS trivial rfl (OpW.callR (al := [.pointer p0, aggv x120]) Try.func35 fb_35 fn_35 rfl h (fun x121 w122 h => ?_))
          refine RL.nil ?_
          refine CW.seq ?_
          refine CW.region ?_
          obtain ⟨x123, h1, h2, h⟩ := h
          refine RL.opS trivial rfl (OpW.loadA agg_49 rfl h1 h2 ?_)
          refine RL.opS trivial rfl (OpW.fieldAddr field_65_5 rfl ?_)
          obtain ⟨x124, h1, h2, h⟩ := h
          refine RL.opS trivial rfl (OpW.loadA agg_27 rfl h1 h2 ?_)
          refine RL.opS trivial rfl (OpW.callR (al := [aggv x123, aggv x124]) Try.func58 fb_58 fn_58 rfl h (fun x125 w126 h => ?_))
          obtain ⟨g_, o_, e_, cur_, ha_, h1, h2, h3, h4, h⟩ := h
          obtain ⟨w127, hw127_⟩ : ∃ w_, w_ = w126.setRow g_ (cur_.toList.take o_ ++ x125 ++ cur_.toList.drop (o_ + List.length x125)).toArray := ⟨_, rfl⟩
          have h := h w127 hw127_
          refine RL.opN trivial (OpW.storeAE (cs := x125) size_49 rfl rfl ha_ h1 h2 h3 h4 hw127_ ?_)
          refine RL.opS trivial rfl (OpW.assign (v := .bool true) rfl ?_)
          refine RL.nil ?_
          refine CW.ret ?_
          obtain ⟨x128, hc1, hc2, h⟩ := h
          exact ret_intro (res2c rfl agg_49 rfl hc1 hc2 rfl) ⟨(x128, true), rfl, h⟩
        · have h := hc hb119; clear ha hc
          refine CW.seq ?_
          refine CW.region ?_
          refine RL.opS trivial rfl (OpW.bin (k := .u64) (a := (Int.tmod (IntKind.u64.wrap x7) 7)) (b := 4) (v := .bool (decide ((Int.tmod (IntKind.u64.wrap x7) 7) = 4))) rfl rfl rfl ?_)
          refine RL.opS trivial rfl (OpW.assign (v := .bool (decide ((Int.tmod (IntKind.u64.wrap x7) 7) = 4))) rfl ?_)
          refine RL.nil ?_
          obtain ⟨ha, hc⟩ := h
          refine CW.cond (b := (decide ((Int.tmod (IntKind.u64.wrap x7) 7) = 4))) rfl (fun hb129 => ?_) (fun hb129 => ?_)
          · have h := ha hb129; clear ha hc
            refine CW.seq ?_
            refine CW.region ?_
            refine RL.opS trivial rfl (OpW.fieldAddr field_49_4 rfl ?_)
            obtain ⟨x130, h1, h⟩ := h
            refine RL.opS trivial rfl (OpW.load1 (v := .bool x130) one_4 rfl h1 ?_)
            refine RL.opS trivial rfl (OpW.assign (v := .bool x130) rfl ?_)
            refine RL.nil ?_
            refine CW.seq ?_
            refine CW.region ?_
            refine RL.opS trivial rfl (OpW.fieldAddr field_49_4 rfl ?_)
            obtain ⟨u_, h1, h2, h⟩ := h
            obtain ⟨w131, hw131_⟩ : ∃ w_, w_ = w6.setCell (Addr.add ⟨b1, 0, none⟩ 4) (.bool false) := ⟨_, rfl⟩
            have h := h w131 hw131_
            refine RL.opN trivial (OpW.store1E (v := .bool false) size_4 rfl rfl rfl h1 h2 hw131_ ?_)
            refine RL.nil ?_
            refine CW.seq ?_
            obtain ⟨X132, h⟩ := h
            obtain ⟨w133, hw133_⟩ : ∃ w_, w_ = w131.drew := ⟨_, rfl⟩
            have h := h w133 hw133_
            have hx134 : ExtX X132 w131 w133 := by rw [hw133_]; exact ExtX.of (Ext.drew _)
            refine CW.draws (m := 7) (listed := #[false, false, false, false, false, false, false]) mixed [0, 1, 2, 3, 4, 6] (ExtX X132 w131) rfl rfl ?_
            rw [← hw133_]
            obtain ⟨hne136, h⟩ := h
            obtain ⟨x135, h1, h2, h⟩ := h
            refine DL.takeK (listed' := #[true, false, false, false, false, false, false]) (v := aggv x135) 0 rfl rfl (by kernel_rfl) (by kernel_rfl) rfl trivial rfl hx134 (fun w_ hS_ K_ h_ => OpW.loadA agg_49 rfl h1 (hS_.at hne136 h2) h_) ?_
            refine DL.takeP (listed' := #[true, true, false, false, false, false, false]) (v := .pointer p0) 1 rfl rfl (by kernel_rfl) rfl trivial rfl (fun w_ K_ h_ => OpW.move (v := .pointer p0) rfl h_) ?_
            refine DL.takeP (listed' := #[true, true, false, true, false, false, false]) (v := .bool x130) 3 rfl rfl (by kernel_rfl) rfl trivial rfl (fun w_ K_ h_ => OpW.move (v := .bool x130) rfl h_) ?_
            refine DL.execS (listed' := #[true, true, true, true, false, false, false]) 2 rfl (by kernel_rfl) rfl trivial rfl (OpW.callR (al := [.pointer p0]) Try.func27 fb_27 fn_27 rfl h (fun x137 w138 h => ?_))
            obtain ⟨hxc_, h⟩ := h
            have hx139 := ExtX.trans hx134 hxc_
            refine ⟨(fun _ _ => hx139), ?_⟩
            refine DL.takeP (listed' := #[true, true, true, true, true, false, false]) (v := .bool (x137 == x130)) 4 rfl rfl (by kernel_rfl) rfl trivial rfl (fun w_ K_ h_ => OpW.boolCmp (b := x137 == x130) ub_4 rfl rfl rfl h_) ?_
            obtain ⟨g_, o_, e_, cur_, ha_, h1, h2, h3, h4, h⟩ := h
            obtain ⟨w140, hw140_⟩ : ∃ w_, w_ = w138.setRow g_ (cur_.toList.take o_ ++ x135 ++ cur_.toList.drop (o_ + List.length x135)).toArray := ⟨_, rfl⟩
            have h := h w140 hw140_
            refine DL.execN (listed' := #[true, true, true, true, true, true, false]) 5 rfl (by kernel_rfl) rfl trivial (OpW.storeAE (cs := x135) size_49 rfl rfl ha_ h1 h2 h3 h4 hw140_ ?_)
            refine ⟨(fun h_ => absurd h_ (by decide)), ?_⟩
            refine DL.takeP (listed' := #[true, true, true, true, true, true, true]) (v := .bool (x137 == x130)) 6 rfl rfl (by kernel_rfl) rfl trivial rfl (fun w_ K_ h_ => OpW.assign (v := .bool (x137 == x130)) rfl h_) ?_
            refine DL.done (by kernel_rfl) ?_
            refine CW.ret ?_
            obtain ⟨x141, hc1, hc2, h⟩ := h
            exact ret_intro (res2c rfl agg_49 rfl hc1 hc2 rfl) ⟨(x141, (x137 == x130)), rfl, h⟩
          · have h := hc hb129; clear ha hc
            refine CW.seq ?_
            refine CW.region ?_
            refine RL.opS trivial rfl (OpW.bin (k := .u64) (a := (Int.tmod (IntKind.u64.wrap x7) 7)) (b := 5) (v := .bool (decide ((Int.tmod (IntKind.u64.wrap x7) 7) = 5))) rfl rfl rfl ?_)
            refine RL.opS trivial rfl (OpW.assign (v := .bool (decide ((Int.tmod (IntKind.u64.wrap x7) 7) = 5))) rfl ?_)
            refine RL.nil ?_
            obtain ⟨ha, hc⟩ := h
            refine CW.cond (b := (decide ((Int.tmod (IntKind.u64.wrap x7) 7) = 5))) rfl (fun hb142 => ?_) (fun hb142 => ?_)
            · have h := ha hb142; clear ha hc
              refine CW.seq ?_
              refine CW.region ?_
              obtain ⟨b143, hb143_⟩ : ∃ b_, b_ = w6.heap.size := ⟨_, rfl⟩
              obtain ⟨w144, hw144_⟩ : ∃ w_, w_ = w6.alloc (.cells (List.toArray []) 27) := ⟨_, rfl⟩
              have h := h b143 w144 hb143_ hw144_
              refine RL.opS trivial rfl (OpW.buildSliceE (vs := []) (cs := []) (by rfl) (by kernel_rfl) hb143_ hw144_ ?_)
              refine RL.opS trivial rfl (OpW.fieldAddr field_65_6 rfl ?_)
              obtain ⟨x145, h1, h⟩ := h
              refine RL.opS trivial rfl (OpW.load1 (v := Sl.v x145) one_47 rfl h1 ?_)
              obtain ⟨x146, w147, hr_, h⟩ := h
              refine RL.opS trivial rfl (OpW.appendL (v := Sl.v x146) rfl hr_ ?_)
              refine RL.opS trivial rfl (OpW.assign (v := Sl.v x146) rfl ?_)
              refine RL.nil ?_
              refine CW.seq ?_
              refine CW.region ?_
              refine RL.opS trivial rfl (OpW.move (v := .pointer p0) rfl ?_)
              refine RL.opS trivial rfl (OpW.move (v := Sl.v x146) rfl ?_)
              refine RL.opS trivial rfl (OpW.callR (al := [.pointer p0, Sl.v x146]) Try.func37 fb_37 fn_37 rfl h (fun x148 w149 h => ?_))
              refine RL.nil ?_
              refine CW.seq ?_
              refine CW.seq ?_
              refine CW.region ?_
              refine RL.opS trivial rfl (OpW.move (v := Sl.v x146) rfl ?_)
              refine RL.opS trivial rfl (OpW.len (s := x146) slice_47 rfl ?_)
              refine RL.opS trivial rfl (OpW.move (v := .int .i64 0) rfl ?_)
              refine RL.nil ?_
              refine CW.block ?_
              obtain ⟨I171, mu172, hI, hs⟩ := h
              refine CW.loop (σ := Int) (fun s150 ρ => ρ 151 = .int .i64 s150 ∧ ρ 0 = .pointer p0 ∧ ρ 4 = .pointer (some ⟨b1, 0, none⟩) ∧ ρ 5 = .pointer (some ⟨b3, 0, none⟩) ∧ ρ 6 = .pointer (some ⟨b5, 0, none⟩) ∧ ρ 20 = Sl.v x146 ∧ ρ 150 = .int .i64 (x146.len : Int)) I171 mu172 0 ⟨rfl, rfl, rfl, rfl, rfl, rfl, rfl⟩ hI ?_
              rintro s150 ρ w151 ⟨e153, e154, e155, e156, e157, e158, e159⟩ hI
              have h := hs s150 w151 hI
              clear hs hI
              refine CW.seq ?_
              refine CW.region ?_
              refine RL.opS trivial rfl (OpW.bin (k := .i64) (a := s150) (b := (x146.len : Int)) (v := .bool (decide (s150 < (x146.len : Int)))) e153 e159 rfl ?_)
              refine RL.nil ?_
              refine CW.seq ?_
              obtain ⟨ha, hc⟩ := h
              refine CW.cond (b := (decide (s150 < (x146.len : Int)))) rfl (fun hb160 => ?_) (fun hb160 => ?_)
              · have h := ha hb160; clear ha hc
                refine CW.skip ?_
                refine CW.seq ?_
                refine CW.block ?_
                refine CW.seq ?_
                refine CW.region ?_
                refine RL.opS trivial rfl (OpW.move (v := .int .i64 s150) e153 ?_)
                refine RL.opS trivial rfl (OpW.assign (v := .int .i64 s150) rfl ?_)
                refine RL.nil ?_
                refine CW.region ?_
                refine RL.opS trivial rfl (OpW.move (v := Sl.v x146) e158 ?_)
                refine RL.opS trivial rfl (OpW.move (v := .int .i64 s150) rfl ?_)
                refine RL.opS trivial rfl (OpW.move (v := .pointer p0) e154 ?_)
                refine RL.opS trivial rfl (OpW.callR (al := [.pointer p0]) Try.func19 fb_19 fn_19 rfl h (fun x161 w162 h => ?_))
                refine RL.opS trivial rfl (OpW.buildL (vs := [(0, .int .i64 x161)]) (cs := [.int .i64 x161, Value.int .u64 0, Value.int .i64 0]) (by rfl) (fun _ => by kernel_rfl) ?_)
                obtain ⟨a163_, a163, h1, h2, h3, h4, h⟩ := h
                refine RL.opS trivial rfl (OpW.indexE (a' := a163) slice_47 rfl rfl h1 h2 h3 h4 ?_)
                obtain ⟨g_, o_, e_, cur_, ha_, h1, h2, h3, h4, h⟩ := h
                obtain ⟨w165, hw165_⟩ : ∃ w_, w_ = w162.setRow g_ (cur_.toList.take o_ ++ [.int .i64 x161, Value.int .u64 0, Value.int .i64 0] ++ cur_.toList.drop (o_ + List.length [.int .i64 x161, Value.int .u64 0, Value.int .i64 0])).toArray := ⟨_, rfl⟩
                have h := h w165 hw165_
                refine RL.opN trivial (OpW.storeAE (cs := [.int .i64 x161, Value.int .u64 0, Value.int .i64 0]) size_27 rfl rfl ha_ h1 h2 h3 h4 hw165_ ?_)
                refine RL.nil ?_
                refine CW.region ?_
                refine RL.opS trivial rfl (OpW.bin (k := .i64) (a := s150) (b := 1) (v := .int .i64 (IntKind.i64.wrap (s150 + 1))) e153 rfl rfl ?_)
                refine RL.opS trivial rfl (OpW.move (v := .int .i64 (IntKind.i64.wrap (s150 + 1))) rfl ?_)
                refine RL.nil ?_
                exact ⟨(IntKind.i64.wrap (s150 + 1)), ⟨rfl, e154, e155, e156, e157, e158, e159⟩, h⟩
              · have h := hc hb160; clear ha hc
                refine CW.exit ?_
                refine CW.seq ?_
                refine CW.region ?_
                refine RL.opS trivial rfl (OpW.fieldAddr field_65_6 e156 ?_)
                obtain ⟨x166, h1, h⟩ := h
                refine RL.opS trivial rfl (OpW.load1 (v := Sl.v x166) one_47 rfl h1 ?_)
                refine RL.opS trivial rfl (OpW.fieldAddr field_49_2 e155 ?_)
                obtain ⟨u_, h1, h2, h⟩ := h
                obtain ⟨w167, hw167_⟩ : ∃ w_, w_ = w151.setCell (Addr.add ⟨b1, 0, none⟩ 2) (Sl.v x166) := ⟨_, rfl⟩
                have h := h w167 hw167_
                refine RL.opN trivial (OpW.store1E (v := Sl.v x166) size_47 rfl rfl rfl h1 h2 hw167_ ?_)
                refine RL.nil ?_
                refine CW.seq ?_
                refine CW.region ?_
                obtain ⟨x168, h1, h2, h⟩ := h
                refine RL.opS trivial rfl (OpW.loadA agg_49 e155 h1 h2 ?_)
                obtain ⟨g_, o_, e_, cur_, ha_, h1, h2, h3, h4, h⟩ := h
                obtain ⟨w169, hw169_⟩ : ∃ w_, w_ = w167.setRow g_ (cur_.toList.take o_ ++ x168 ++ cur_.toList.drop (o_ + List.length x168)).toArray := ⟨_, rfl⟩
                have h := h w169 hw169_
                refine RL.opN trivial (OpW.storeAE (cs := x168) size_49 e157 rfl ha_ h1 h2 h3 h4 hw169_ ?_)
                refine RL.opS trivial rfl (OpW.assign (v := .bool true) rfl ?_)
                refine RL.nil ?_
                refine CW.ret ?_
                obtain ⟨x170, hc1, hc2, h⟩ := h
                exact ret_intro (res2c rfl agg_49 e157 hc1 hc2 rfl) ⟨(x170, true), rfl, h⟩
            · have h := hc hb142; clear ha hc
              refine CW.skip ?_
              refine CW.seq ?_
              refine CW.region ?_
              refine RL.opS trivial rfl (OpW.move (v := .pointer p0) rfl ?_)
              refine RL.opS trivial rfl (OpW.callR (al := [.pointer p0]) Try.func36 fb_36 fn_36 rfl h (fun x173 w174 h => ?_))
              refine RL.opS trivial rfl (OpW.assign (v := .pointer x173) rfl ?_)
              refine RL.nil ?_
              refine CW.seq ?_
              obtain ⟨w175, hw175_⟩ : ∃ w_, w_ = w174.drew := ⟨_, rfl⟩
              have h := h w175 hw175_
              have hx176 : Ext w174 w175 := by rw [hw175_]; exact Ext.drew _
              refine CW.draws (m := 8) (listed := #[false, false, false, false, false, false, false, false]) mixed [0, 1, 2, 3, 4, 5, 7] (Ext w174) rfl rfl ?_
              rw [← hw175_]
              refine DL.takeP (listed' := #[true, false, false, false, false, false, false, false]) (v := .pointer x173) 0 rfl rfl (by kernel_rfl) rfl trivial rfl (fun w_ K_ h_ => OpW.move (v := .pointer x173) rfl h_) ?_
              refine DL.takeP (listed' := #[true, true, false, false, false, false, false, false]) (v := .pointer (some (Addr.add ⟨b3, 0, none⟩ 1))) 1 rfl rfl (by kernel_rfl) rfl trivial rfl (fun w_ K_ h_ => OpW.fieldAddr field_65_1 rfl h_) ?_
              obtain ⟨x177, h1, h⟩ := h
              refine DL.takeK (listed' := #[true, true, true, false, false, false, false, false]) (v := .int .i64 x177) 2 rfl rfl (by kernel_rfl) (by kernel_rfl) rfl trivial rfl hx176 (fun w_ hS_ K_ h_ => OpW.load1 (v := .int .i64 x177) one_3 rfl (hS_.cell h1) h_) ?_
              refine DL.takeP (listed' := #[true, true, true, true, false, false, false, false]) (v := .pointer (some (Addr.add ⟨b3, 0, none⟩ 2))) 3 rfl rfl (by kernel_rfl) rfl trivial rfl (fun w_ K_ h_ => OpW.fieldAddr field_65_2 rfl h_) ?_
              obtain ⟨x178, h1, h⟩ := h
              refine DL.takeK (listed' := #[true, true, true, true, true, false, false, false]) (v := .int .u8 x178) 4 rfl rfl (by kernel_rfl) (by kernel_rfl) rfl trivial rfl hx176 (fun w_ hS_ K_ h_ => OpW.load1 (v := .int .u8 x178) one_5 rfl (hS_.cell h1) h_) ?_
              refine DL.execS (listed' := #[true, true, true, true, true, true, false, false]) 5 rfl (by kernel_rfl) rfl trivial rfl (OpW.callR (al := [.int .u8 x178, str [99, 108, 111, 110, 101]]) Try.func32 fb_32 fn_32 rfl h (fun x179 w180 h => ?_))
              obtain ⟨hx181, h⟩ := h
              refine ⟨(fun _ _ => hx181), ?_⟩
              refine DL.execS (listed' := #[true, true, true, true, true, true, true, false]) 6 rfl (by kernel_rfl) rfl trivial rfl (OpW.callR (al := [.pointer x173, .int .i64 x177, Sl.v x179]) Try.func33 fb_33 fn_33 rfl h (fun x182 w183 h => ?_))
              refine ⟨(fun h_ => absurd h_ (by decide)), ?_⟩
              refine DL.takeP (listed' := #[true, true, true, true, true, true, true, true]) (v := .int .i64 x182) 7 rfl rfl (by kernel_rfl) rfl trivial rfl (fun w_ K_ h_ => OpW.assign (v := .int .i64 x182) rfl h_) ?_
              refine DL.done (by kernel_rfl) ?_
              refine CW.seq ?_
              refine CW.region ?_
              refine RL.opS trivial rfl (OpW.move (v := .pointer x173) rfl ?_)
              refine RL.opS trivial rfl (OpW.callR (al := [.pointer x173]) Try.func34 fb_34 fn_34 rfl h (fun x184 w185 h => ?_))
              refine RL.opS trivial rfl (OpW.assign (v := .int .i64 x184) rfl ?_)
              refine RL.nil ?_
              refine CW.seq ?_
              obtain ⟨w186, hw186_⟩ : ∃ w_, w_ = w185.drew := ⟨_, rfl⟩
              have h := h w186 hw186_
              have hx187 : ExtB (some (Addr.block ⟨b5, 0, none⟩)) w185 w186 := by rw [hw186_]; exact ExtB.of (Ext.drew _)
              refine CW.draws (m := 24) (listed := #[false, false, false, false, false, false, false, false, false, false, false, false, false, false, false, false, false, false, false, false, false, false, false, false]) mixed [0, 1, 2, 3, 4, 5, 6, 7, 8, 9, 10, 11, 12, 13, 14, 15, 16, 17, 18, 19, 20, 21, 22, 23] (ExtB (some (Addr.block ⟨b5, 0, none⟩)) w185) rfl rfl ?_
              rw [← hw186_]
              obtain ⟨hne189, h⟩ := h
              obtain ⟨x188, h1, h2, h⟩ := h
              refine DL.takeK (listed' := #[true, false, false, false, false, false, false, false, false, false, false, false, false, false, false, false, false, false, false, false, false, false, false, false]) (v := aggv x188) 0 rfl rfl (by kernel_rfl) (by kernel_rfl) rfl trivial rfl hx187 (fun w_ hS_ K_ h_ => OpW.loadA agg_49 rfl h1 (hS_.at hne189 h2) h_) ?_
              refine DL.takeP (listed' := #[true, true, false, false, false, false, false, false, false, false, false, false, false, false, false, false, false, false, false, false, false, false, false, false]) (v := .int .i64 x182) 1 rfl rfl (by kernel_rfl) rfl trivial rfl (fun w_ K_ h_ => OpW.move (v := .int .i64 x182) rfl h_) ?_
              obtain ⟨hne191, h⟩ := h
              obtain ⟨x190, h1, h2, h⟩ := h
              refine DL.takeK (listed' := #[true, true, true, false, false, false, false, false, false, false, false, false, false, false, false, false, false, false, false, false, false, false, false, false]) (v := aggv x190) 2 rfl rfl (by kernel_rfl) (by kernel_rfl) rfl trivial rfl hx187 (fun w_ hS_ K_ h_ => OpW.loadA agg_49 rfl h1 (hS_.at hne191 h2) h_) ?_
              refine DL.takeP (listed' := #[true, true, true, true, false, false, false, false, false, false, false, false, false, false, false, false, false, false, false, false, false, false, false, false]) (v := .pointer (some (Addr.add ⟨b3, 0, none⟩ 1))) 3 rfl rfl (by kernel_rfl) rfl trivial rfl (fun w_ K_ h_ => OpW.fieldAddr field_65_1 rfl h_) ?_
              obtain ⟨hne193, h⟩ := h
              obtain ⟨x192, h1, h⟩ := h
              refine DL.takeK (listed' := #[true, true, true, true, true, false, false, false, false, false, false, false, false, false, false, false, false, false, false, false, false, false, false, false]) (v := .int .i64 x192) 4 rfl rfl (by kernel_rfl) (by kernel_rfl) rfl trivial rfl hx187 (fun w_ hS_ K_ h_ => OpW.load1 (v := .int .i64 x192) one_3 rfl (hS_.cell hne193 h1) h_) ?_
              refine DL.execS (listed' := #[true, true, true, true, true, true, false, false, false, false, false, false, false, false, false, false, false, false, false, false, false, false, false, false]) 5 rfl (by kernel_rfl) rfl trivial rfl (OpW.callR (al := [aggv x190, .int .i64 x192]) Try.func66 fb_66 fn_66 rfl h (fun x194 w195 h => ?_))
              obtain ⟨hxc_, h⟩ := h
              have hx196 := ExtB.trans_ext hx187 hxc_
              refine ⟨(fun _ _ => hx196), ?_⟩
              refine DL.takeP (listed' := #[true, true, true, true, true, true, true, false, false, false, false, false, false, false, false, false, false, false, false, false, false, false, false, false]) (v := .bool (decide (x182 = x194))) 6 rfl rfl (by kernel_rfl) rfl trivial rfl (fun w_ K_ h_ => OpW.bin (k := .i64) (a := x182) (b := x194) (v := .bool (decide (x182 = x194))) rfl rfl rfl h_) ?_
              refine DL.takeP (listed' := #[true, true, true, true, true, true, true, true, false, false, false, false, false, false, false, false, false, false, false, false, false, false, false, false]) (v := .bool (decide (x182 = x194))) 7 rfl rfl (by kernel_rfl) rfl trivial rfl (fun w_ K_ h_ => OpW.move (v := .bool (decide (x182 = x194))) rfl h_) ?_
              refine jn_elim h ?_; clear h; intro k227 hk228 h
              refine DL.cutS (A := Bool) (fun s201 ρ => ρ 190 = .bool s201 ∧ ρ 4 = .pointer (some ⟨b1, 0, none⟩) ∧ ρ 6 = .pointer (some ⟨b5, 0, none⟩) ∧ ρ 22 = .pointer x173 ∧ ρ 176 = aggv x188) k227 9 #[true, true, true, true, true, true, true, true, true, true, true, true, true, true, true, false, false, false, false, false, false, false, false, false] ?_ ?_
              · rintro s201 ρ w202 ⟨e204, e205, e206, e207, e208⟩ hx203 h
                subst hk228
                refine DL.takeP (listed' := #[true, true, true, true, true, true, true, true, true, true, true, true, true, true, true, true, false, false, false, false, false, false, false, false]) (v := .bool s201) 15 rfl rfl (by kernel_rfl) rfl trivial rfl (fun w_ K_ h_ => OpW.move (v := .bool s201) e204 h_) ?_
                refine jn_elim h ?_; clear h; intro k225 hk226 h
                refine DL.cutS (A := Bool) (fun s216 ρ => ρ 197 = .bool s216 ∧ ρ 6 = .pointer (some ⟨b5, 0, none⟩) ∧ ρ 176 = aggv x188) k225 2 #[true, true, true, true, true, true, true, true, true, true, true, true, true, true, true, true, true, true, true, true, true, true, false, false] ?_ ?_
                · rintro s216 ρ w217 ⟨e219, e220, e221⟩ hx218 h
                  subst hk226
                  obtain ⟨g_, o_, e_, cur_, ha_, h1, h2, h3, h4, h⟩ := h
                  obtain ⟨w222, hw222_⟩ : ∃ w_, w_ = w217.setRow g_ (cur_.toList.take o_ ++ x188 ++ cur_.toList.drop (o_ + List.length x188)).toArray := ⟨_, rfl⟩
                  have h := h w222 hw222_
                  refine DL.execN (listed' := #[true, true, true, true, true, true, true, true, true, true, true, true, true, true, true, true, true, true, true, true, true, true, true, false]) 22 rfl (by kernel_rfl) rfl trivial (OpW.storeAE (cs := x188) size_49 e220 e221 ha_ h1 h2 h3 h4 hw222_ ?_)
                  have hx223 : ExtB (some (Addr.block ⟨b5, 0, none⟩)) w185 w222 := by
                    rw [hw222_]
                    refine ExtB.setRow hx218 ?_
                    have hbk_ := congrArg Addr.block ha_; simp only [add_block] at hbk_; simp_all
                  refine ⟨(fun _ _ => hx223), ?_⟩
                  refine DL.takeP (listed' := #[true, true, true, true, true, true, true, true, true, true, true, true, true, true, true, true, true, true, true, true, true, true, true, true]) (v := .bool s216) 23 rfl rfl (by kernel_rfl) rfl trivial rfl (fun w_ K_ h_ => OpW.assign (v := .bool s216) e219 h_) ?_
                  refine DL.done (by kernel_rfl) ?_
                  refine CW.ret ?_
                  obtain ⟨x224, hc1, hc2, h⟩ := h
                  exact ret_intro (res2c rfl agg_49 e220 hc1 hc2 rfl) ⟨(x224, s216), rfl, h⟩
                · intro hJJ209; clear hk226
                  obtain ⟨ha, hc⟩ := h
                  rcases Bool.eq_false_or_eq_true s201 with hb210 | hb210
                  · have h := ha hb210; clear ha hc
                    refine DL.takeP (listed' := #[true, true, true, true, true, true, true, true, true, true, true, true, true, true, true, true, true, false, false, false, false, false, false, false]) (v := .pointer x173) 16 rfl rfl (by kernel_rfl) rfl (wanted_of rfl rfl hb210) rfl (fun w_ K_ h_ => OpW.move (v := .pointer x173) e207 h_) ?_
                    refine DL.takeP (listed' := #[true, true, true, true, true, true, true, true, true, true, true, true, true, true, true, true, true, false, true, false, false, false, false, false]) (v := .pointer (some (Addr.add ⟨b1, 0, none⟩ 4))) 18 rfl rfl (by kernel_rfl) rfl (wanted_of rfl rfl hb210) rfl (fun w_ K_ h_ => OpW.fieldAddr field_49_4 e205 h_) ?_
                    obtain ⟨hne212, h⟩ := h
                    obtain ⟨x211, h1, h⟩ := h
                    refine DL.takeK (listed' := #[true, true, true, true, true, true, true, true, true, true, true, true, true, true, true, true, true, false, true, true, false, false, false, false]) (v := .bool x211) 19 rfl rfl (by kernel_rfl) (by kernel_rfl) rfl (wanted_of rfl rfl hb210) rfl hx203 (fun w_ hS_ K_ h_ => OpW.load1 (v := .bool x211) one_4 rfl (hS_.cell hne212 h1) h_) ?_
                    refine DL.execS (listed' := #[true, true, true, true, true, true, true, true, true, true, true, true, true, true, true, true, true, true, true, true, false, false, false, false]) 17 rfl (by kernel_rfl) rfl (wanted_of rfl rfl hb210) rfl (OpW.callR (al := [.pointer x173]) Try.func38 fb_38 fn_38 rfl h (fun x213 w214 h => ?_))
                    obtain ⟨hxc_, h⟩ := h
                    have hx215 := ExtB.trans_ext hx203 hxc_
                    refine ⟨(fun _ _ => hx215), ?_⟩
                    refine DL.takeP (listed' := #[true, true, true, true, true, true, true, true, true, true, true, true, true, true, true, true, true, true, true, true, true, false, false, false]) (v := .bool (x213 == x211)) 20 rfl rfl (by kernel_rfl) rfl (wanted_of rfl rfl hb210) rfl (fun w_ K_ h_ => OpW.boolCmp (b := x213 == x211) ub_4 rfl rfl rfl h_) ?_
                    refine DL.takeP (listed' := #[true, true, true, true, true, true, true, true, true, true, true, true, true, true, true, true, true, true, true, true, true, true, false, false]) (v := .bool (x213 == x211)) 21 rfl rfl (by kernel_rfl) rfl trivial rfl (fun w_ K_ h_ => OpW.pick (b := true) (v := .bool (x213 == x211)) (congrArg Value.bool hb210) rfl h_) ?_
                    exact hJJ209 _ _ ⟨(x213 == x211), ⟨rfl, e206, e208⟩, hx215, h⟩
                  · have h := hc hb210; clear ha hc
                    refine DL.skipP (listed' := #[true, true, true, true, true, true, true, true, true, true, true, true, true, true, true, true, true, false, false, false, false, false, false, false]) 16 rfl (by kernel_rfl) rfl (notWanted_of rfl rfl hb210) rfl ?_
                    refine DL.skipP (listed' := #[true, true, true, true, true, true, true, true, true, true, true, true, true, true, true, true, true, false, true, false, false, false, false, false]) 18 rfl (by kernel_rfl) rfl (notWanted_of rfl rfl hb210) rfl ?_
                    refine DL.skipP (listed' := #[true, true, true, true, true, true, true, true, true, true, true, true, true, true, true, true, true, false, true, true, false, false, false, false]) 19 rfl (by kernel_rfl) rfl (notWanted_of rfl rfl hb210) rfl ?_
                    refine DL.skipX (listed' := #[true, true, true, true, true, true, true, true, true, true, true, true, true, true, true, true, true, true, true, true, false, false, false, false]) 17 rfl (by kernel_rfl) rfl (notWanted_of rfl rfl hb210) rfl ?_
                    refine DL.skipP (listed' := #[true, true, true, true, true, true, true, true, true, true, true, true, true, true, true, true, true, true, true, true, true, false, false, false]) 20 rfl (by kernel_rfl) rfl (notWanted_of rfl rfl hb210) rfl ?_
                    refine DL.takeP (listed' := #[true, true, true, true, true, true, true, true, true, true, true, true, true, true, true, true, true, true, true, true, true, true, false, false]) (v := .bool false) 21 rfl rfl (by kernel_rfl) rfl trivial rfl (fun w_ K_ h_ => OpW.pick (b := false) (v := .bool false) (congrArg Value.bool hb210) rfl h_) ?_
                    exact hJJ209 _ _ ⟨false, ⟨rfl, e206, e208⟩, hx203, h⟩
              · intro hJJ197; clear hk228
                obtain ⟨ha, hc⟩ := h
                rcases Bool.eq_false_or_eq_true (decide (x182 = x194)) with hb198 | hb198
                · have h := ha hb198; clear ha hc
                  refine DL.takeP (listed' := #[true, true, true, true, true, true, true, true, true, false, false, false, false, false, false, false, false, false, false, false, false, false, false, false]) (v := .int .i64 x184) 8 rfl rfl (by kernel_rfl) rfl (wanted_of rfl rfl hb198) rfl (fun w_ K_ h_ => OpW.move (v := .int .i64 x184) rfl h_) ?_
                  refine DL.takeP (listed' := #[true, true, true, true, true, true, true, true, true, true, false, false, false, false, false, false, false, false, false, false, false, false, false, false]) (v := .bool (decide (x184 = 0))) 9 rfl rfl (by kernel_rfl) rfl (wanted_of rfl rfl hb198) rfl (fun w_ K_ h_ => OpW.bin (k := .i64) (a := x184) (b := 0) (v := .bool (decide (x184 = 0))) rfl rfl rfl h_) ?_
                  refine DL.takeP (listed' := #[true, true, true, true, true, true, true, true, true, true, true, false, false, false, false, false, false, false, false, false, false, false, false, false]) (v := .pointer (some (Addr.add ⟨b1, 0, none⟩ 4))) 10 rfl rfl (by kernel_rfl) rfl (wanted_of rfl rfl hb198) rfl (fun w_ K_ h_ => OpW.fieldAddr field_49_4 rfl h_) ?_
                  obtain ⟨hne200, h⟩ := h
                  obtain ⟨x199, h1, h⟩ := h
                  refine DL.takeK (listed' := #[true, true, true, true, true, true, true, true, true, true, true, true, false, false, false, false, false, false, false, false, false, false, false, false]) (v := .bool x199) 11 rfl rfl (by kernel_rfl) (by kernel_rfl) rfl (wanted_of rfl rfl hb198) rfl hx196 (fun w_ hS_ K_ h_ => OpW.load1 (v := .bool x199) one_4 rfl (hS_.cell hne200 h1) h_) ?_
                  refine DL.takeP (listed' := #[true, true, true, true, true, true, true, true, true, true, true, true, true, false, false, false, false, false, false, false, false, false, false, false]) (v := .bool (!x199)) 12 rfl rfl (by kernel_rfl) rfl (wanted_of rfl rfl hb198) rfl (fun w_ K_ h_ => OpW.not rfl h_) ?_
                  refine DL.takeP (listed' := #[true, true, true, true, true, true, true, true, true, true, true, true, true, true, false, false, false, false, false, false, false, false, false, false]) (v := .bool ((decide (x184 = 0)) == (!x199))) 13 rfl rfl (by kernel_rfl) rfl (wanted_of rfl rfl hb198) rfl (fun w_ K_ h_ => OpW.boolCmp (b := (decide (x184 = 0)) == (!x199)) ub_4 rfl rfl rfl h_) ?_
                  refine DL.takeP (listed' := #[true, true, true, true, true, true, true, true, true, true, true, true, true, true, true, false, false, false, false, false, false, false, false, false]) (v := .bool ((decide (x184 = 0)) == (!x199))) 14 rfl rfl (by kernel_rfl) rfl trivial rfl (fun w_ K_ h_ => OpW.pick (b := true) (v := .bool ((decide (x184 = 0)) == (!x199))) (congrArg Value.bool hb198) rfl h_) ?_
                  exact hJJ197 _ _ ⟨((decide (x184 = 0)) == (!x199)), ⟨rfl, rfl, rfl, rfl, rfl⟩, hx196, h⟩
                · have h := hc hb198; clear ha hc
                  refine DL.skipP (listed' := #[true, true, true, true, true, true, true, true, true, false, false, false, false, false, false, false, false, false, false, false, false, false, false, false]) 8 rfl (by kernel_rfl) rfl (notWanted_of rfl rfl hb198) rfl ?_
                  refine DL.skipP (listed' := #[true, true, true, true, true, true, true, true, true, true, false, false, false, false, false, false, false, false, false, false, false, false, false, false]) 9 rfl (by kernel_rfl) rfl (notWanted_of rfl rfl hb198) rfl ?_
                  refine DL.skipP (listed' := #[true, true, true, true, true, true, true, true, true, true, true, false, false, false, false, false, false, false, false, false, false, false, false, false]) 10 rfl (by kernel_rfl) rfl (notWanted_of rfl rfl hb198) rfl ?_
                  refine DL.skipP (listed' := #[true, true, true, true, true, true, true, true, true, true, true, true, false, false, false, false, false, false, false, false, false, false, false, false]) 11 rfl (by kernel_rfl) rfl (notWanted_of rfl rfl hb198) rfl ?_
                  refine DL.skipP (listed' := #[true, true, true, true, true, true, true, true, true, true, true, true, true, false, false, false, false, false, false, false, false, false, false, false]) 12 rfl (by kernel_rfl) rfl (notWanted_of rfl rfl hb198) rfl ?_
                  refine DL.skipP (listed' := #[true, true, true, true, true, true, true, true, true, true, true, true, true, true, false, false, false, false, false, false, false, false, false, false]) 13 rfl (by kernel_rfl) rfl (notWanted_of rfl rfl hb198) rfl ?_
                  refine DL.takeP (listed' := #[true, true, true, true, true, true, true, true, true, true, true, true, true, true, true, false, false, false, false, false, false, false, false, false]) (v := .bool false) 14 rfl rfl (by kernel_rfl) rfl trivial rfl (fun w_ K_ h_ => OpW.pick (b := false) (v := .bool false) (congrArg Value.bool hb198) rfl h_) ?_
                  exact hJJ197 _ _ ⟨false, ⟨rfl, rfl, rfl, rfl, rfl⟩, hx196, h⟩
end Go.Proofs.Ytagkcbbbdlmcjaa
end
section
/- One thing done to a disk and to the document's: they answer the same. -/
set_option linter.unusedVariables false
set_option linter.unusedSimpArgs false
namespace Go.Proofs.Ytagkcbbbdlmcjaa
open Go.Lift Go.Lift.Disk Go.RowKit
variable {B : Nat → Prop}
theorem Fr.later {X : Nat → Prop} {g : Nat} {w w' w'' : World} (h : Fr X w w') (k : Fr (· = g) w' w'') (hg : w.heap.size ≤ g) : Fr X w w'' :=
  ⟨k.os.trans h.os, k.tape.trans h.tape, k.output.trans h.output, Nat.le_trans h.size k.size, fun i hi hx => (k.block i (Nat.lt_of_lt_of_le hi h.size) (fun e => by have e : i = g := e; omega)).trans (h.block i hi hx)⟩
theorem plan_rat {w : World} {ss sp sf : Sl} {D : Dk} (h : RX w B ss sp sf D) {s : Sl} {l : List Fall} (hs : FallsAt w s l) (hf : Far B s) : RX w B ss sp s (Dk.plan D l) := ⟨h.sure, h.pend, hs, h.f1, h.f2, hf⟩
theorem play_plan {n k : Nat} {D : Dk} (h : Play n k D) (l : List Fall) : Play n k (Dk.plan D l) := ⟨h.len, h.ch, h.pend, h.now⟩
theorem play_up {n k : Nat} {D : Dk} (h : Play n k D) : Play n k D.up := ⟨h.len, h.ch, h.pend, h.now⟩
theorem atO_lt {w : World} {a : Addr} {v : Value} {l : List Value} (h : AtO w (some a) (v :: l)) : a.block < w.heap.size := by
  have := h 0 v rfl
  have e : (a.add 0).block = a.block := add_block a 0
  rw [← e]
  exact World.block_lt_of_cell? w _ this
theorem Far.mono {B B' : Nat → Prop} {w : World} {s : Sl} {cs : List Value} (h : Far B s) (hc : AtO w s.a cs) (hl : s.len ≠ 0 → cs ≠ []) (hm : ∀ k, k < w.heap.size → B k → B' k) : Far B' s := by
  intro h0 a ha
  refine hm _ ?_ (h h0 a ha)
  rw [ha] at hc
  obtain ⟨v, l, e⟩ := List.exists_cons_of_ne_nil (hl h0)
  rw [e] at hc
  exact atO_lt hc
theorem RAt.mono {w : World} {B B' : Nat → Prop} {cs : List Value} {D : Dk} (h : RAt w B cs D) (hm : ∀ k, k < w.heap.size → B k → B' k) : RAt w B' cs D := by
  obtain ⟨ss, sp, sf, h1, h2⟩ := h
  refine ⟨ss, sp, sf, h1, h2.sure, h2.pend, h2.falls, h2.f1.mono h2.sure.cells ?_ hm, h2.f2.mono h2.pend.cells ?_ hm, h2.f3.mono h2.falls.cells ?_ hm⟩
  · intro h0 e
    have h3 := congrArg List.length e
    have h4 := h2.sure.len
    simp only [List.length_map, List.length_nil] at h3 h4
    omega
  · intro h0 e
    have h3 := congrArg List.length e
    have h4 := h2.pend.len
    rw [flatMap_len pairC (n := 2) (fun _ => rfl)] at h3
    simp only [List.length_nil] at h3
    omega
  · intro h0 e
    have h3 := congrArg List.length e
    have h4 := h2.falls.len
    rw [fallC_len] at h3
    simp only [List.length_nil] at h3
    omega
theorem bare_write (D : Dk) (i : Int) (b : List UInt8) (hb : b.length = 512) : ((Dk.bare D).write i b).2 = D.why i ∧ ((Dk.bare D).write i b).1.falls = [] ∧ ((Dk.bare D).write i b).1.down = D.down ∧ ((Dk.bare D).write i b).1.changes ≤ D.changes + 1 := by
  have hw : (Dk.bare D).why i = D.why i := rfl
  unfold Dk.write
  rw [hw]
  by_cases h : D.why i ≠ 0
  · rw [if_pos h]; exact ⟨rfl, rfl, rfl, Nat.le_succ _⟩
  · rw [if_neg h, if_neg (by omega)]
    have hs : ((Dk.bare D).put i.toNat b).falls.find? (fun f => f.1 == (((Dk.bare D).put i.toNat b).changes : Int)) = none := rfl
    rw [strike_none hs]
    exact ⟨by simp only [ne_eq, Decidable.not_not] at h; exact h.symm, rfl, rfl, Nat.le_refl _⟩
theorem bare_flush {D : Dk} (h : D.falls = []) : D.flush.2 = (if D.down then 6 else 0) ∧ D.flush.1.down = D.down := by
  unfold Dk.flush
  have hs : D.falls.find? (fun f => f.1 == (D.changes : Int)) = none := by rw [h]; rfl
  cases hd : D.down with
  | true => simp [hd]
  | false =>
    rw [strike_none hs]
    simp only [Bool.false_eq_true, if_false, ne_eq, not_true]
    exact ⟨trivial, hd⟩
theorem play_ok {w : World} {base : Nat → Prop} {pd bb n k : Nat} {D : Dk} (h : DAt w base pd bb D) (hbase : ∀ k, w.heap.size ≤ k → base k) (hB : ∀ k, B k → ¬ Foot pd bb k) (hBn : ∀ k, w.heap.size ≤ k → B k)
    (cs : List Value) (hA : RAt w B cs D) (hP : Play n k D) (hk : k < 1000) (o : OpA) (ho : o.Ok w) (hfl : o.falls.length ≤ 20) (hfo : Far B o.fs) :
    Calls Try.prog 40 #[.pointer (dp pd), aggv cs, aggv o.cells] w (Ret r40 fun x w' => x.2 = true ∧ ∃ D', DAt w' base pd bb D' ∧ RAt w' B x.1 D' ∧ Play n (k + 1) D' ∧ Fr (Foot pd bb) w w') := by
  have hwf := h.wf
  obtain ⟨hpd, hbb, hpdl, hbbl⟩ := h.lt
  obtain ⟨ss, sp, sf, hcs, hRX⟩ := id hA
  apply s40_calls
  intro b1 w2 hb1 hw2
  have hx2 : Ext w w2 := Ext.new hw2
  intro b3 w4 hb3 hw4
  have hx4 : Ext w2 w4 := Ext.new hw4
  intro b5 w6 hb5 hw6
  have hx6 : Ext w4 w6 := Ext.new hw6
  have hxw := (hx2.trans hx4).trans hx6
  have hB1 : Blk w6 b1 49 cs := ((Blk.new hb1 hw2).ext hx4).ext hx6
  have hB3 : Blk w6 b3 65 o.cells := (Blk.new hb3 hw4).ext hx6
  have hB5 : Blk w6 b5 49 (rc nilSl nilSl nilSl 0 false) := Blk.new hb5 hw6
  have hwb1 : w.heap.size ≤ b1 := by rw [hb1]; exact Nat.le_refl _
  have h13 : b1 < b3 := by rw [hb3]; exact (Blk.new hb1 hw2).lt
  have h35 : b3 < b5 := by rw [hb5]; exact (Blk.new hb3 hw4).lt
  have h5l : b5 < w6.heap.size := hB5.lt
  have hnf : ∀ {g : Nat}, w.heap.size ≤ g → ¬ Foot pd bb g := fun hg => by rintro (e | e) <;> omega
  have h6 : DAt w6 (fun k => base k ∧ k ≠ b1 ∧ k ≠ b5) pd bb D := (h.mono (base' := fun k => base k ∧ k ≠ b1 ∧ k ≠ b5) fun k hk hu => ⟨hu, by omega, by omega⟩).ext hxw
  have hA6 := hA.ext hxw
  have hb6 : ∀ {w' : World}, w6.heap.size ≤ w'.heap.size → ∀ k, w'.heap.size ≤ k → (base k ∧ k ≠ b1 ∧ k ≠ b5) := fun hs k hk => ⟨hbase k (Nat.le_trans hxw.size (Nat.le_trans hs hk)), by omega, by omega⟩
  have hBn6 : ∀ {w' : World}, w6.heap.size ≤ w'.heap.size → ∀ k, w'.heap.size ≤ k → B k := fun hs k hk => hBn k (Nat.le_trans hxw.size (Nat.le_trans hs hk))
  have hch : D.changes < 1000000000 := by have := hP.ch; omega
  have hpn : D.pend.length < 1000000 := by have := hP.pend; omega
  -- the answer
  have fin : ∀ (w' : World) (cs' : List Value) (D' : Dk) (b : Bool), b = true → DAt w' (fun k => base k ∧ k ≠ b1 ∧ k ≠ b5) pd bb D' → RAt w' B cs' D' → Play n (k + 1) D' → Fr (Foot pd bb) w w' → Blk w' b5 49 (rc nilSl nilSl nilSl 0 false) →
      stA 5 ⟨b5, 0, none⟩ cs' w' fun w'' => ldA 5 ⟨b5, 0, none⟩ w'' fun x => b = true ∧ ∃ D', DAt w'' base pd bb D' ∧ RAt w'' B x D' ∧ Play n (k + 1) D' ∧ Fr (Foot pd bb) w w'' := by
    intro w' cs' D' b hb hD' hA' hP' hf' hB'
    refine put_ans hA' hB' fun w'' hA'' hB'' hf'' => ?_
    exact ⟨cs', hA''.len, hB''.at (by rw [List.drop_zero, List.take_length]), hb, D', (hD'.fr hf'' fun k hk e => hk.2.2 e).mono (fun k _ hu => hu.1), hA'', hP', Fr.later hf' hf'' (by omega)⟩
  have hFx : Fr (Foot pd bb) w w6 := Fr.of hxw
  refine ⟨o.kind, by rw [add_plain]; exact hB3.cell rfl, ?_⟩
  refine ⟨fun h0 => ?_, fun _ => ⟨fun h1 => ?_, fun _ => ⟨fun h2 => ?_, fun _ => ⟨fun h3 => ?_, fun _ => ⟨fun h4 => ?_, fun _ => ⟨fun h5 => ?_, fun _ => ?_⟩⟩⟩⟩⟩⟩
  · -- Write
    refine ⟨(o.c.toNat : Int), by rw [add_plain]; exact hB3.cell rfl, o.s, by rw [add_plain]; exact hB3.cell rfl, ?_⟩
    refine cR_of (fill_ok w6 o.c o.s) ?_
    rintro x11 w12 ⟨ho11, hx12⟩
    obtain ⟨bs, hbs⟩ : ∃ bs, bs = fillOf o.c o.s ++ (if o.long then [0] else []) := ⟨_, rfl⟩
    have hbl : 512 ≤ bs.length ∧ bs.length ≤ 513 := by
      rw [hbs, List.length_append, fillOf_len]
      cases o.long <;> simp
    refine jn_of fun k13 hk13 => ?_
    have key : ∀ (s20 : Sl) (w21 : World), Own w21 w6.heap.size 5 1 s20 (u8s bs) → Ext w6 w21 → k13 s20 w21 := by
      intro s20 w21 ho20 hx21
      rw [hk13]
      have hl20 := ho20.length
      rw [u8s_length] at hl20
      obtain ⟨g, rest, hga, hgb, hgB, _⟩ := ho20.blk (by omega)
      have hgl := hgB.lt
      have h21 : DAt w21 (fun k => (base k ∧ k ≠ b1 ∧ k ≠ b5) ∧ k ≠ g) pd bb D := (h6.mono (base' := fun k => (base k ∧ k ≠ b1 ∧ k ≠ b5) ∧ k ≠ g) fun k hk hu => ⟨hu, by omega⟩).ext hx21
      have hB3' := hB3.ext hx21
      refine ⟨o.at_, by rw [add_plain]; exact hB3'.cell rfl, ?_⟩
      refine cR_of (write_ok h21 hch hpn (fun k hk => ⟨hb6 hx21.size k hk, by omega⟩) o.at_ s20 bs ho20.bytes) ?_
      rintro x28 w29 ⟨rfl, h29, hf29⟩
      have hf6 : Fr (Foot pd bb) w6 w29 := (Fr.of hx21).trans hf29
      have hB1' := hB1.fr hf6 (hnf hwb1)
      have hB3'' := hB3.fr hf6 (hnf (by omega))
      have hgB29 := hgB.fr hf29 (hnf (Nat.le_trans hxw.size hgb))
      have hgl29 := hgB29.lt
      have ho29 : Bytes w29 s20 bs := hf29.bytes (fun b hb => by rw [hga] at hb; cases hb; exact hnf (Nat.le_trans hxw.size hgb)) ho20.bytes
      refine ⟨cs, hA.len, hB1'.at (by rw [List.drop_zero, List.take_length]), o.at_, by rw [add_plain]; exact hB3''.cell rfl, bs, ho29.1, ho29.2, ?_⟩
      have hA29 : RAt w29 (fun k => B k ∧ k ≠ g) cs D := (hA6.mono (B' := fun k => B k ∧ k ≠ g) fun k hk hb => ⟨hb, by omega⟩).foot hf6 fun k hk => hB k hk.1
      refine cR_of (rput_ok w29 cs D hA29 hwf hch hpn (fun k hk => ⟨hBn6 hf6.size k hk, by omega⟩) o.at_ bs) ?_
      rintro ⟨cs2, e2⟩ w34 ⟨he2, hA34, hx34⟩
      simp only at he2 hA34
      subst he2
      refine ⟨hA34.len, hA34.one, fun b35 w36 hb35 hw36 => ?_⟩
      have hx36 : Ext w34 w36 := Ext.new hw36
      have hB35 : Blk w36 b35 49 cs2 := Blk.new hb35 hw36
      have hx36' := hx34.trans hx36
      have hgne : b35 ≠ g := by have := hx34.size; omega
      refine ⟨fun s w' => ∃ k : Nat, k ≤ bs.length ∧ s = (k : Int) ∧ DAt w' (fun k => (base k ∧ k ≠ b1 ∧ k ≠ b5) ∧ k ≠ g) pd bb (D.write o.at_ bs).1 ∧ RAt w' (fun k => B k ∧ k ≠ g) cs2 (D.write o.at_ bs).1 ∧ Fr (Foot pd bb) w6 w' ∧ Blk w' b35 49 cs2 ∧
          ∃ xs : List Value, Blk w' g 5 xs ∧ ∀ j, j < bs.length → ∃ i, xs[j]? = some (.int .u8 i),
        fun s _ => bs.length - s.toNat, ⟨0, Nat.zero_le _, rfl, h29.ext hx36', hA34.ext hx36, hf6.trans (Fr.of hx36'), hB35, _, hgB29.ext hx36', fun j hj => ⟨(bs[j].toNat : Int), ?_⟩⟩, ?_⟩
      · rw [List.getElem?_append_left (by rw [u8s_length]; exact hj)]
        exact u8s_get (List.getElem?_eq_getElem hj)
      rintro s w38 ⟨k, hkl, rfl, h38, hA38, hf38, hB38, xs, hgx, hxs⟩
      refine ⟨fun hlt => ?_, fun hge => ?_⟩
      · have hlt : k < bs.length := by have := of_decide_eq_true hlt; omega
        obtain ⟨i, hi⟩ := hxs k hlt
        have hkx : k < xs.length := by
          rcases Nat.lt_or_ge k xs.length with h | h
          · exact h
          · rw [List.getElem?_eq_none h] at hi; cases hi
        refine ⟨⟨g, 0, none⟩, _, hga, by omega, by omega, rfl, ?_⟩
        rw [Int.toNat_natCast, Nat.mul_one]
        refine ⟨i, by rw [add_plain, Nat.zero_add]; exact hgx.cell hi, ⟨g, 0, none⟩, _, hga, by omega, by omega, rfl, ?_⟩
        show st1 _ _ _ _
        rw [add_plain, Nat.zero_add, Int.toNat_natCast, Nat.mul_one]
        refine st1_blk hgx hkx fun w53 hB53 hf53 => ?_
        rw [w64_eq (by omega) (by omega)]
        refine ⟨⟨k + 1, by omega, by omega, h38.fr hf53 fun k hk e => hk.2 e, hA38.foot hf53 fun k hk e => hk.2 e, Fr.later hf38 hf53 hgb, hB38.fr hf53 hgne, _, hB53, fun j hj => ?_⟩, by simp only; omega⟩
        rw [List.getElem?_set]
        split
        · rename_i h; subst h
          exact ⟨_, rfl⟩
        · exact hxs j hj
      · refine ⟨cs2, hA34.len, hB38.at (by rw [List.drop_zero, List.take_length]), ?_⟩
        exact fin w38 cs2 _ _ (decide_eq_true rfl) (h38.mono fun k _ hu => hu.1) (hA38.mono fun k _ hu => hu.1) (play_write hP _ _) (hFx.trans hf38) (hB5.fr hf38 (hnf (by omega)))
    refine ⟨o.long, by rw [add_plain]; exact (hB3.ext hx12).cell rfl, fun hl => ?_, fun hl => ?_⟩
    · intro b16 w17 hb16 hw17
      have hx17 : Ext w12 w17 := Ext.new hw17
      have hl11 := ho11.length
      rw [u8s_length, fillOf_len] at hl11
      refine app_ok (base := w6.heap.size) mk_39 rfl (by decide) (ho11.ext hx17) (news := u8s [0]) rfl (At.new hb16 hw17) (u8s_one _) (by simp only [maxLen]; omega) (by simp only; omega) (hx12.trans hx17).size ?_
      intro s' w' hl' ho' _ hB'
      refine key s' w' ?_ (hB' _ _ (hx12.trans hx17) (Nat.le_refl _) (hx12.trans hx17).size)
      rw [hbs, hl, if_pos rfl, u8s_append]; exact ho'
    · refine key x11 w12 ?_ hx12
      rw [hbs, hl]
      simpa using ho11
  · -- Flush
    refine cR_of (flush_ok h6 hch) ?_
    rintro x62 w63 ⟨rfl, h63, hf63⟩
    have hB1' := hB1.fr hf63 (hnf hwb1)
    refine ⟨cs, hA.len, hB1'.at (by rw [List.drop_zero, List.take_length]), ?_⟩
    refine cR_of (rflush_ok w63 cs D (hA6.foot hf63 hB) hwf hch (hBn6 hf63.size)) ?_
    rintro ⟨cs2, e2⟩ w66 ⟨he2, hA66, hx66⟩
    simp only at he2 hA66
    subst he2
    refine ⟨hA66.len, hA66.one, fun b67 w68 hb67 hw68 => ?_⟩
    have hx68 : Ext w66 w68 := Ext.new hw68
    have hB67 : Blk w68 b67 49 cs2 := Blk.new hb67 hw68
    refine ⟨cs2, hA66.len, hB67.at (by rw [List.drop_zero, List.take_length]), ?_⟩
    exact fin w68 cs2 _ _ (decide_eq_true rfl) (h63.ext (hx66.trans hx68)) (hA66.ext hx68) (play_flush hP) ((hFx.trans hf63).trans (Fr.of (hx66.trans hx68))) ((hB5.fr hf63 (hnf (by omega))).ext (hx66.trans hx68))
  · -- Read
    refine ⟨o.at_, by rw [add_plain]; exact hB3.cell rfl, ?_⟩
    refine cR_of (read_ok h6 o.at_) ?_
    rintro ⟨y, e⟩ w75 ⟨hx75, hr⟩
    have hB1' := hB1.ext hx75
    have hB3' := hB3.ext hx75
    refine ⟨cs, hA.len, hB1'.at (by rw [List.drop_zero, List.take_length]), o.at_, by rw [add_plain]; exact hB3'.cell rfl, ?_⟩
    refine cR_of (why_ok w75 cs D (hA6.ext hx75) o.at_) ?_
    rintro x78 w79 ⟨rfl, hx79⟩
    have hxx := hx75.trans hx79
    have hB1'' := hB1.ext hxx
    have hB3'' := hB3.ext hxx
    refine ⟨fun hne => ?_, fun he => ?_⟩
    · have hne := nd_t hne
      have hye : (y, e) = (nilSl, D.why o.at_) := by
        rcases hr with ⟨_, hr⟩ | ⟨hr, _⟩
        · exact hr
        · exact absurd hr hne
      cases hye
      refine ⟨cs, hA.len, hB1''.at (by rw [List.drop_zero, List.take_length]), ?_⟩
      refine jn_of fun k1 hk1 => ⟨fun _ => ?_, fun h => absurd h (by simp)⟩
      rw [hk1]
      exact fin w79 cs D _ rfl (h6.ext hxx) (hA6.ext hxx) (play_mono hP (Nat.le_succ _)) (hFx.trans (Fr.of hxx)) (hB5.ext hxx)
    · have he := nd_f he
      rcases hr with ⟨hr, _⟩ | ⟨_, hr1, hr2⟩
      · exact absurd he hr
      simp only at hr1 hr2
      subst hr1
      obtain ⟨_, hi0, hi1⟩ := why_zero he
      obtain ⟨i, hi⟩ := Int.eq_ofNat_of_zero_le hi0
      have hin : i < D.bl.length := by omega
      rw [hi, Int.toNat_natCast] at hr2
      intro w93 hw93
      have hx93 : Ext w79 w93 := by subst hw93; exact Ext.drew _
      have hb15 : some b1 ≠ some b5 := by simp; omega
      refine ⟨hb15, cs, hA.len, hB1''.at (by rw [List.drop_zero, List.take_length]), ?_⟩
      refine jn_of fun k1 hk1 => ⟨fun _ => ?_, fun h => absurd h (by simp)⟩
      refine ⟨fun a ha e => ?_, ?_⟩
      · have := Own.ge5 hr2 a ha
        have e : a.block = b5 := by simpa using e
        omega
      have hyb := hr2.bytes.ext hx79
      refine ⟨_, hyb.1, hyb.2, hb15, cs, hA.len, hB1''.at (by rw [List.drop_zero, List.take_length]), ?_⟩
      refine ⟨by simp [add_plain]; omega, o.at_, by rw [add_plain]; exact hB3''.cell rfl, ?_⟩
      rw [hi]
      refine cR_of (now_ok w93 cs D (hA6.ext (hxx.trans hx93)) (by omega) i hin) ?_
      rintro x105 w106 ⟨rfl, hx106⟩
      refine ⟨hx106, ?_⟩
      rw [hk1]
      have hlen := hP.len
      have hx' := (hxx.trans hx93).trans hx106
      exact fin w106 cs D _ (decide_eq_true (hP.now i (by omega))) (h6.ext hx') (hA6.ext hx') (play_mono hP (Nat.le_succ _)) (hFx.trans (Fr.of hx')) (hB5.ext hx')
  · -- Crash
    refine ⟨fallOf o.fall, rfl, by rw [add_plain]; exact hB3.at rfl, ?_⟩
    refine cR_of (crash_ok h6 o.fall ho.keep) ?_
    rintro x121 w122 ⟨h122, hf122⟩
    have hB1' := hB1.fr hf122 (hnf hwb1)
    have hB3' := hB3.fr hf122 (hnf (by omega))
    refine ⟨cs, hA.len, hB1'.at (by rw [List.drop_zero, List.take_length]), fallOf o.fall, rfl, by rw [add_plain]; exact hB3'.at rfl, ?_⟩
    refine cR_of (rcrash_ok w122 cs D (hA6.foot hf122 hB) hwf (hBn6 hf122.size) o.fall ho.keep) ?_
    rintro x125 w126 ⟨hA126, hx126⟩
    exact fin w126 x125 _ true rfl (h122.ext hx126) hA126 (play_mono (play_crash hP _) (Nat.le_succ _)) ((hFx.trans hf122).trans (Fr.of hx126)) ((hB5.fr hf122 (hnf (by omega))).ext hx126)
  · -- Up
    subst hcs
    refine ⟨D.down, by rw [add_plain]; exact hB1.cell rfl, ?_⟩
    rw [add_plain]
    refine st1_blk hB1 (by simp) fun w131 hB131 hf131 => ?_
    have hB131 : Blk w131 b1 49 (rc ss sp sf D.changes false) := hB131
    have hx131 : Ext w w131 := hf131.ext hxw fun k _ e => by rw [e]; exact hwb1
    have h131 := h6.fr hf131 fun k hk e => hk.2.1 e
    refine ⟨Foot pd bb, fun w132 hw132 => ?_⟩
    have hx132 : Ext w131 w132 := by subst hw132; exact Ext.drew _
    refine ⟨hnf hwb1, rc ss sp sf D.changes false, rfl, hB131.at rfl, ?_⟩
    refine cR_of (up_ok (h131.ext hx132)) ?_
    rintro x135 w136 ⟨rfl, h136, hf136⟩
    have hff : Fr (Foot pd bb) w131 w136 := (Fr.of hx132).trans hf136
    refine ⟨⟨hf136.size, hf136.block⟩, ?_⟩
    have hA136 : RAt w136 B (rc ss sp sf D.changes false) D.up := by
      have : RAt w131 B (rc ss sp sf D.changes false) D.up := ⟨ss, sp, sf, rfl, ⟨hRX.sure.ext hx131, hRX.pend.ext hx131, hRX.falls.ext hx131, hRX.f1, hRX.f2, hRX.f3⟩⟩
      exact this.foot hff hB
    exact fin w136 _ _ (D.down == D.down) (beq_self_eq_true _) h136 hA136 (play_mono (play_up hP) (Nat.le_succ _)) ((Fr.of hx131).trans hff) ((hB5.fr hf131 (by omega)).fr hff (hnf (by omega)))
  · -- Plan
    subst hcs
    intro b141 w142 hb141 hw142
    have hx142 : Ext w6 w142 := Ext.new hw142
    have hfs := ho.falls.ext hxw
    have hfsl := hfs.len
    refine ⟨o.fs, by rw [add_plain]; exact (hB3.ext hx142).cell rfl, ?_⟩
    have hone : ∀ u ∈ fallC o.falls, u.oneCell' = true := by
      intro u hu
      obtain ⟨f, _, hf⟩ := List.mem_flatMap.1 hu
      exact fall_one f u hf
    refine app_ok (base := w6.heap.size) mkz_47 rfl (by decide) (Own.made (e := 27) (size := 3) (c := 0) hb141 hw142 (Nat.le_refl _) rfl (by simp [maxLen])) (news := fallC o.falls)
      (by rw [fallC_len, hfsl]) (Ext.atO hx142 hfs.cells) hone (by simp only [maxLen]; omega) (by simp only; omega) hx142.size ?_
    intro x144 w145 hl144 ho144 _ hB145
    rw [List.nil_append] at ho144
    have hx145 : Ext w6 w145 := hB145 _ _ hx142 (Nat.le_refl _) hx142.size
    have hl : x144.len = o.falls.length := by rw [hl144]; simp [hfsl]
    -- the row that is handed in, and written after
    obtain ⟨g, hg6, hgl, hgB⟩ : ∃ g, w6.heap.size ≤ g ∧ g < w145.heap.size ∧ (x144.len ≠ 0 → x144.a = some ⟨g, 0, none⟩ ∧ ∃ xs : List Value, x144.len * 3 ≤ xs.length ∧ Blk w145 g 27 xs) := by
      by_cases h0 : x144.len = 0
      · exact ⟨b141, by rw [hb141]; exact Nat.le_refl _, Nat.lt_of_lt_of_le (Blk.new hb141 hw142).lt (hB145 w6.heap.size w142 ⟨rfl, rfl, rfl, Nat.le_refl _, fun _ _ => rfl⟩ (Nat.le_refl _) hx142.size).size, fun h => absurd h0 h⟩
      · obtain ⟨g, rest, h1, h2, h3, _⟩ := ho144.blk (by omega)
        exact ⟨g, h2, h3.lt, fun _ => ⟨h1, _, by rw [List.length_append, fallC_len]; omega, h3⟩⟩
    have h145 : DAt w145 (fun k => (base k ∧ k ≠ b1 ∧ k ≠ b5) ∧ k ≠ g) pd bb D := (h6.mono (base' := fun k => (base k ∧ k ≠ b1 ∧ k ≠ b5) ∧ k ≠ g) fun k hk hu => ⟨hu, by omega⟩).ext hx145
    have hnil := (Own.slAt (base := Up w6.heap.size) (pd := pd) (bb := bb) ho144 (fun k hk => hk) (Nat.lt_of_lt_of_le hpdl hxw.size) (Nat.lt_of_lt_of_le hbbl hxw.size)).nil
    refine cR_of (plan_ok h145 x144 o.falls hl ho144.at hnil (by omega) (fun k hk => ⟨hb6 hx145.size k hk, by omega⟩) ho.falls.keep) ?_
    rintro _ w149 ⟨h149, hf149⟩
    have hall : RAt w B (rc ss sp o.fs D.changes D.down) (Dk.plan D o.falls) := ⟨ss, sp, o.fs, rfl, plan_rat hRX ho.falls hfo⟩
    refine ⟨fun s w' => ∃ k : Nat, k ≤ o.falls.length ∧ s = (k : Int) ∧ DAt w' (fun k => (base k ∧ k ≠ b1 ∧ k ≠ b5) ∧ k ≠ g) pd bb (Dk.plan D o.falls) ∧ Fr (Foot pd bb) w6 w' ∧ (x144.len ≠ 0 → ∃ xs : List Value, x144.len * 3 ≤ xs.length ∧ Blk w' g 27 xs),
      fun s _ => o.falls.length - s.toNat, ⟨0, Nat.zero_le _, rfl, h149, (Fr.of hx145).trans hf149, fun h0 => ?_⟩, ?_⟩
    · obtain ⟨_, xs, h1, h2⟩ := hgB h0
      exact ⟨xs, h1, h2.fr hf149 (hnf (Nat.le_trans hxw.size hg6))⟩
    rintro s w151 ⟨k, hkl, rfl, h151, hf151, hr151⟩
    refine ⟨fun hlt => ?_, fun hge => ?_⟩
    · have hlt : k < o.falls.length := by have := of_decide_eq_true hlt; omega
      refine cR_of (changes_ok h151) ?_
      rintro x161 w162 ⟨rfl, rfl⟩
      have h0 : x144.len ≠ 0 := by omega
      obtain ⟨xs, hxs, hbx⟩ := hr151 h0
      refine ⟨⟨g, 0, none⟩, _, (hgB h0).1, by omega, by omega, rfl, ?_⟩
      show stA _ _ _ _ _
      rw [add_plain, Nat.zero_add, Int.toNat_natCast]
      refine stA_blk hbx rfl (by omega) (by intro v hv; exact fall_one ((Dk.plan D o.falls).changes, 0, 0) v hv) fun w165 hB165 hf165 => ?_
      rw [w64_eq (by omega) (by omega)]
      refine ⟨⟨k + 1, by omega, by omega, h151.fr hf165 fun k hk e => hk.2 e, Fr.later hf151 hf165 hg6, fun _ => ⟨_, ?_, hB165⟩⟩, by simp only; omega⟩
      unfold splice
      simp only [List.length_append, List.length_take, List.length_drop, List.length_cons, List.length_nil]
      omega
    · have hff : Fr (Foot pd bb) w w151 := hFx.trans hf151
      have hB1' := hB1.fr hf151 (hnf hwb1)
      have hB3' := hB3.fr hf151 (hnf (by omega))
      have hB5' := hB5.fr hf151 (hnf (by omega))
      refine ⟨o.fs, by rw [add_plain]; exact hB3'.cell rfl, ?_⟩
      show st1 _ _ _ _
      rw [add_plain]
      refine st1_blk hB1' (by simp) fun w167 hB167 hf167 => ?_
      have hB167 : Blk w167 b1 49 (rc ss sp o.fs D.changes D.down) := hB167
      have hff' : Fr (Foot pd bb) w w167 := Fr.later hff hf167 hwb1
      refine ⟨rc ss sp o.fs D.changes D.down, rfl, hB167.at rfl, ?_⟩
      exact fin w167 _ (Dk.plan D o.falls) true rfl ((h151.mono fun k _ hu => hu.1).fr hf167 fun k hk e => hk.2.1 e) (hall.foot hff' hB) (play_mono (play_plan hP _) (Nat.le_succ _)) hff' (hB5'.fr hf167 (by omega))
  · -- Clone
    refine cR_of (clone_ok h6) ?_
    rintro x173 w174 ⟨pd', bb', rfl, h174, hx174⟩
    obtain ⟨hpd', hbb', _, _⟩ := h174.lt
    intro w175 hw175
    have hx175 : Ext w174 w175 := by subst hw175; exact Ext.drew _
    have hB3' := hB3.ext hx174
    refine ⟨o.at_, by rw [add_plain]; exact hB3'.cell rfl, (o.c.toNat : Int), by rw [add_plain]; exact hB3'.cell rfl, ?_⟩
    refine cR_of (fill_ok w175 o.c [99, 108, 111, 110, 101]) ?_
    rintro x179 w180 ⟨ho179, hx180⟩
    refine ⟨hx175.trans hx180, ?_⟩
    have hx180' := (hx174.trans hx175).trans hx180
    obtain ⟨c1, c2, c3, c4⟩ := bare_write D o.at_ (fillOf o.c [99, 108, 111, 110, 101]) (fillOf_len _ _)
    refine cR_of (write_ok ((h174.ext hx175).ext hx180) hch hpn (upB hx180'.size) o.at_ x179 _ ho179.bytes) ?_
    rintro x182 w183 ⟨hx182, h183, hf183⟩
    rw [c1] at hx182
    generalize hE : ((Dk.bare D).write o.at_ (fillOf o.c [99, 108, 111, 110, 101])).1 = E at h183 c2 c3 c4
    have hx183 := footExt hf183 hx180' hpd' hbb'
    refine cR_of (flush_ok h183 (by have := hP.ch; omega)) ?_
    rintro x184 w185 ⟨hx184, h185, hf185⟩
    obtain ⟨c5, c6⟩ := bare_flush c2
    rw [c5, c3] at hx184
    rw [c3] at c6
    have hx185 := footExt hf185 hx183 hpd' hbb'
    intro w186 hw186
    have hx186 : Ext w185 w186 := by subst hw186; exact Ext.drew _
    have hb15 : some b1 ≠ some b5 := by simp; omega
    have hb35 : some b3 ≠ some b5 := by simp; omega
    have hB1' := hB1.ext hx185
    have hB3'' := hB3.ext hx185
    refine ⟨hb15, cs, hA.len, hB1'.at (by rw [List.drop_zero, List.take_length]), hb15, cs, hA.len, hB1'.at (by rw [List.drop_zero, List.take_length]), ?_⟩
    refine ⟨by simpa [add_plain] using hb35, o.at_, by rw [add_plain]; exact hB3''.cell rfl, ?_⟩
    have hx186' := hx185.trans hx186
    refine cR_of (why_ok w186 cs D (hA6.ext hx186') o.at_) ?_
    rintro x194 w195 ⟨rfl, hx195⟩
    refine ⟨hx195, ?_⟩
    have hx195' := hx186'.trans hx195
    have hd1 : w185.cell? (Addr.add ⟨b1, 0, none⟩ 4) = some (.bool D.down) := by
      rw [add_plain]
      exact hB1'.cell (by rw [hcs]; rfl)
    refine jn_of fun k1 hk1 => ?_
    refine ⟨fun _ => ?_, fun h => absurd (of_decide_eq_false h) (fun hn => hn hx182)⟩
    refine ⟨by simpa [add_plain] using hb15, D.down, hd1, ?_⟩
    have hb : (decide (x184 = 0) == !D.down) = true := by
      rw [hx184]
      cases D.down <;> rfl
    show k1 _ w195
    rw [hb, hk1]
    refine jn_of fun k2 hk2 => ?_
    refine ⟨fun _ => ?_, fun h => absurd h (by simp)⟩
    refine ⟨by simpa [add_plain] using hb15, D.down, hd1, ?_⟩
    refine cR_of (down_ok ((h185.ext hx186).ext hx195)) ?_
    rintro x213 w214 ⟨rfl, rfl⟩
    refine ⟨Ext.refl _, ?_⟩
    show k2 _ w195
    rw [hk2]
    exact fin w195 cs D (E.flush.1.down == D.down) (by rw [c6]; exact beq_self_eq_true _) (h6.ext hx195') (hA6.ext hx195') (play_mono hP (Nat.le_succ _)) (hFx.trans (Fr.of hx195')) (hB5.ext hx195')
end Go.Proofs.Ytagkcbbbdlmcjaa
end
section
/- The typed readings of the functions, and that the program meets each: written by gen.py (a program of this session). -/
set_option linter.unusedVariables false
set_option linter.unusedSimpArgs false
namespace Go.Proofs.Ytagkcbbbdlmcjaa
open Go.Lift
set_option maxRecDepth 100000 in
set_option maxHeartbeats 4000000 in
theorem s16_calls (K : Option Addr × Sl × Int → World → Prop) (p0 : Option Addr) (p1 : Int) (p2 : Int) (w : World) (h : s16 K p0 p1 p2 w) :
    Calls Try.prog 16 #[.pointer p0, .int .i64 p1, .int .i64 p2] w (Ret r16 K) := by
  unfold s16 at h
  refine calls_of_CW (n := 146) Try.func16 rfl rfl rfl ?_
  refine CW.seq ?_
  refine CW.region ?_
  refine RL.opS trivial rfl (OpW.assign (v := .pointer none) rfl ?_)
  refine RL.opS trivial rfl (OpW.assign (v := Sl.v nilSl) rfl ?_)
  refine RL.opS trivial rfl (OpW.assign (v := .int .i64 0) rfl ?_)
  refine RL.nil ?_
  refine CW.seq ?_
  refine CW.seq ?_
  refine CW.region ?_
  refine RL.opS trivial rfl (OpW.move (v := .pointer p0) rfl ?_)
  refine RL.opS trivial rfl (OpW.ptrNil (b := p0.isNone) (p := p0) ptr_31 rfl rfl rfl ?_)
  refine RL.opS trivial rfl (OpW.move (v := .bool (p0.isNone)) rfl ?_)
  refine jn_elim h ?_; clear h; intro k106 hk107 h
  refine RL.joinAt (A := Bool) 3 (fun s3 ρ => ρ 28 = .bool s3 ∧ ρ 0 = .pointer p0 ∧ ρ 1 = .int .i64 p1 ∧ ρ 2 = .int .i64 p2) k106 ?_ ?_
  · rintro s3 ρ w4 ⟨e5, e6, e7, e8⟩ h
    subst hk107
    dsimp only [List.drop]
    refine RL.opS trivial rfl (OpW.move (v := .bool s3) e5 ?_)
    refine jn_elim h ?_; clear h; intro k104 hk105 h
    refine RL.joinAt (A := Bool) 3 (fun s11 ρ => ρ 32 = .bool s11 ∧ ρ 0 = .pointer p0 ∧ ρ 1 = .int .i64 p1 ∧ ρ 2 = .int .i64 p2) k104 ?_ ?_
    · rintro s11 ρ w12 ⟨e13, e14, e15, e16⟩ h
      subst hk105
      dsimp only [List.drop]
      refine RL.opS trivial rfl (OpW.move (v := .bool s11) e13 ?_)
      refine jn_elim h ?_; clear h; intro k102 hk103 h
      refine RL.joinAt (A := Bool) 5 (fun s21 ρ => ρ 38 = .bool s21 ∧ ρ 0 = .pointer p0 ∧ ρ 1 = .int .i64 p1 ∧ ρ 2 = .int .i64 p2) k102 ?_ ?_
      · rintro s21 ρ w22 ⟨e23, e24, e25, e26⟩ h
        subst hk103
        dsimp only [List.drop]
        refine RL.opS trivial rfl (OpW.move (v := .bool s21) e23 ?_)
        refine jn_elim h ?_; clear h; intro k100 hk101 h
        refine RL.joinAt (A := Bool) 7 (fun s31 ρ => ρ 46 = .bool s31 ∧ ρ 0 = .pointer p0 ∧ ρ 1 = .int .i64 p1 ∧ ρ 2 = .int .i64 p2) k100 ?_ ?_
        · rintro s31 ρ w32 ⟨e33, e34, e35, e36⟩ h
          subst hk101
          dsimp only [List.drop]
          refine RL.nil ?_
          obtain ⟨ha, hc⟩ := h
          refine CW.cond (b := s31) e33 (fun hb37 => ?_) (fun hb37 => ?_)
          · have h := ha hb37; clear ha hc
            refine CW.seq ?_
            refine CW.region ?_
            refine RL.opS trivial rfl (OpW.assign (v := .pointer none) rfl ?_)
            refine RL.opS trivial rfl (OpW.assign (v := Sl.v nilSl) rfl ?_)
            refine RL.opS trivial rfl (OpW.assign (v := .int .i64 1) rfl ?_)
            refine RL.nil ?_
            refine CW.ret ?_
            exact ret_intro (res3 rfl rfl rfl rfl) ⟨(none, nilSl, 1), rfl, h⟩
          · have h := hc hb37; clear ha hc
            refine CW.skip ?_
            refine CW.seq ?_
            refine CW.region ?_
            refine RL.opS trivial rfl (OpW.move (v := .pointer p0) e34 ?_)
            refine RL.opS trivial rfl (OpW.move (v := .int .i64 p1) e35 ?_)
            refine RL.opS trivial rfl (OpW.move (v := .int .i64 p2) e36 ?_)
            refine RL.opS trivial rfl (OpW.bin (k := .i64) (a := p2) (b := 2) (v := .int .i64 (IntKind.i64.wrap (p2 - 2))) rfl rfl rfl ?_)
            refine RL.opS trivial rfl (OpW.bin (k := .i64) (a := (IntKind.i64.wrap (p2 - 2))) (b := 512) (v := .int .i64 (IntKind.i64.wrap ((IntKind.i64.wrap (p2 - 2)) * 512))) rfl rfl rfl ?_)
            refine RL.opS trivial rfl (OpW.buildL (vs := [(0, .pointer p0), (1, .int .i64 p1), (2, .int .i64 (IntKind.i64.wrap ((IntKind.i64.wrap (p2 - 2)) * 512)))]) (cs := [.pointer p0, .int .i64 p1, .int .i64 (IntKind.i64.wrap ((IntKind.i64.wrap (p2 - 2)) * 512)), Value.int .u64 0, Value.slice none 0 0, Value.int .i64 0, Value.bool false]) (by rfl) (fun _ => by kernel_rfl) ?_)
            obtain ⟨b38, hb38_⟩ : ∃ b_, b_ = w32.heap.size := ⟨_, rfl⟩
            obtain ⟨w39, hw39_⟩ : ∃ w_, w_ = w32.alloc (.cells (List.toArray [.pointer p0, .int .i64 p1, .int .i64 (IntKind.i64.wrap ((IntKind.i64.wrap (p2 - 2)) * 512)), Value.int .u64 0, Value.slice none 0 0, Value.int .i64 0, Value.bool false]) 95) := ⟨_, rfl⟩
            have h := h b38 w39 hb38_ hw39_
            refine RL.opS trivial rfl (OpW.boxE (cs := [.pointer p0, .int .i64 p1, .int .i64 (IntKind.i64.wrap ((IntKind.i64.wrap (p2 - 2)) * 512)), Value.int .u64 0, Value.slice none 0 0, Value.int .i64 0, Value.bool false]) (rfl) hb38_ hw39_ ?_)
            refine RL.opS trivial rfl (OpW.assign (v := .pointer (some ⟨b38, 0, none⟩)) rfl ?_)
            refine RL.nil ?_
            refine CW.seq ?_
            refine CW.region ?_
            refine RL.opS trivial rfl (OpW.assign (v := .int .i64 0) rfl ?_)
            refine RL.nil ?_
            refine CW.seq ?_
            refine CW.seq ?_
            refine CW.region ?_
            refine RL.opS trivial rfl (OpW.move (v := .int .i64 0) rfl ?_)
            refine RL.nil ?_
            refine CW.block ?_
            obtain ⟨I98, mu99, hI, hs⟩ := h
            refine CW.loop (σ := Int × Int) (fun s40 ρ => ρ 10 = .int .i64 s40.1 ∧ ρ 54 = .int .i64 s40.2 ∧ ρ 0 = .pointer p0 ∧ ρ 1 = .int .i64 p1 ∧ ρ 9 = .pointer (some ⟨b38, 0, none⟩)) I98 mu99 (0, 0) ⟨rfl, rfl, e34, e35, rfl⟩ hI ?_
            rintro s40 ρ w41 ⟨e43, e44, e45, e46, e47⟩ hI
            have h := hs s40 w41 hI
            clear hs hI
            refine CW.seq ?_
            refine CW.region ?_
            refine RL.opS trivial rfl (OpW.bin (k := .i64) (a := s40.2) (b := 2) (v := .bool (decide (s40.2 < 2))) e44 rfl rfl ?_)
            refine RL.nil ?_
            refine CW.seq ?_
            obtain ⟨ha, hc⟩ := h
            refine CW.cond (b := (decide (s40.2 < 2))) rfl (fun hb48 => ?_) (fun hb48 => ?_)
            · have h := ha hb48; clear ha hc
              refine CW.skip ?_
              refine jn_elim h ?_; clear h; intro k66 hk67 h
              refine CW.seqJ (A := Int) (fun s59 ρ => ρ 10 = .int .i64 s59 ∧ ρ 0 = .pointer p0 ∧ ρ 1 = .int .i64 p1 ∧ ρ 9 = .pointer (some ⟨b38, 0, none⟩) ∧ ρ 54 = .int .i64 s40.2) k66 ?_ ?_
              · rintro s59 ρ w60 ⟨e61, e62, e63, e64, e65⟩ h
                subst hk67
                refine CW.region ?_
                refine RL.opS trivial rfl (OpW.bin (k := .i64) (a := s40.2) (b := 1) (v := .int .i64 (IntKind.i64.wrap (s40.2 + 1))) e65 rfl rfl ?_)
                refine RL.opS trivial rfl (OpW.move (v := .int .i64 (IntKind.i64.wrap (s40.2 + 1))) rfl ?_)
                refine RL.nil ?_
                exact ⟨(s59, (IntKind.i64.wrap (s40.2 + 1))), ⟨e61, rfl, e62, e63, e64⟩, h⟩
              · clear hk67
                refine CW.block ?_
                refine CW.seq ?_
                refine CW.region ?_
                refine RL.opS trivial rfl (OpW.move (v := .int .i64 s40.2) e44 ?_)
                refine RL.opS trivial rfl (OpW.assign (v := .int .i64 s40.2) rfl ?_)
                refine RL.nil ?_
                refine CW.seq ?_
                refine CW.region ?_
                refine RL.opS trivial rfl (OpW.move (v := .pointer p0) e45 ?_)
                refine RL.opS trivial rfl (OpW.move (v := .int .i64 p1) e46 ?_)
                refine RL.opS trivial rfl (OpW.move (v := .int .i64 s40.2) rfl ?_)
                refine RL.opS trivial rfl (OpW.bin (k := .i64) (a := p1) (b := s40.2) (v := .int .i64 (IntKind.i64.wrap (p1 + s40.2))) rfl rfl rfl ?_)
                refine RL.opS trivial rfl (OpW.callR (al := [.pointer p0, .int .i64 (IntKind.i64.wrap (p1 + s40.2))]) Try.func28 fb_28 fn_28 rfl h (fun x50 w51 h => ?_))
                refine RL.opS trivial rfl (OpW.move (v := .tuple #[Sl.v x50.1, .int .i64 x50.2]) rfl ?_)
                refine RL.opS trivial rfl (OpW.extract (v := Sl.v x50.1) rfl rfl ?_)
                refine RL.opS trivial rfl (OpW.extract (v := .int .i64 x50.2) rfl rfl ?_)
                refine RL.opS trivial rfl (OpW.assign (v := Sl.v x50.1) rfl ?_)
                refine RL.opS trivial rfl (OpW.assign (v := .int .i64 x50.2) rfl ?_)
                refine RL.nil ?_
                refine CW.seq ?_
                refine CW.seq ?_
                refine CW.region ?_
                refine RL.opS trivial rfl (OpW.move (v := .int .i64 x50.2) rfl ?_)
                refine RL.opS trivial rfl (OpW.bin (k := .i64) (a := x50.2) (b := 0) (v := .bool (!decide (x50.2 = 0))) rfl rfl rfl ?_)
                refine RL.nil ?_
                obtain ⟨ha, hc⟩ := h
                refine CW.cond (b := (!decide (x50.2 = 0))) rfl (fun hb52 => ?_) (fun hb52 => ?_)
                · have h := ha hb52; clear ha hc
                  refine CW.seq ?_
                  refine CW.region ?_
                  refine RL.opS trivial rfl (OpW.move (v := .int .i64 x50.2) rfl ?_)
                  refine RL.opS trivial rfl (OpW.assign (v := .pointer none) rfl ?_)
                  refine RL.opS trivial rfl (OpW.assign (v := Sl.v nilSl) rfl ?_)
                  refine RL.opS trivial rfl (OpW.assign (v := .int .i64 x50.2) rfl ?_)
                  refine RL.nil ?_
                  refine CW.ret ?_
                  exact ret_intro (res3 rfl rfl rfl rfl) ⟨(none, nilSl, x50.2), rfl, h⟩
                · have h := hc hb52; clear ha hc
                  refine CW.skip ?_
                  refine CW.seq ?_
                  refine CW.region ?_
                  refine RL.opS trivial rfl (OpW.move (v := Sl.v x50.1) rfl ?_)
                  refine RL.opS trivial rfl (OpW.move (v := .pointer (some ⟨b38, 0, none⟩)) e47 ?_)
                  refine RL.opS trivial rfl (OpW.nilCheck rfl ?_)
                  refine RL.opS trivial rfl (OpW.fieldAddr field_95_2 rfl ?_)
                  obtain ⟨x53, h1, h⟩ := h
                  refine RL.opS trivial rfl (OpW.load1 (v := .int .i64 x53) one_3 rfl h1 ?_)
                  refine RL.opS trivial rfl (OpW.callR (al := [Sl.v x50.1, .int .i64 x53]) Try.func47 fb_47 fn_47 rfl h (fun x54 w55 h => ?_))
                  refine RL.opS trivial rfl (OpW.move (v := .tuple #[.int .u64 x54.1, .int .i64 x54.2]) rfl ?_)
                  refine RL.opS trivial rfl (OpW.extract (v := .int .u64 x54.1) rfl rfl ?_)
                  refine RL.opS trivial rfl (OpW.extract (v := .int .i64 x54.2) rfl rfl ?_)
                  refine RL.opS trivial rfl (OpW.assign (v := .int .u64 x54.1) rfl ?_)
                  refine RL.opS trivial rfl (OpW.assign (v := .int .i64 x54.2) rfl ?_)
                  refine RL.nil ?_
                  refine CW.seq ?_
                  refine CW.region ?_
                  refine RL.opS trivial rfl (OpW.move (v := .int .u64 x54.1) rfl ?_)
                  refine RL.opS trivial rfl (OpW.move (v := .pointer (some ⟨b38, 0, none⟩)) e47 ?_)
                  refine RL.opS trivial rfl (OpW.nilCheck rfl ?_)
                  refine RL.opS trivial rfl (OpW.fieldAddr field_95_3 rfl ?_)
                  obtain ⟨x56, h1, h⟩ := h
                  refine RL.opS trivial rfl (OpW.load1 (v := .int .u64 x56) one_25 rfl h1 ?_)
                  refine RL.opS trivial rfl (OpW.bin (k := .u64) (a := x54.1) (b := x56) (v := .bool (decide (x56 < x54.1))) rfl rfl rfl ?_)
                  refine RL.nil ?_
                  obtain ⟨ha, hc⟩ := h
                  refine CW.cond (b := (decide (x56 < x54.1))) rfl (fun hb57 => ?_) (fun hb57 => ?_)
                  · have h := ha hb57; clear ha hc
                    refine CW.region ?_
                    refine RL.opS trivial rfl (OpW.move (v := .pointer (some ⟨b38, 0, none⟩)) e47 ?_)
                    refine RL.opS trivial rfl (OpW.move (v := .int .u64 x54.1) rfl ?_)
                    refine RL.opS trivial rfl (OpW.move (v := .int .i64 x54.2) rfl ?_)
                    refine RL.opS trivial rfl (OpW.nilCheck rfl ?_)
                    refine RL.opS trivial rfl (OpW.fieldAddr field_95_3 rfl ?_)
                    obtain ⟨u_, h1, h2, h⟩ := h
                    obtain ⟨w58, hw58_⟩ : ∃ w_, w_ = w55.setCell (Addr.add ⟨b38, 0, none⟩ 3) (.int .u64 x54.1) := ⟨_, rfl⟩
                    have h := h w58 hw58_
                    refine RL.opN trivial (OpW.store1E (v := .int .u64 x54.1) size_25 rfl rfl rfl h1 h2 hw58_ ?_)
                    refine RL.opS trivial rfl (OpW.assign (v := .int .i64 x54.2) rfl ?_)
                    refine RL.nil ?_
                    exact ⟨x54.2, ⟨rfl, e45, e46, e47, e44⟩, h⟩
                  · have h := hc hb57; clear ha hc
                    refine CW.skip ?_
                    exact ⟨s40.1, ⟨e43, e45, e46, e47, e44⟩, h⟩
            · have h := hc hb48; clear ha hc
              refine CW.exit ?_
              refine CW.seq ?_
              refine CW.seq ?_
              refine CW.region ?_
              refine RL.opS trivial rfl (OpW.move (v := .pointer (some ⟨b38, 0, none⟩)) e47 ?_)
              refine RL.opS trivial rfl (OpW.nilCheck rfl ?_)
              refine RL.opS trivial rfl (OpW.fieldAddr field_95_3 rfl ?_)
              obtain ⟨x68, h1, h⟩ := h
              refine RL.opS trivial rfl (OpW.load1 (v := .int .u64 x68) one_25 rfl h1 ?_)
              refine RL.opS trivial rfl (OpW.bin (k := .u64) (a := x68) (b := 0) (v := .bool (decide (x68 = 0))) rfl rfl rfl ?_)
              refine RL.nil ?_
              obtain ⟨ha, hc⟩ := h
              refine CW.cond (b := (decide (x68 = 0))) rfl (fun hb69 => ?_) (fun hb69 => ?_)
              · have h := ha hb69; clear ha hc
                refine CW.seq ?_
                refine CW.seq ?_
                refine CW.region ?_
                refine RL.opS trivial rfl (OpW.move (v := .pointer (some ⟨b38, 0, none⟩)) e47 ?_)
                refine RL.opS trivial rfl (OpW.callR (al := [.pointer (some ⟨b38, 0, none⟩), .int .u64 1, .int .i64 0]) Try.func48 fb_48 fn_48 rfl h (fun x70 w71 h => ?_))
                refine RL.opS trivial rfl (OpW.assign (v := .int .i64 x70) rfl ?_)
                refine RL.nil ?_
                refine CW.seq ?_
                refine CW.region ?_
                refine RL.opS trivial rfl (OpW.move (v := .int .i64 x70) rfl ?_)
                refine RL.opS trivial rfl (OpW.bin (k := .i64) (a := x70) (b := 0) (v := .bool (!decide (x70 = 0))) rfl rfl rfl ?_)
                refine RL.nil ?_
                obtain ⟨ha, hc⟩ := h
                refine CW.cond (b := (!decide (x70 = 0))) rfl (fun hb72 => ?_) (fun hb72 => ?_)
                · have h := ha hb72; clear ha hc
                  refine CW.seq ?_
                  refine CW.region ?_
                  refine RL.opS trivial rfl (OpW.move (v := .int .i64 x70) rfl ?_)
                  refine RL.opS trivial rfl (OpW.assign (v := .pointer none) rfl ?_)
                  refine RL.opS trivial rfl (OpW.assign (v := Sl.v nilSl) rfl ?_)
                  refine RL.opS trivial rfl (OpW.assign (v := .int .i64 x70) rfl ?_)
                  refine RL.nil ?_
                  refine CW.ret ?_
                  exact ret_intro (res3 rfl rfl rfl rfl) ⟨(none, nilSl, x70), rfl, h⟩
                · have h := hc hb72; clear ha hc
                  refine CW.skip ?_
                  refine CW.seq ?_
                  refine CW.region ?_
                  refine RL.opS trivial rfl (OpW.move (v := .pointer (some ⟨b38, 0, none⟩)) e47 ?_)
                  refine RL.opS trivial rfl (OpW.assign (v := .pointer (some ⟨b38, 0, none⟩)) rfl ?_)
                  refine RL.opS trivial rfl (OpW.assign (v := Sl.v nilSl) rfl ?_)
                  refine RL.opS trivial rfl (OpW.assign (v := .int .i64 0) rfl ?_)
                  refine RL.nil ?_
                  refine CW.ret ?_
                  exact ret_intro (res3 rfl rfl rfl rfl) ⟨(some ⟨b38, 0, none⟩, nilSl, 0), rfl, h⟩
              · have h := hc hb69; clear ha hc
                refine CW.skip ?_
                refine CW.seq ?_
                refine CW.region ?_
                refine RL.opS trivial rfl (OpW.assign (v := Sl.v nilSl) rfl ?_)
                refine RL.nil ?_
                refine CW.seq ?_
                refine CW.seq ?_
                refine CW.region ?_
                refine RL.opS trivial rfl (OpW.assign (v := .int .i64 0) rfl ?_)
                refine RL.nil ?_
                refine CW.block ?_
                obtain ⟨I96, mu97, hI, hs⟩ := h
                refine CW.loop (σ := Sl × Int) (fun s73 ρ => ρ 17 = Sl.v s73.1 ∧ ρ 18 = .int .i64 s73.2 ∧ ρ 0 = .pointer p0 ∧ ρ 1 = .int .i64 p1 ∧ ρ 9 = .pointer (some ⟨b38, 0, none⟩) ∧ ρ 10 = .int .i64 s40.1) I96 mu97 (nilSl, 0) ⟨rfl, rfl, e45, e46, e47, e43⟩ hI ?_
                rintro s73 ρ w74 ⟨e76, e77, e78, e79, e80, e81⟩ hI
                have h := hs s73 w74 hI
                clear hs hI
                refine CW.seq ?_
                refine CW.seq ?_
                refine CW.region ?_
                refine RL.opS trivial rfl (OpW.move (v := .int .i64 s73.2) e77 ?_)
                refine RL.opS trivial rfl (OpW.move (v := .int .i64 s40.1) e81 ?_)
                refine RL.opS trivial rfl (OpW.bin (k := .i64) (a := s73.2) (b := s40.1) (v := .bool (decide (s73.2 < s40.1))) rfl rfl rfl ?_)
                refine RL.nil ?_
                obtain ⟨ha, hc⟩ := h
                refine CW.cond (b := (decide (s73.2 < s40.1))) rfl (fun hb82 => ?_) (fun hb82 => ?_)
                · have h := ha hb82; clear ha hc
                  refine CW.skip ?_
                  refine CW.seq ?_
                  refine CW.block ?_
                  refine CW.seq ?_
                  refine CW.region ?_
                  refine RL.opS trivial rfl (OpW.move (v := .pointer p0) e78 ?_)
                  refine RL.opS trivial rfl (OpW.move (v := .int .i64 p1) e79 ?_)
                  refine RL.opS trivial rfl (OpW.bin (k := .i64) (a := p1) (b := 2) (v := .int .i64 (IntKind.i64.wrap (p1 + 2))) rfl rfl rfl ?_)
                  refine RL.opS trivial rfl (OpW.move (v := .int .i64 s73.2) e77 ?_)
                  refine RL.opS trivial rfl (OpW.quo (a := s73.2) (b := 512) (v := .int .i64 (IntKind.i64.wrap (Int.tdiv s73.2 512))) rfl rfl (by decide) rfl ?_)
                  refine RL.opS trivial rfl (OpW.bin (k := .i64) (a := (IntKind.i64.wrap (p1 + 2))) (b := (IntKind.i64.wrap (Int.tdiv s73.2 512))) (v := .int .i64 (IntKind.i64.wrap ((IntKind.i64.wrap (p1 + 2)) + (IntKind.i64.wrap (Int.tdiv s73.2 512))))) rfl rfl rfl ?_)
                  refine RL.opS trivial rfl (OpW.callR (al := [.pointer p0, .int .i64 (IntKind.i64.wrap ((IntKind.i64.wrap (p1 + 2)) + (IntKind.i64.wrap (Int.tdiv s73.2 512))))]) Try.func28 fb_28 fn_28 rfl h (fun x83 w84 h => ?_))
                  refine RL.opS trivial rfl (OpW.move (v := .tuple #[Sl.v x83.1, .int .i64 x83.2]) rfl ?_)
                  refine RL.opS trivial rfl (OpW.extract (v := Sl.v x83.1) rfl rfl ?_)
                  refine RL.opS trivial rfl (OpW.extract (v := .int .i64 x83.2) rfl rfl ?_)
                  refine RL.opS trivial rfl (OpW.assign (v := Sl.v x83.1) rfl ?_)
                  refine RL.opS trivial rfl (OpW.assign (v := .int .i64 x83.2) rfl ?_)
                  refine RL.nil ?_
                  refine CW.seq ?_
                  refine CW.seq ?_
                  refine CW.region ?_
                  refine RL.opS trivial rfl (OpW.move (v := .int .i64 x83.2) rfl ?_)
                  refine RL.opS trivial rfl (OpW.bin (k := .i64) (a := x83.2) (b := 0) (v := .bool (!decide (x83.2 = 0))) rfl rfl rfl ?_)
                  refine RL.nil ?_
                  obtain ⟨ha, hc⟩ := h
                  refine CW.cond (b := (!decide (x83.2 = 0))) rfl (fun hb85 => ?_) (fun hb85 => ?_)
                  · have h := ha hb85; clear ha hc
                    refine CW.seq ?_
                    refine CW.region ?_
                    refine RL.opS trivial rfl (OpW.move (v := .int .i64 x83.2) rfl ?_)
                    refine RL.opS trivial rfl (OpW.assign (v := .pointer none) rfl ?_)
                    refine RL.opS trivial rfl (OpW.assign (v := Sl.v nilSl) rfl ?_)
                    refine RL.opS trivial rfl (OpW.assign (v := .int .i64 x83.2) rfl ?_)
                    refine RL.nil ?_
                    refine CW.ret ?_
                    exact ret_intro (res3 rfl rfl rfl rfl) ⟨(none, nilSl, x83.2), rfl, h⟩
                  · have h := hc hb85; clear ha hc
                    refine CW.skip ?_
                    refine CW.region ?_
                    refine RL.opS trivial rfl (OpW.move (v := Sl.v s73.1) e76 ?_)
                    refine RL.opS trivial rfl (OpW.move (v := Sl.v x83.1) rfl ?_)
                    obtain ⟨x86, w87, hr_, h⟩ := h
                    refine RL.opS trivial rfl (OpW.appendL (v := Sl.v x86) rfl hr_ ?_)
                    refine RL.opS trivial rfl (OpW.assign (v := Sl.v x86) rfl ?_)
                    refine RL.nil ?_
                    refine CW.region ?_
                    refine RL.opS trivial rfl (OpW.move (v := .int .i64 s73.2) e77 ?_)
                    refine RL.opS trivial rfl (OpW.bin (k := .i64) (a := s73.2) (b := 512) (v := .int .i64 (IntKind.i64.wrap (s73.2 + 512))) rfl rfl rfl ?_)
                    refine RL.opS trivial rfl (OpW.assign (v := .int .i64 (IntKind.i64.wrap (s73.2 + 512))) rfl ?_)
                    refine RL.nil ?_
                    exact ⟨(x86, (IntKind.i64.wrap (s73.2 + 512))), ⟨rfl, rfl, e78, e79, e80, e81⟩, h⟩
                · have h := hc hb82; clear ha hc
                  refine CW.exit ?_
                  refine CW.seq ?_
                  refine CW.region ?_
                  refine RL.opS trivial rfl (OpW.move (v := .pointer (some ⟨b38, 0, none⟩)) e80 ?_)
                  refine RL.opS trivial rfl (OpW.move (v := Sl.v s73.1) e76 ?_)
                  refine RL.opS trivial rfl (OpW.move (v := .int .i64 s40.1) e81 ?_)
                  obtain ⟨⟨h1, h2, h3⟩, h⟩ := h
                  refine RL.opS trivial rfl (OpW.sliceSl (l := 0) (h := s40.1) slice_39 rfl rfl ⟨_, rfl⟩ h1 h2 (.inr h3) ?_)
                  refine RL.opS trivial rfl (OpW.callR (al := [Sl.v (s73.1.cut 1 0 s40.1 s73.1.cap)]) Try.func49 fb_49 fn_49 rfl h (fun x88 w89 h => ?_))
                  refine RL.opS trivial rfl (OpW.nilCheck rfl ?_)
                  refine RL.opS trivial rfl (OpW.fieldAddr field_95_4 rfl ?_)
                  obtain ⟨u_, h1, h2, h⟩ := h
                  obtain ⟨w90, hw90_⟩ : ∃ w_, w_ = w89.setCell (Addr.add ⟨b38, 0, none⟩ 4) (Sl.v x88) := ⟨_, rfl⟩
                  have h := h w90 hw90_
                  refine RL.opN trivial (OpW.store1E (v := Sl.v x88) size_39 rfl rfl rfl h1 h2 hw90_ ?_)
                  refine RL.nil ?_
                  refine CW.seq ?_
                  refine CW.region ?_
                  refine RL.opS trivial rfl (OpW.move (v := .pointer (some ⟨b38, 0, none⟩)) e80 ?_)
                  refine RL.opS trivial rfl (OpW.nilCheck rfl ?_)
                  refine RL.opS trivial rfl (OpW.fieldAddr field_95_4 rfl ?_)
                  obtain ⟨x91, h1, h⟩ := h
                  refine RL.opS trivial rfl (OpW.load1 (v := Sl.v x91) one_39 rfl h1 ?_)
                  refine RL.opS trivial rfl (OpW.callR (al := [Sl.v x91]) Try.func50 fb_50 fn_50 rfl h (fun x92 w93 h => ?_))
                  refine RL.opS trivial rfl (OpW.move (v := .tuple #[Sl.v x92.1, .int .i64 x92.2]) rfl ?_)
                  refine RL.opS trivial rfl (OpW.extract (v := Sl.v x92.1) rfl rfl ?_)
                  refine RL.opS trivial rfl (OpW.extract (v := .int .i64 x92.2) rfl rfl ?_)
                  refine RL.opS trivial rfl (OpW.assign (v := Sl.v x92.1) rfl ?_)
                  refine RL.opS trivial rfl (OpW.assign (v := .int .i64 x92.2) rfl ?_)
                  refine RL.nil ?_
                  refine CW.seq ?_
                  refine CW.seq ?_
                  refine CW.region ?_
                  refine RL.opS trivial rfl (OpW.move (v := .int .i64 x92.2) rfl ?_)
                  refine RL.opS trivial rfl (OpW.bin (k := .i64) (a := x92.2) (b := 0) (v := .bool (!decide (x92.2 = 0))) rfl rfl rfl ?_)
                  refine RL.nil ?_
                  obtain ⟨ha, hc⟩ := h
                  refine CW.cond (b := (!decide (x92.2 = 0))) rfl (fun hb94 => ?_) (fun hb94 => ?_)
                  · have h := ha hb94; clear ha hc
                    refine CW.seq ?_
                    refine CW.region ?_
                    refine RL.opS trivial rfl (OpW.move (v := .int .i64 x92.2) rfl ?_)
                    refine RL.opS trivial rfl (OpW.assign (v := .pointer none) rfl ?_)
                    refine RL.opS trivial rfl (OpW.assign (v := Sl.v nilSl) rfl ?_)
                    refine RL.opS trivial rfl (OpW.assign (v := .int .i64 x92.2) rfl ?_)
                    refine RL.nil ?_
                    refine CW.ret ?_
                    exact ret_intro (res3 rfl rfl rfl rfl) ⟨(none, nilSl, x92.2), rfl, h⟩
                  · have h := hc hb94; clear ha hc
                    refine CW.skip ?_
                    refine CW.seq ?_
                    refine CW.region ?_
                    refine RL.opS trivial rfl (OpW.move (v := .pointer (some ⟨b38, 0, none⟩)) e80 ?_)
                    refine RL.opS trivial rfl (OpW.move (v := Sl.v x92.1) rfl ?_)
                    refine RL.opS trivial rfl (OpW.len (s := x92.1) slice_22 rfl ?_)
                    refine RL.opS trivial rfl (OpW.nilCheck rfl ?_)
                    refine RL.opS trivial rfl (OpW.fieldAddr field_95_5 rfl ?_)
                    obtain ⟨u_, h1, h2, h⟩ := h
                    obtain ⟨w95, hw95_⟩ : ∃ w_, w_ = w93.setCell (Addr.add ⟨b38, 0, none⟩ 5) (.int .i64 (x92.1.len : Int)) := ⟨_, rfl⟩
                    have h := h w95 hw95_
                    refine RL.opN trivial (OpW.store1E (v := .int .i64 (x92.1.len : Int)) size_3 rfl rfl rfl h1 h2 hw95_ ?_)
                    refine RL.nil ?_
                    refine CW.seq ?_
                    refine CW.region ?_
                    refine RL.opS trivial rfl (OpW.move (v := .pointer (some ⟨b38, 0, none⟩)) e80 ?_)
                    refine RL.opS trivial rfl (OpW.move (v := Sl.v x92.1) rfl ?_)
                    refine RL.opS trivial rfl (OpW.assign (v := .pointer (some ⟨b38, 0, none⟩)) rfl ?_)
                    refine RL.opS trivial rfl (OpW.assign (v := Sl.v x92.1) rfl ?_)
                    refine RL.opS trivial rfl (OpW.assign (v := .int .i64 0) rfl ?_)
                    refine RL.nil ?_
                    refine CW.ret ?_
                    exact ret_intro (res3 rfl rfl rfl rfl) ⟨(some ⟨b38, 0, none⟩, x92.1, 0), rfl, h⟩
        · clear hk101
          dsimp only [List.take]
          obtain ⟨ha, hc⟩ := h
          rcases Bool.eq_false_or_eq_true s21 with hb27 | hb27
          · have h := ha hb27; clear ha hc
            refine RL.skipS (notWanted_of rfl rfl hb27) rfl ?_
            refine RL.skipS (notWanted_of rfl rfl hb27) rfl ?_
            refine RL.skipS (notWanted_of rfl rfl hb27) rfl ?_
            refine RL.skipS (notWanted_of rfl rfl hb27) rfl ?_
            refine RL.skipS (notWanted_of rfl rfl hb27) rfl ?_
            refine RL.skipS (notWanted_of rfl rfl hb27) rfl ?_
            refine RL.opS trivial rfl (OpW.pick (b := true) (v := .bool true) (congrArg Value.bool hb27) rfl ?_)
            refine RL.nil ?_
            exact ⟨true, ⟨rfl, e24, e25, e26⟩, h⟩
          · have h := hc hb27; clear ha hc
            refine RL.opS (wanted_of rfl rfl hb27) rfl (OpW.move (v := .int .i64 p1) e25 ?_)
            refine RL.opS (wanted_of rfl rfl hb27) rfl (OpW.move (v := .pointer p0) e24 ?_)
            refine RL.opS (wanted_of rfl rfl hb27) rfl (OpW.callR (al := [.pointer p0]) Try.func39 fb_39 fn_39 rfl h (fun x29 w30 h => ?_))
            refine RL.opS (wanted_of rfl rfl hb27) rfl (OpW.move (v := .int .i64 p2) e26 ?_)
            refine RL.opS (wanted_of rfl rfl hb27) rfl (OpW.bin (k := .i64) (a := x29) (b := p2) (v := .int .i64 (IntKind.i64.wrap (x29 - p2))) rfl rfl rfl ?_)
            refine RL.opS (wanted_of rfl rfl hb27) rfl (OpW.bin (k := .i64) (a := p1) (b := (IntKind.i64.wrap (x29 - p2))) (v := .bool (decide ((IntKind.i64.wrap (x29 - p2)) < p1))) rfl rfl rfl ?_)
            refine RL.opS trivial rfl (OpW.pick (b := false) (v := .bool (decide ((IntKind.i64.wrap (x29 - p2)) < p1))) (congrArg Value.bool hb27) rfl ?_)
            refine RL.nil ?_
            exact ⟨(decide ((IntKind.i64.wrap (x29 - p2)) < p1)), ⟨rfl, e24, e25, e26⟩, h⟩
      · clear hk103
        dsimp only [List.take]
        obtain ⟨ha, hc⟩ := h
        rcases Bool.eq_false_or_eq_true s11 with hb17 | hb17
        · have h := ha hb17; clear ha hc
          refine RL.skipS (notWanted_of rfl rfl hb17) rfl ?_
          refine RL.skipS (notWanted_of rfl rfl hb17) rfl ?_
          refine RL.skipS (notWanted_of rfl rfl hb17) rfl ?_
          refine RL.skipS (notWanted_of rfl rfl hb17) rfl ?_
          refine RL.opS trivial rfl (OpW.pick (b := true) (v := .bool true) (congrArg Value.bool hb17) rfl ?_)
          refine RL.nil ?_
          exact ⟨true, ⟨rfl, e14, e15, e16⟩, h⟩
        · have h := hc hb17; clear ha hc
          refine RL.opS (wanted_of rfl rfl hb17) rfl (OpW.move (v := .int .i64 p2) e16 ?_)
          refine RL.opS (wanted_of rfl rfl hb17) rfl (OpW.move (v := .pointer p0) e14 ?_)
          refine RL.opS (wanted_of rfl rfl hb17) rfl (OpW.callR (al := [.pointer p0]) Try.func39 fb_39 fn_39 rfl h (fun x19 w20 h => ?_))
          refine RL.opS (wanted_of rfl rfl hb17) rfl (OpW.bin (k := .i64) (a := p2) (b := x19) (v := .bool (decide (x19 < p2))) rfl rfl rfl ?_)
          refine RL.opS trivial rfl (OpW.pick (b := false) (v := .bool (decide (x19 < p2))) (congrArg Value.bool hb17) rfl ?_)
          refine RL.nil ?_
          exact ⟨(decide (x19 < p2)), ⟨rfl, e14, e15, e16⟩, h⟩
    · clear hk105
      dsimp only [List.take]
      obtain ⟨ha, hc⟩ := h
      rcases Bool.eq_false_or_eq_true s3 with hb9 | hb9
      · have h := ha hb9; clear ha hc
        refine RL.skipS (notWanted_of rfl rfl hb9) rfl ?_
        refine RL.skipS (notWanted_of rfl rfl hb9) rfl ?_
        refine RL.opS trivial rfl (OpW.pick (b := true) (v := .bool true) (congrArg Value.bool hb9) rfl ?_)
        refine RL.nil ?_
        exact ⟨true, ⟨rfl, e6, e7, e8⟩, h⟩
      · have h := hc hb9; clear ha hc
        refine RL.opS (wanted_of rfl rfl hb9) rfl (OpW.move (v := .int .i64 p2) e8 ?_)
        refine RL.opS (wanted_of rfl rfl hb9) rfl (OpW.bin (k := .i64) (a := p2) (b := 3) (v := .bool (decide (p2 < 3))) rfl rfl rfl ?_)
        refine RL.opS trivial rfl (OpW.pick (b := false) (v := .bool (decide (p2 < 3))) (congrArg Value.bool hb9) rfl ?_)
        refine RL.nil ?_
        exact ⟨(decide (p2 < 3)), ⟨rfl, e6, e7, e8⟩, h⟩
  · clear hk107
    dsimp only [List.take]
    obtain ⟨ha, hc⟩ := h
    rcases Bool.eq_false_or_eq_true (p0.isNone) with hb1 | hb1
    · have h := ha hb1; clear ha hc
      refine RL.skipS (notWanted_of rfl rfl hb1) rfl ?_
      refine RL.skipS (notWanted_of rfl rfl hb1) rfl ?_
      refine RL.opS trivial rfl (OpW.pick (b := true) (v := .bool true) (congrArg Value.bool hb1) rfl ?_)
      refine RL.nil ?_
      exact ⟨true, ⟨rfl, rfl, rfl, rfl⟩, h⟩
    · have h := hc hb1; clear ha hc
      refine RL.opS (wanted_of rfl rfl hb1) rfl (OpW.move (v := .int .i64 p1) rfl ?_)
      refine RL.opS (wanted_of rfl rfl hb1) rfl (OpW.bin (k := .i64) (a := p1) (b := 0) (v := .bool (decide (p1 < 0))) rfl rfl rfl ?_)
      refine RL.opS trivial rfl (OpW.pick (b := false) (v := .bool (decide (p1 < 0))) (congrArg Value.bool hb1) rfl ?_)
      refine RL.nil ?_
      exact ⟨(decide (p1 < 0)), ⟨rfl, rfl, rfl, rfl⟩, h⟩
end Go.Proofs.Ytagkcbbbdlmcjaa
end
section
/- A journal is found on a part of a disk, or laid there. -/
set_option linter.unusedVariables false
set_option linter.unusedSimpArgs false
namespace Go.Proofs.Ytagkcbbbdlmcjaa
open Go.Lift Go.Lift.Disk Go.Lift.Crc Go.Lift.Wal Go.RowKit
theorem read_up2 {w : World} {base : Nat → Prop} {pd bb : Nat} {D : Dk} (h : DAt w base pd bb D) (hd : D.down = false) {i : Nat} (hi : i < D.bl.length) :
    Calls Try.prog 28 #[.pointer (dp pd), .int .i64 (i : Int)] w (Ret r28 fun x w' => Ext w w' ∧ x.2 = 0 ∧ x.1.len ≤ x.1.cap ∧ Bytes w' x.1 (nowAt D i) ∧ (nowAt D i).length = 512) := by
  have hwhy : D.why (i : Int) = 0 := by
    unfold Dk.why
    rw [if_neg (by rw [hd]; simp), if_neg (by omega)]
  refine Ret.mono (read_ok h (i : Int)) ?_
  rintro x w' ⟨hx, hr⟩
  rcases hr with ⟨hr, _⟩ | ⟨_, hr1, hr2⟩
  · exact absurd hwhy hr
  · rw [Int.toNat_natCast] at hr2
    exact ⟨hx, hr1, hr2.cap, hr2.bytes, (bAt_len h.wf.bl hi).1⟩
theorem right_le (b : List UInt8) (room : Nat) : (right b room).1 ≤ last ∧ (right b room).2 ≤ room := by
  unfold right
  simp only
  split
  · rename_i h; exact ⟨h.2.2.2.1, h.2.2.2.2⟩
  · exact ⟨Nat.zero_le _, Nat.zero_le _⟩
theorem headStep_le {D : Dk} {frm room : Nat} {s : Nat × Nat} {i : Nat} (h : s.1 ≤ last ∧ s.2 ≤ room) : (headStep D frm room s i).1 ≤ last ∧ (headStep D frm room s i).2 ≤ room := by
  unfold headStep
  split
  · exact right_le _ _
  · exact h
def heads (D : Dk) (frm room : Nat) : Nat → Nat × Nat
  | 0 => (0, 0)
  | i + 1 => headStep D frm room (heads D frm room i) i
theorem heads_le (D : Dk) (frm room : Nat) : ∀ i, (heads D frm room i).1 ≤ last ∧ (heads D frm room i).2 ≤ room
  | 0 => ⟨Nat.zero_le _, Nat.zero_le _⟩
  | i + 1 => headStep_le (heads_le D frm room i)
theorem heads_two (D : Dk) (frm room : Nat) : heads D frm room 2 = headOf D frm room := rfl
theorem parseF_count : ∀ (f : Nat) (b : List UInt8) (out : List (List UInt8)), (parseF f b out).1.length ≤ out.length + b.length
  | 0, b, out => by show out.length ≤ _; omega
  | f + 1, b, out => by
    rw [parseF]
    split
    · show out.length ≤ _; omega
    · split
      · show 0 ≤ _; omega
      · rename_i n rest h
        have := takeNum_len h
        split
        · show 0 ≤ _; omega
        · split
          · have h2 := parseF_count f (rest.drop (4 + n)) (out ++ [sliceB rest 4 (4 + n)])
            rw [List.length_append, List.length_singleton, List.length_drop] at h2
            omega
          · show 0 ≤ _; omega
theorem parse_count (b : List UInt8) : (parse b).1.length ≤ b.length := by
  have := parseF_count b.length b []
  simpa [parse] using this
theorem blocksOf_succ (D : Dk) (frm k : Nat) : blocksOf D frm (k + 1) = blocksOf D frm k ++ nowAt D (frm + 2 + k) := by
  unfold blocksOf
  rw [List.range_succ, List.flatMap_append]
  simp
/-- what an opening answers -/
def OpenR (w w' : World) (lo : Nat → Prop) (pd bb frm room : Nat) (x : Option Addr × Sl × Int) : Dk × Opened → Prop
  | (D', .fails e) => x = (none, nilSl, e) ∧ DAt w' lo pd bb D' ∧ Fr (Foot pd bb) w w'
  | (D', .is L rs) => ∃ pl, x.1 = lp pl ∧ w.heap.size ≤ pl ∧ x.2.2 = 0 ∧ OwnParts w' w.heap.size x.2.1 rs ∧ WAt w' lo pd bb pl frm room D' L ∧ Fr (Foot pd bb) w w'
theorem open_bad (w : World) (p0 : Option Addr) (frm blocks : Int) (h : p0 = none ∨ frm < 0 ∨ blocks < 3) : Calls Try.prog 16 #[.pointer p0, .int .i64 frm, .int .i64 blocks] w (Ret r16 fun x w' => x = (none, nilSl, 1) ∧ w = w') := by
  apply s16_calls
  refine jn_of fun k1 hk1 => ?_
  have key1 : ∀ q : Bool, (q = false → ¬ (p0 = none ∨ frm < 0)) → k1 q w := by
    intro q hq
    rw [hk1]
    refine jn_of fun k2 hk2 => ?_
    have key2 : ∀ q : Bool, (q = false → ¬ ((p0 = none ∨ frm < 0) ∨ blocks < 3)) → k2 q w := by
      intro q hq
      cases q with
      | false => exact absurd (h.elim (fun h => .inl (.inl h)) fun h => h.elim (fun h => .inl (.inr h)) .inr) (hq rfl)
      | true =>
        rw [hk2]
        refine jn_of fun k3 hk3 => ⟨fun _ => ?_, fun h => absurd h (by simp)⟩
        rw [hk3]
        refine jn_of fun k4 hk4 => ⟨fun _ => ?_, fun h => absurd h (by simp)⟩
        rw [hk4]
        exact ⟨fun _ => ⟨rfl, rfl⟩, fun h => absurd h (by simp)⟩
    refine ⟨fun _ => key2 true fun h => absurd h (by simp), fun hf => key2 _ fun hd => ?_⟩
    have hd := of_decide_eq_false hd
    rintro (hh | hh)
    · exact hq hf hh
    · exact hd hh
  refine ⟨fun _ => key1 true fun h => absurd h (by simp), fun hf => key1 _ fun hd => ?_⟩
  have hd := of_decide_eq_false hd
  rintro (hh | hh)
  · rw [hh] at hf; cases hf
  · exact hd hh
section
variable {w : World} {lo : Nat → Prop} {pd bb : Nat} {D : Dk}
theorem open_out (h : DAt w lo pd bb D) (frm blocks : Int) (h0 : 0 ≤ frm) (h3 : 3 ≤ blocks) (hb63 : blocks ≤ 9223372036854775807) (hbad : (D.bl.length : Int) < blocks ∨ (D.bl.length : Int) - blocks < frm) :
    Calls Try.prog 16 #[.pointer (dp pd), .int .i64 frm, .int .i64 blocks] w (Ret r16 fun x w' => x = (none, nilSl, 1) ∧ w = w') := by
  apply s16_calls
  have hfew := h.wf.few
  refine jn_of fun k1 hk1 => ⟨fun h => absurd h (by simp), fun _ => ?_⟩
  rw [decide_eq_false (show ¬ frm < 0 by omega), hk1]
  refine jn_of fun k2 hk2 => ⟨fun h => absurd h (by simp), fun _ => ?_⟩
  rw [decide_eq_false (show ¬ blocks < 3 by omega), hk2]
  refine jn_of fun k3 hk3 => ⟨fun h => absurd h (by simp), fun _ => ?_⟩
  refine cR_of (blocks_ok h) ?_
  rintro x w' ⟨rfl, rfl⟩
  rw [hk3]
  refine jn_of fun k4 hk4 => ?_
  have fin : k4 true w := by
    rw [hk4]
    exact ⟨fun _ => ⟨rfl, rfl⟩, fun h => absurd h (by simp)⟩
  refine ⟨fun _ => fin, fun hno => ?_⟩
  have hno := of_decide_eq_false hno
  refine cR_of (blocks_ok h) ?_
  rintro x w' ⟨rfl, rfl⟩
  rw [w64_eq (by omega) (by omega), decide_eq_true (show (D.bl.length : Int) - blocks < frm by omega)]
  exact fin
theorem open_ok (h : DAt w lo pd bb D) (hlo : ∀ k, w.heap.size ≤ k → lo k) (frm blocks : Nat) (h3 : 3 ≤ blocks) (hfit : frm + blocks ≤ D.bl.length) (hbd : Bnd D 2) :
    Calls Try.prog 16 #[.pointer (dp pd), .int .i64 (frm : Int), .int .i64 (blocks : Int)] w (Ret r16 fun x w' => OpenR w w' lo pd bb frm (roomOf blocks) x (openD D frm (roomOf blocks))) := by
  apply s16_calls
  have hfew := h.wf.few
  obtain ⟨hpd, hbb, hpdl, hbbl⟩ := h.lt
  refine jn_of fun k1 hk1 => ⟨fun h => absurd h (by simp), fun _ => ?_⟩
  rw [decide_eq_false (show ¬ (frm : Int) < 0 by omega), hk1]
  refine jn_of fun k2 hk2 => ⟨fun h => absurd h (by simp), fun _ => ?_⟩
  rw [decide_eq_false (show ¬ (blocks : Int) < 3 by omega), hk2]
  refine jn_of fun k3 hk3 => ⟨fun h => absurd h (by simp), fun _ => ?_⟩
  refine cR_of (blocks_ok h) ?_
  rintro x w' ⟨rfl, rfl⟩
  rw [decide_eq_false (show ¬ (D.bl.length : Int) < (blocks : Int) by omega), hk3]
  refine jn_of fun k4 hk4 => ⟨fun h => absurd h (by simp), fun _ => ?_⟩
  refine cR_of (blocks_ok h) ?_
  rintro x w' ⟨rfl, rfl⟩
  rw [w64_eq (x := (D.bl.length : Int) - (blocks : Int)) (by omega) (by omega), decide_eq_false (show ¬ (D.bl.length : Int) - (blocks : Int) < (frm : Int) by omega), hk4]
  refine ⟨fun h => absurd h (by simp), fun _ => ?_⟩
  intro b38 w39 hb38 hw39
  have er : IntKind.i64.wrap (IntKind.i64.wrap ((blocks : Int) - 2) * 512) = ((roomOf blocks : Nat) : Int) := by
    rw [w64_eq (x := (blocks : Int) - 2) (by omega) (by omega), w64_eq (by omega) (by omega)]
    show _ = (((blocks - 2) * 512 : Nat) : Int)
    omega
  rw [er] at hw39
  obtain ⟨room, hroom⟩ : ∃ r, r = roomOf blocks := ⟨_, rfl⟩
  have hrl : room ≤ 2097152 ∧ room + 1024 = blocks * 512 := by rw [hroom]; unfold roomOf; omega
  rw [← hroom] at hw39 ⊢
  have hx39 : Ext w w39 := Ext.new hw39
  have hB39 : Blk w39 b38 95 (logC pd frm room 0 nilSl 0 false) := Blk.new hb38 hw39
  have hb38l := hB39.lt
  have h39 : DAt w39 (fun k => lo k ∧ k ≠ b38) pd bb D := (h.mono (base' := fun k => lo k ∧ k ≠ b38) fun k hk hu => ⟨hu, by omega⟩).ext hx39
  have hBn : ∀ {w' : World}, w39.heap.size ≤ w'.heap.size → ∀ k, w'.heap.size ≤ k → (lo k ∧ k ≠ b38) := fun hw k hk => ⟨hlo k (Nat.le_trans hx39.size (Nat.le_trans hw hk)), by omega⟩
  have hxf : ∀ {a b : World}, Fr (· = b38) a b → Ext w a → Ext w b := fun hf ha => hf.ext ha fun k _ e => by rw [e, hb38]; exact Nat.le_refl _
  -- the heads
  refine ⟨fun st w' => ∃ i : Nat, i ≤ 2 ∧ st.2 = (i : Int) ∧ st.1 = ((heads D frm room i).2 : Int) ∧ (i = 0 ∨ D.down = false) ∧ DAt w' (fun k => lo k ∧ k ≠ b38) pd bb D ∧ Blk w' b38 95 (logC pd frm room (heads D frm room i).1 nilSl 0 false) ∧ Ext w w' ∧ w39.heap.size ≤ w'.heap.size,
    fun st _ => 2 - st.2.toNat, ⟨0, by omega, rfl, rfl, .inl rfl, h39, hB39, hx39, Nat.le_refl _⟩, ?_⟩
  rintro ⟨n, i⟩ w41 ⟨i, hi, rfl, rfl, hdn, h41, hB41, hx41, hs41⟩
  refine ⟨fun hlt => ?_, fun hge => ?_⟩
  · have hlt : i < 2 := by have := of_decide_eq_true hlt; simp only at this; omega
    refine jn_of fun k5 hk5 => ?_
    have ei : IntKind.i64.wrap ((frm : Int) + (i : Int)) = ((frm + i : Nat) : Int) := by rw [w64_eq (by omega) (by omega)]; omega
    simp only
    rw [ei]
    by_cases hd : D.down = true
    · refine cR_of (read_ok h41 ((frm + i : Nat) : Int)) ?_
      rintro ⟨y, e⟩ w51 ⟨hx51, hr⟩
      have hwhy : D.why ((frm + i : Nat) : Int) = 6 := by unfold Dk.why; rw [if_pos hd]
      rw [hwhy] at hr
      rcases hr with ⟨_, hr⟩ | ⟨hr, _⟩
      · cases hr
        refine ⟨fun _ => ?_, fun h => absurd h (by simp)⟩
        unfold openD
        rw [if_pos hd]
        exact ⟨rfl, (h41.mono fun k _ hk => hk.1).ext hx51, Fr.of (hx41.trans hx51)⟩
      · cases hr
    have hd : D.down = false := by simpa using hd
    refine cR_of (read_up2 h41 hd (i := frm + i) (by omega)) ?_
    rintro x50 w51 ⟨hx51, he, hc50, hb50, hl50⟩
    rw [he]
    refine ⟨fun h => absurd h (by simp), fun _ => ?_⟩
    have hB51 := hB41.ext hx51
    refine ⟨(room : Int), by rw [add_plain]; exact hB51.cell rfl, ?_⟩
    refine cR_of (right_ok w51 x50.1 _ hb50 hc50 hl50 room (by omega)) ?_
    rintro x54 w55 ⟨rfl, hx55⟩
    have hB55 := hB51.ext hx55
    have hxx := hx51.trans hx55
    refine ⟨((heads D frm room i).1 : Int), by rw [add_plain]; exact hB55.cell rfl, ?_⟩
    have e1 : IntKind.i64.wrap ((i : Int) + 1) = ((i + 1 : Nat) : Int) := by rw [w64_eq (by omega) (by omega)]; omega
    have hsz : w39.heap.size ≤ w55.heap.size := Nat.le_trans hs41 hxx.size
    refine ⟨fun hlt2 => ?_, fun hge2 => ?_⟩
    · have hlt2 : (heads D frm room i).1 < (right (nowAt D (frm + i)) room).1 := by have := of_decide_eq_true hlt2; simp only at this; omega
      show st1 _ _ _ _
      rw [add_plain]
      refine st1_blk hB55 (by simp) fun w58 hB58 hf58 => ?_
      rw [hk5]
      simp only
      rw [e1]
      have eh : heads D frm room (i + 1) = right (nowAt D (frm + i)) room := by rw [heads, headStep, if_pos hlt2]
      refine ⟨⟨i + 1, by omega, rfl, by rw [eh], .inr hd, (h41.ext hxx).fr hf58 fun k hk e => hk.2 e, by rw [eh]; exact hB58, hxf hf58 (hx41.trans hxx), Nat.le_trans hsz hf58.size⟩, by omega⟩
    · have hge2 : ¬ (heads D frm room i).1 < (right (nowAt D (frm + i)) room).1 := by have := of_decide_eq_false hge2; simp only at this; omega
      rw [hk5]
      simp only
      rw [e1]
      have eh : heads D frm room (i + 1) = heads D frm room i := by rw [heads, headStep, if_neg hge2]
      refine ⟨⟨i + 1, by omega, rfl, by rw [eh], .inr hd, h41.ext hxx, by rw [eh]; exact hB55, hx41.trans hxx, hsz⟩, by omega⟩
  · have hge : i = 2 := by have := of_decide_eq_false hge; simp only at this; omega
    subst hge
    have hd : D.down = false := hdn.resolve_left (by decide)
    have hle := heads_le D frm room 2
    unfold openD
    rw [if_neg (by rw [hd]; simp), ← heads_two]
    obtain ⟨sq, hsq⟩ : ∃ s, s = (heads D frm room 2).1 := ⟨_, rfl⟩
    obtain ⟨n, hn⟩ : ∃ s, s = (heads D frm room 2).2 := ⟨_, rfl⟩
    rw [← hsq] at hB41 hle
    rw [← hn] at hle
    simp only [← hsq, ← hn]
    have hb38n : ¬ Foot pd bb b38 := by rintro (e | e) <;> omega
    refine ⟨(sq : Int), by rw [add_plain]; exact hB41.cell rfl, ?_⟩
    refine ⟨fun h0 => ?_, fun hne => ?_⟩
    · have h0 : sq = 0 := by have := of_decide_eq_true h0; omega
      rw [if_pos h0]
      refine cR_of (head_ok h41 (fun hk => hk.2 rfl) hB41 (hBn hs41) hbd (by omega) 1 0 (by decide) (by decide)) ?_
      rintro x70 w71 ⟨rfl, h71, hl71, hf71⟩
      have hF : Fr (Foot pd bb) w w71 := by
        refine ⟨hf71.os.trans hx41.os, hf71.tape.trans hx41.tape, hf71.output.trans hx41.output, Nat.le_trans hx41.size hf71.size, fun k hk hx => ?_⟩
        refine (hf71.block k (Nat.lt_of_lt_of_le hk hx41.size) ?_).trans (hx41.block k hk)
        rintro (e | e)
        · exact hx e
        · omega
      refine ⟨fun hne => ?_, fun he => ?_⟩
      · have hne := nd_t hne
        rw [if_neg hne]
        exact ⟨rfl, h71.mono fun k _ hk => hk.1, hF⟩
      · have he := nd_f he
        rw [if_pos he]
        rw [if_pos he, decide_eq_false (by rw [he]; simp)] at hl71
        refine ⟨b38, rfl, by rw [hb38]; exact Nat.le_refl _, rfl, OwnParts.nil _ _, ?_, hF⟩
        refine ⟨b38, nilSl, h71.mono fun k _ hk => ⟨hk, hk.2⟩, hl71, ⟨rfl, rfl⟩, Nat.le_refl _, fun _ => ⟨rfl, rfl⟩, (fun a ha => by cases ha), hl71.lt, hlo _ (by rw [hb38]; exact Nat.le_refl _), ⟨by omega, hrl.1, by show 1 ≤ last; decide, Nat.zero_le _, Nat.le_refl _⟩⟩
    · have hne : sq ≠ 0 := by have := of_decide_eq_false hne; omega
      rw [if_neg hne]
      -- the bytes
      refine ⟨fun st w' => ∃ k : Nat, k ≤ (n + 511) / 512 ∧ st.2 = ((512 * k : Nat) : Int) ∧ Own w' w41.heap.size 5 1 st.1 (u8s (blocksOf D frm k)) ∧ (blocksOf D frm k).length = 512 * k ∧ Ext w41 w',
        fun st _ => n - st.2.toNat, ⟨0, Nat.zero_le _, rfl, Own.nil _ _ _ _, rfl, Ext.refl _⟩, ?_⟩
      rintro ⟨s, j⟩ w74 ⟨k, hk, rfl, ho, hbl, hx74⟩
      simp only at ho ⊢
      have h74 := h41.ext hx74
      have hol := ho.length
      rw [u8s_length, hbl] at hol
      refine ⟨fun hlt => ?_, fun hge => ?_⟩
      · have hlt : 512 * k < n := by have := of_decide_eq_true hlt; omega
        have ei : IntKind.i64.wrap (IntKind.i64.wrap ((frm : Int) + 2) + IntKind.i64.wrap (Int.tdiv ((512 * k : Nat) : Int) 512)) = ((frm + 2 + k : Nat) : Int) := by
          rw [w64_eq (x := (frm : Int) + 2) (by omega) (by omega), Int.tdiv_eq_ediv_of_nonneg (by omega), w64_eq (x := ((512 * k : Nat) : Int) / 512) (by omega) (by omega), w64_eq (by omega) (by omega)]; omega
        rw [ei]
        refine cR_of (read_up2 h74 hd (i := frm + 2 + k) (by omega)) ?_
        rintro x83 w84 ⟨hx84, he, hc83, hb83, hl83⟩
        rw [he]
        refine ⟨fun h => absurd h (by simp), fun _ => ?_⟩
        have hb83l := hb83.1
        refine app_ok (base := w41.heap.size) mk_39 rfl (by decide) (ho.ext hx84) (news := u8s (nowAt D (frm + 2 + k))) (by rw [u8s_length]; omega) hb83.2 (u8s_one _) (by simp only [maxLen]; omega) (by first | omega | (simp only; omega)) (hx74.trans hx84).size ?_
        intro s' w' hl' ho' _ hB'
        have e1 : IntKind.i64.wrap (((512 * k : Nat) : Int) + 512) = ((512 * (k + 1) : Nat) : Int) := by rw [w64_eq (by omega) (by omega)]; omega
        rw [e1]
        refine ⟨⟨k + 1, by omega, rfl, by rw [blocksOf_succ, u8s_append]; exact ho', by rw [blocksOf_succ, List.length_append, hbl, hl83]; omega, hB' _ _ (hx74.trans hx84) (Nat.le_refl _) (hx74.trans hx84).size⟩, by omega⟩
      · have hge : n ≤ 512 * k := by have := of_decide_eq_false hge; omega
        have hkk : k = (n + 511) / 512 := by omega
        have hda : dataOf D frm n = (blocksOf D frm k).take n := by unfold dataOf; rw [← hkk]
        have hcap := ho.cap
        refine ⟨⟨by omega, by omega, by omega⟩, ?_⟩
        have hcut : Bytes w74 (s.cut 1 ((0 : Nat) : Int) (n : Int) (s.cap : Int)) (((blocksOf D frm k).take n).drop 0) := ho.bytes.cut (Nat.zero_le _) (by omega) (by omega)
        rw [List.drop_zero, ← hda] at hcut
        have hcut0 : Bytes w74 (s.cut 1 0 (n : Int) (s.cap : Int)) (dataOf D frm n) := hcut
        have hdl : (dataOf D frm n).length = n := by rw [hcut.1]; show (n : Int).toNat - 0 = n; omega
        refine cR_of (clip8_ok w74 (s.cut 1 0 (n : Int) (s.cap : Int)) (by show (n : Int).toNat - (0 : Int).toNat ≤ (s.cap : Int).toNat - (0 : Int).toNat; omega)) ?_
        rintro x88 w89 ⟨hx88, rfl⟩
        have hB74 := hB41.ext hx74
        have h88l : x88.len = n := by rw [hx88]; show (n : Int).toNat - 0 = n; omega
        have h88c : x88.cap = x88.len := by rw [hx88]
        have h88a : x88.a = (s.cut 1 0 (n : Int) (s.cap : Int)).a := by rw [hx88]
        have h88b : Bytes w74 x88 (dataOf D frm n) := ⟨by rw [hdl, h88l], by rw [h88a]; exact hcut0.2⟩
        have h88n : x88.a = none → x88.len = 0 := by
          intro hn0
          have := h88b.2
          rw [hn0] at this
          have h5 : u8s (dataOf D frm n) = [] := this
          have := congrArg List.length h5
          rw [u8s_length, hdl] at this
          rw [h88l]; exact this
        -- where it lies
        have h88f : ∀ a, x88.a = some a → w41.heap.size ≤ a.block ∧ a.block < w74.heap.size := by
          intro a ha
          rw [h88a] at ha
          have hsa : ∀ a', s.a = some a' → w41.heap.size ≤ a'.block ∧ a'.block < w74.heap.size := by
            intro a' ha'
            refine World.ownsRow.lt ho a'.block ?_
            obtain ⟨sa, sl, sc⟩ := s
            simp only at ha'
            subst ha'
            rfl
          unfold Sl.cut at ha
          simp only at ha
          split at ha
          · exact hsa a ha
          · cases hss : s.a with
            | none => rw [hss] at ha; cases ha
            | some a' =>
              rw [hss] at ha
              simp only [Option.map_some, Option.some.injEq] at ha
              rw [← ha, add_block]
              exact hsa a' hss
        obtain ⟨g, hg1, hg2, hg3⟩ : ∃ g, (∀ a, x88.a = some a → a.block = g ∧ g ≠ b38 ∧ lo g) ∧ g < w74.heap.size ∧ (g = b38 ∨ w41.heap.size ≤ g) := by
          cases hxa : x88.a with
          | none => exact ⟨b38, (fun a ha => by cases ha), hB74.lt, .inl rfl⟩
          | some a =>
            obtain ⟨q1, q2⟩ := h88f a hxa
            refine ⟨a.block, (fun a' ha' => by cases ha'; exact ⟨rfl, by omega, hlo _ (Nat.le_trans hx41.size q1)⟩), q2, .inr q1⟩
        show st1 _ _ _ _
        rw [add_plain]
        refine st1_blk hB74 (by simp) fun w90 hB90 hf90 => ?_
        have h90 : DAt w90 (fun k => (lo k ∧ k ≠ b38) ∧ k ≠ g) pd bb D := by
          refine ((h41.mono (base' := fun k => (lo k ∧ k ≠ b38) ∧ k ≠ g) fun k hk hu => ⟨hu, ?_⟩).ext hx74).fr hf90 fun k hk e => hk.1.2 e
          rcases hg3 with e | e
          · rw [e]; exact hu.2
          · omega
        have hb90 : Bytes w90 x88 (dataOf D frm n) := hf90.bytes (fun a ha e => by
          have e : a.block = b38 := e
          obtain ⟨q1, q2, _⟩ := hg1 a ha
          omega) h88b
        have hx90 := hxf hf90 (hx41.trans hx74)
        refine ⟨x88, hB90.cell rfl, ?_⟩
        refine cR_of (parse_ok w90 x88 _ hb90 (by omega) (fun hn0 => ⟨h88n hn0, by rw [h88c]; exact h88n hn0⟩) (by omega)) ?_
        rintro ⟨rs, e⟩ w93 ⟨he, hrs, hx93⟩
        simp only at he hrs
        subst he
        have hx93' := hx90.trans hx93
        refine ⟨fun hne => ?_, fun h0 => ?_⟩
        · have hne := nd_t hne
          rw [if_neg hne]
          exact ⟨rfl, ((h90.mono fun k _ hk => hk.1.1).ext hx93), Fr.of hx93'⟩
        · have h0 := nd_f h0
          rw [if_pos h0]
          have hB93 := hB90.ext hx93
          show st1 _ _ _ _
          rw [add_plain]
          refine st1_blk hB93 (by simp) fun w95 hB95 hf95 => ?_
          have hrl2 := hrs.len
          have hx95 := hxf hf95 hx93'
          rw [hrl2] at hB95
          refine ⟨b38, rfl, by rw [hb38]; exact Nat.le_refl _, rfl, ?_, ?_, Fr.of hx95⟩
          · obtain ⟨ss, q1, q2, q3⟩ := hrs
            have far : ∀ {e : TypeId} {q : Sl} {ys : List Value}, Own w93 w90.heap.size e 1 q ys → Own w95 w.heap.size e 1 q ys := by
              intro e q ys hq
              refine Own.lower (hf95.own (fun b hb e => ?_) hq) hx90.size
              have e : b.block = b38 := e
              have := (World.ownsRow.lt hq b.block (by obtain ⟨sa, sl, sc⟩ := q; simp only at hb; subst hb; rfl)).1
              have := hB90.lt
              omega
            exact ⟨ss, q1, far q2, fun k s b hs hb => far (q3 k s b hs hb)⟩
          · refine ⟨g, x88, (h90.ext hx93).fr hf95 fun k hk e => hk.1.2 e, hB95, ?_, by omega, (fun hn0 => ⟨h88n hn0, by rw [h88c]; exact h88n hn0⟩), hg1, ?_, hlo _ (by rw [hb38]; exact Nat.le_refl _), ⟨by omega, hrl.1, hle.1, by show (dataOf D frm n).length ≤ room; omega, parse_count _⟩⟩
            · refine hf95.bytes (fun a ha e => ?_) (hb90.ext hx93)
              have e : a.block = b38 := e
              obtain ⟨q1, q2, _⟩ := hg1 a ha
              omega
            · have := hf90.size; have := hx93.size; have := hf95.size
              omega
end
end Go.Proofs.Ytagkcbbbdlmcjaa
end
section
/- The typed readings of the functions, and that the program meets each: written by gen.py (a program of this session). -/
set_option linter.unusedVariables false
set_option linter.unusedSimpArgs false
namespace Go.Proofs.Ytagkcbbbdlmcjaa
open Go.Lift
set_option maxRecDepth 100000 in
set_option maxHeartbeats 4000000 in
theorem s13_calls (K : Bool → World → Prop)  (w : World) (h : s13 K  w) :
    Calls Try.prog 13 #[] w (Ret r13 K) := by
  unfold s13 at h
  refine calls_of_CW (n := 72) Try.func13 rfl rfl rfl ?_
  refine CW.seq ?_
  refine CW.region ?_
  refine RL.opS trivial rfl (OpW.assign (v := .bool false) rfl ?_)
  refine RL.nil ?_
  refine CW.seq ?_
  refine CW.region ?_
  refine RL.opS trivial rfl (OpW.callR (al := [.int .i64 4]) Try.func15 fb_15 fn_15 rfl h (fun x1 w2 h => ?_))
  refine RL.opS trivial rfl (OpW.move (v := .tuple #[.pointer x1.1, .int .i64 x1.2]) rfl ?_)
  refine RL.opS trivial rfl (OpW.extract (v := .pointer x1.1) rfl rfl ?_)
  refine RL.opS trivial rfl (OpW.extract (v := .int .i64 x1.2) rfl rfl ?_)
  refine RL.opS trivial rfl (OpW.assign (v := .pointer x1.1) rfl ?_)
  refine RL.opS trivial rfl (OpW.assign (v := .int .i64 x1.2) rfl ?_)
  refine RL.nil ?_
  refine CW.seq ?_
  refine CW.region ?_
  refine RL.opS trivial rfl (OpW.move (v := .pointer x1.1) rfl ?_)
  refine RL.opS trivial rfl (OpW.callR (al := [.pointer x1.1, .int .i64 1, .int .i64 3]) Try.func16 fb_16 fn_16 rfl h (fun x3 w4 h => ?_))
  refine RL.opS trivial rfl (OpW.move (v := .tuple #[.pointer x3.1, Sl.v x3.2.1, .int .i64 x3.2.2]) rfl ?_)
  refine RL.opS trivial rfl (OpW.extract (v := .pointer x3.1) rfl rfl ?_)
  refine RL.opS trivial rfl (OpW.extract (v := Sl.v x3.2.1) rfl rfl ?_)
  refine RL.opS trivial rfl (OpW.extract (v := .int .i64 x3.2.2) rfl rfl ?_)
  refine RL.opS trivial rfl (OpW.assign (v := .pointer x3.1) rfl ?_)
  refine RL.opS trivial rfl (OpW.assign (v := Sl.v x3.2.1) rfl ?_)
  refine RL.opS trivial rfl (OpW.assign (v := .int .i64 x3.2.2) rfl ?_)
  refine RL.nil ?_
  refine CW.seq ?_
  refine CW.seq ?_
  refine CW.region ?_
  refine RL.opS trivial rfl (OpW.move (v := .pointer x3.1) rfl ?_)
  refine RL.opS trivial rfl (OpW.ptrNil (b := x3.1.isNone) (p := x3.1) ptr_35 rfl rfl rfl ?_)
  refine RL.opS trivial rfl (OpW.move (v := .bool (x3.1.isNone)) rfl ?_)
  refine jn_elim h ?_; clear h; intro k93 hk94 h
  refine RL.joinAt (A := Bool) 4 (fun s7 ρ => ρ 22 = .bool s7 ∧ ρ 1 = .pointer x1.1 ∧ ρ 3 = .pointer x3.1 ∧ ρ 5 = .int .i64 x3.2.2) k93 ?_ ?_
  · rintro s7 ρ w8 ⟨e9, e10, e11, e12⟩ h
    subst hk94
    dsimp only [List.drop]
    refine RL.opS trivial rfl (OpW.move (v := .bool s7) e9 ?_)
    refine jn_elim h ?_; clear h; intro k91 hk92 h
    refine RL.joinAt (A := Bool) 3 (fun s15 ρ => ρ 26 = .bool s15 ∧ ρ 1 = .pointer x1.1 ∧ ρ 3 = .pointer x3.1) k91 ?_ ?_
    · rintro s15 ρ w16 ⟨e17, e18, e19⟩ h
      subst hk92
      dsimp only [List.drop]
      refine RL.opS trivial rfl (OpW.move (v := .bool s15) e17 ?_)
      refine jn_elim h ?_; clear h; intro k89 hk90 h
      refine RL.joinAt (A := Bool) 7 (fun s29 ρ => ρ 34 = .bool s29 ∧ ρ 1 = .pointer x1.1 ∧ ρ 3 = .pointer x3.1) k89 ?_ ?_
      · rintro s29 ρ w30 ⟨e31, e32, e33⟩ h
        subst hk90
        dsimp only [List.drop]
        refine RL.nil ?_
        obtain ⟨ha, hc⟩ := h
        refine CW.cond (b := s29) e31 (fun hb34 => ?_) (fun hb34 => ?_)
        · have h := ha hb34; clear ha hc
          refine CW.seq ?_
          refine CW.region ?_
          refine RL.opS trivial rfl (OpW.assign (v := .bool false) rfl ?_)
          refine RL.nil ?_
          refine CW.ret ?_
          exact ret_intro (res1 rfl rfl) ⟨false, rfl, h⟩
        · have h := hc hb34; clear ha hc
          refine CW.skip ?_
          refine CW.seq ?_
          refine CW.region ?_
          refine RL.opS trivial rfl (OpW.move (v := .pointer x1.1) e32 ?_)
          refine RL.opS trivial rfl (OpW.callR (al := [.pointer x1.1, .int .i64 1, .int .i64 3]) Try.func16 fb_16 fn_16 rfl h (fun x35 w36 h => ?_))
          refine RL.opS trivial rfl (OpW.move (v := .tuple #[.pointer x35.1, Sl.v x35.2.1, .int .i64 x35.2.2]) rfl ?_)
          refine RL.opS trivial rfl (OpW.extract (v := .pointer x35.1) rfl rfl ?_)
          refine RL.opS trivial rfl (OpW.extract (v := Sl.v x35.2.1) rfl rfl ?_)
          refine RL.opS trivial rfl (OpW.extract (v := .int .i64 x35.2.2) rfl rfl ?_)
          refine RL.opS trivial rfl (OpW.assign (v := Sl.v x35.2.1) rfl ?_)
          refine RL.opS trivial rfl (OpW.assign (v := .int .i64 x35.2.2) rfl ?_)
          refine RL.nil ?_
          refine CW.seq ?_
          refine CW.region ?_
          refine RL.opS trivial rfl (OpW.move (v := .int .i64 x35.2.2) rfl ?_)
          refine RL.opS trivial rfl (OpW.bin (k := .i64) (a := x35.2.2) (b := 0) (v := .bool (decide (x35.2.2 = 0))) rfl rfl rfl ?_)
          refine RL.opS trivial rfl (OpW.move (v := .bool (decide (x35.2.2 = 0))) rfl ?_)
          refine jn_elim h ?_; clear h; intro k87 hk88 h
          refine RL.joinAt (A := Bool) 4 (fun s39 ρ => ρ 47 = .bool s39 ∧ ρ 3 = .pointer x3.1 ∧ ρ 4 = Sl.v x35.2.1) k87 ?_ ?_
          · rintro s39 ρ w40 ⟨e41, e42, e43⟩ h
            subst hk88
            dsimp only [List.drop]
            refine RL.opS trivial rfl (OpW.move (v := .bool s39) e41 ?_)
            refine jn_elim h ?_; clear h; intro k85 hk86 h
            refine RL.joinAt (A := Bool) 6 (fun s50 ρ => ρ 54 = .bool s50 ∧ ρ 3 = .pointer x3.1 ∧ ρ 4 = Sl.v x35.2.1) k85 ?_ ?_
            · rintro s50 ρ w51 ⟨e52, e53, e54⟩ h
              subst hk86
              dsimp only [List.drop]
              refine RL.opS trivial rfl (OpW.move (v := .bool s50) e52 ?_)
              refine jn_elim h ?_; clear h; intro k83 hk84 h
              refine RL.joinAt (A := Bool) 6 (fun s60 ρ => ρ 61 = .bool s60 ∧ ρ 3 = .pointer x3.1) k83 ?_ ?_
              · rintro s60 ρ w61 ⟨e62, e63⟩ h
                subst hk84
                dsimp only [List.drop]
                refine RL.opS trivial rfl (OpW.move (v := .bool s60) e62 ?_)
                refine jn_elim h ?_; clear h; intro k81 hk82 h
                refine RL.joinAt (A := Bool) 4 (fun s68 ρ => ρ 66 = .bool s68 ∧ ρ 3 = .pointer x3.1) k81 ?_ ?_
                · rintro s68 ρ w69 ⟨e70, e71⟩ h
                  subst hk82
                  dsimp only [List.drop]
                  refine RL.opS trivial rfl (OpW.move (v := .bool s68) e70 ?_)
                  refine jn_elim h ?_; clear h; intro k79 hk80 h
                  refine RL.joinAt (A := Bool) 4 (fun s76 ρ => ρ 71 = .bool s76) k79 ?_ ?_
                  · rintro s76 ρ w77 e78 h
                    subst hk80
                    dsimp only [List.drop]
                    refine RL.opS trivial rfl (OpW.assign (v := .bool s76) e78 ?_)
                    refine RL.nil ?_
                    refine CW.ret ?_
                    exact ret_intro (res1 rfl rfl) ⟨s76, rfl, h⟩
                  · clear hk80
                    dsimp only [List.take]
                    obtain ⟨ha, hc⟩ := h
                    rcases Bool.eq_false_or_eq_true s68 with hb72 | hb72
                    · have h := ha hb72; clear ha hc
                      refine RL.opS (wanted_of rfl rfl hb72) rfl (OpW.move (v := .pointer x3.1) e71 ?_)
                      refine RL.opS (wanted_of rfl rfl hb72) rfl (OpW.callR (al := [.pointer x3.1]) Try.func22 fb_22 fn_22 rfl h (fun x74 w75 h => ?_))
                      refine RL.opS (wanted_of rfl rfl hb72) rfl (OpW.bin (k := .i64) (a := x74) (b := 2) (v := .bool (decide (x74 = 2))) rfl rfl rfl ?_)
                      refine RL.opS trivial rfl (OpW.pick (b := true) (v := .bool (decide (x74 = 2))) (congrArg Value.bool hb72) rfl ?_)
                      refine RL.nil ?_
                      exact ⟨(decide (x74 = 2)), rfl, h⟩
                    · have h := hc hb72; clear ha hc
                      refine RL.skipS (notWanted_of rfl rfl hb72) rfl ?_
                      refine RL.skipS (notWanted_of rfl rfl hb72) rfl ?_
                      refine RL.skipS (notWanted_of rfl rfl hb72) rfl ?_
                      refine RL.opS trivial rfl (OpW.pick (b := false) (v := .bool false) (congrArg Value.bool hb72) rfl ?_)
                      refine RL.nil ?_
                      exact ⟨false, rfl, h⟩
                · clear hk82
                  dsimp only [List.take]
                  obtain ⟨ha, hc⟩ := h
                  rcases Bool.eq_false_or_eq_true s60 with hb64 | hb64
                  · have h := ha hb64; clear ha hc
                    refine RL.opS (wanted_of rfl rfl hb64) rfl (OpW.move (v := .pointer x3.1) e63 ?_)
                    refine RL.opS (wanted_of rfl rfl hb64) rfl (OpW.callR (al := [.pointer x3.1]) Try.func17 fb_17 fn_17 rfl h (fun x66 w67 h => ?_))
                    refine RL.opS (wanted_of rfl rfl hb64) rfl (OpW.bin (k := .i64) (a := x66) (b := 500) (v := .bool (decide (x66 = 500))) rfl rfl rfl ?_)
                    refine RL.opS trivial rfl (OpW.pick (b := true) (v := .bool (decide (x66 = 500))) (congrArg Value.bool hb64) rfl ?_)
                    refine RL.nil ?_
                    exact ⟨(decide (x66 = 500)), ⟨rfl, e63⟩, h⟩
                  · have h := hc hb64; clear ha hc
                    refine RL.skipS (notWanted_of rfl rfl hb64) rfl ?_
                    refine RL.skipS (notWanted_of rfl rfl hb64) rfl ?_
                    refine RL.skipS (notWanted_of rfl rfl hb64) rfl ?_
                    refine RL.opS trivial rfl (OpW.pick (b := false) (v := .bool false) (congrArg Value.bool hb64) rfl ?_)
                    refine RL.nil ?_
                    exact ⟨false, ⟨rfl, e63⟩, h⟩
              · clear hk84
                dsimp only [List.take]
                obtain ⟨ha, hc⟩ := h
                rcases Bool.eq_false_or_eq_true s50 with hb55 | hb55
                · have h := ha hb55; clear ha hc
                  refine RL.opS (wanted_of rfl rfl hb55) rfl (OpW.move (v := Sl.v x35.2.1) e54 ?_)
                  obtain ⟨a57_, a57, h1, h2, h3, h4, h⟩ := h
                  refine RL.opS (wanted_of rfl rfl hb55) rfl (OpW.indexE (a' := a57) slice_22 rfl rfl h1 h2 h3 h4 ?_)
                  obtain ⟨x59, h1, h⟩ := h
                  refine RL.opS (wanted_of rfl rfl hb55) rfl (OpW.load1 (v := Sl.v x59) one_39 rfl h1 ?_)
                  refine RL.opS (wanted_of rfl rfl hb55) rfl (OpW.len (s := x59) slice_39 rfl ?_)
                  refine RL.opS (wanted_of rfl rfl hb55) rfl (OpW.bin (k := .i64) (a := (x59.len : Int)) (b := 0) (v := .bool (decide ((x59.len : Int) = 0))) rfl rfl rfl ?_)
                  refine RL.opS trivial rfl (OpW.pick (b := true) (v := .bool (decide ((x59.len : Int) = 0))) (congrArg Value.bool hb55) rfl ?_)
                  refine RL.nil ?_
                  exact ⟨(decide ((x59.len : Int) = 0)), ⟨rfl, e53⟩, h⟩
                · have h := hc hb55; clear ha hc
                  refine RL.skipS (notWanted_of rfl rfl hb55) rfl ?_
                  refine RL.skipS (notWanted_of rfl rfl hb55) rfl ?_
                  refine RL.skipS (notWanted_of rfl rfl hb55) rfl ?_
                  refine RL.skipS (notWanted_of rfl rfl hb55) rfl ?_
                  refine RL.skipS (notWanted_of rfl rfl hb55) rfl ?_
                  refine RL.opS trivial rfl (OpW.pick (b := false) (v := .bool false) (congrArg Value.bool hb55) rfl ?_)
                  refine RL.nil ?_
                  exact ⟨false, ⟨rfl, e53⟩, h⟩
            · clear hk86
              dsimp only [List.take]
              obtain ⟨ha, hc⟩ := h
              rcases Bool.eq_false_or_eq_true s39 with hb44 | hb44
              · have h := ha hb44; clear ha hc
                refine RL.opS (wanted_of rfl rfl hb44) rfl (OpW.move (v := Sl.v x35.2.1) e43 ?_)
                obtain ⟨a46_, a46, h1, h2, h3, h4, h⟩ := h
                refine RL.opS (wanted_of rfl rfl hb44) rfl (OpW.indexE (a' := a46) slice_22 rfl rfl h1 h2 h3 h4 ?_)
                obtain ⟨x48, h1, h⟩ := h
                refine RL.opS (wanted_of rfl rfl hb44) rfl (OpW.load1 (v := Sl.v x48) one_39 rfl h1 ?_)
                obtain ⟨x49, h1, h2, h⟩ := h
                refine RL.opS (wanted_of rfl rfl hb44) rfl (OpW.b2s bsl_39 str_9 rfl h1 h2 ?_)
                refine RL.opS (wanted_of rfl rfl hb44) rfl (OpW.strCmp (b := decide (x49 = [97, 98])) rfl rfl rfl ?_)
                refine RL.opS trivial rfl (OpW.pick (b := true) (v := .bool (decide (x49 = [97, 98]))) (congrArg Value.bool hb44) rfl ?_)
                refine RL.nil ?_
                exact ⟨(decide (x49 = [97, 98])), ⟨rfl, e42, e43⟩, h⟩
              · have h := hc hb44; clear ha hc
                refine RL.skipS (notWanted_of rfl rfl hb44) rfl ?_
                refine RL.skipS (notWanted_of rfl rfl hb44) rfl ?_
                refine RL.skipS (notWanted_of rfl rfl hb44) rfl ?_
                refine RL.skipS (notWanted_of rfl rfl hb44) rfl ?_
                refine RL.skipS (notWanted_of rfl rfl hb44) rfl ?_
                refine RL.opS trivial rfl (OpW.pick (b := false) (v := .bool false) (congrArg Value.bool hb44) rfl ?_)
                refine RL.nil ?_
                exact ⟨false, ⟨rfl, e42, e43⟩, h⟩
          · clear hk88
            dsimp only [List.take]
            obtain ⟨ha, hc⟩ := h
            rcases Bool.eq_false_or_eq_true (decide (x35.2.2 = 0)) with hb37 | hb37
            · have h := ha hb37; clear ha hc
              refine RL.opS (wanted_of rfl rfl hb37) rfl (OpW.move (v := Sl.v x35.2.1) rfl ?_)
              refine RL.opS (wanted_of rfl rfl hb37) rfl (OpW.len (s := x35.2.1) slice_22 rfl ?_)
              refine RL.opS (wanted_of rfl rfl hb37) rfl (OpW.bin (k := .i64) (a := (x35.2.1.len : Int)) (b := 2) (v := .bool (decide ((x35.2.1.len : Int) = 2))) rfl rfl rfl ?_)
              refine RL.opS trivial rfl (OpW.pick (b := true) (v := .bool (decide ((x35.2.1.len : Int) = 2))) (congrArg Value.bool hb37) rfl ?_)
              refine RL.nil ?_
              exact ⟨(decide ((x35.2.1.len : Int) = 2)), ⟨rfl, e33, rfl⟩, h⟩
            · have h := hc hb37; clear ha hc
              refine RL.skipS (notWanted_of rfl rfl hb37) rfl ?_
              refine RL.skipS (notWanted_of rfl rfl hb37) rfl ?_
              refine RL.skipS (notWanted_of rfl rfl hb37) rfl ?_
              refine RL.opS trivial rfl (OpW.pick (b := false) (v := .bool false) (congrArg Value.bool hb37) rfl ?_)
              refine RL.nil ?_
              exact ⟨false, ⟨rfl, e33, rfl⟩, h⟩
      · clear hk90
        dsimp only [List.take]
        obtain ⟨ha, hc⟩ := h
        rcases Bool.eq_false_or_eq_true s15 with hb20 | hb20
        · have h := ha hb20; clear ha hc
          refine RL.skipS (notWanted_of rfl rfl hb20) rfl ?_
          refine RL.skipS (notWanted_of rfl rfl hb20) rfl ?_
          refine RL.skipS (notWanted_of rfl rfl hb20) rfl ?_
          refine RL.skipS (notWanted_of rfl rfl hb20) rfl ?_
          refine RL.skipS (notWanted_of rfl rfl hb20) rfl ?_
          refine RL.skipS (notWanted_of rfl rfl hb20) rfl ?_
          refine RL.opS trivial rfl (OpW.pick (b := true) (v := .bool true) (congrArg Value.bool hb20) rfl ?_)
          refine RL.nil ?_
          exact ⟨true, ⟨rfl, e18, e19⟩, h⟩
        · have h := hc hb20; clear ha hc
          refine RL.opS (wanted_of rfl rfl hb20) rfl (OpW.move (v := .pointer x3.1) e19 ?_)
          obtain ⟨b22, hb22_⟩ : ∃ b_, b_ = w16.heap.size := ⟨_, rfl⟩
          obtain ⟨w23, hw23_⟩ : ∃ w_, w_ = w16.alloc (.cells (List.toArray [.int .u8 97, .int .u8 98]) 5) := ⟨_, rfl⟩
          have h := h b22 w23 hb22_ hw23_
          refine RL.opS (wanted_of rfl rfl hb20) rfl (OpW.buildSliceE (vs := [(0, .int .u8 97), (1, .int .u8 98)]) (cs := [.int .u8 97, .int .u8 98]) (by rfl) (by kernel_rfl) hb22_ hw23_ ?_)
          obtain ⟨b_, o_, c_, e_, fr_, h1, h2, h⟩ := h
          obtain ⟨w24, hw24_⟩ : ∃ w_, w_ = w23.freeze ⟨b_, c_.size, none⟩ 1 := ⟨_, rfl⟩
          have h := h w24 hw24_
          refine RL.opS (wanted_of rfl rfl hb20) rfl (OpW.markE bsl_39 rfl h1 h2 hw24_ ?_)
          obtain ⟨b25, hb25_⟩ : ∃ b_, b_ = w24.heap.size := ⟨_, rfl⟩
          obtain ⟨w26, hw26_⟩ : ∃ w_, w_ = w24.alloc (.cells (List.toArray [Sl.v ⟨some ⟨b22, 0, none⟩, 2, 2⟩, Sl.v nilSl]) 39) := ⟨_, rfl⟩
          have h := h b25 w26 hb25_ hw26_
          refine RL.opS (wanted_of rfl rfl hb20) rfl (OpW.buildSliceE (vs := [(0, Sl.v ⟨some ⟨b22, 0, none⟩, 2, 2⟩), (1, Sl.v nilSl)]) (cs := [Sl.v ⟨some ⟨b22, 0, none⟩, 2, 2⟩, Sl.v nilSl]) (by rfl) (by kernel_rfl) hb25_ hw26_ ?_)
          refine RL.opS (wanted_of rfl rfl hb20) rfl (OpW.callR (al := [.pointer x3.1, Sl.v ⟨some ⟨b25, 0, none⟩, 2, 2⟩]) Try.func20 fb_20 fn_20 rfl h (fun x27 w28 h => ?_))
          refine RL.opS (wanted_of rfl rfl hb20) rfl (OpW.bin (k := .i64) (a := x27) (b := 0) (v := .bool (!decide (x27 = 0))) rfl rfl rfl ?_)
          refine RL.opS trivial rfl (OpW.pick (b := false) (v := .bool (!decide (x27 = 0))) (congrArg Value.bool hb20) rfl ?_)
          refine RL.nil ?_
          exact ⟨(!decide (x27 = 0)), ⟨rfl, e18, e19⟩, h⟩
    · clear hk92
      dsimp only [List.take]
      obtain ⟨ha, hc⟩ := h
      rcases Bool.eq_false_or_eq_true s7 with hb13 | hb13
      · have h := ha hb13; clear ha hc
        refine RL.skipS (notWanted_of rfl rfl hb13) rfl ?_
        refine RL.skipS (notWanted_of rfl rfl hb13) rfl ?_
        refine RL.opS trivial rfl (OpW.pick (b := true) (v := .bool true) (congrArg Value.bool hb13) rfl ?_)
        refine RL.nil ?_
        exact ⟨true, ⟨rfl, e10, e11⟩, h⟩
      · have h := hc hb13; clear ha hc
        refine RL.opS (wanted_of rfl rfl hb13) rfl (OpW.move (v := .int .i64 x3.2.2) e12 ?_)
        refine RL.opS (wanted_of rfl rfl hb13) rfl (OpW.bin (k := .i64) (a := x3.2.2) (b := 0) (v := .bool (!decide (x3.2.2 = 0))) rfl rfl rfl ?_)
        refine RL.opS trivial rfl (OpW.pick (b := false) (v := .bool (!decide (x3.2.2 = 0))) (congrArg Value.bool hb13) rfl ?_)
        refine RL.nil ?_
        exact ⟨(!decide (x3.2.2 = 0)), ⟨rfl, e10, e11⟩, h⟩
  · clear hk94
    dsimp only [List.take]
    obtain ⟨ha, hc⟩ := h
    rcases Bool.eq_false_or_eq_true (x3.1.isNone) with hb5 | hb5
    · have h := ha hb5; clear ha hc
      refine RL.skipS (notWanted_of rfl rfl hb5) rfl ?_
      refine RL.skipS (notWanted_of rfl rfl hb5) rfl ?_
      refine RL.skipS (notWanted_of rfl rfl hb5) rfl ?_
      refine RL.opS trivial rfl (OpW.pick (b := true) (v := .bool true) (congrArg Value.bool hb5) rfl ?_)
      refine RL.nil ?_
      exact ⟨true, ⟨rfl, rfl, rfl, rfl⟩, h⟩
    · have h := hc hb5; clear ha hc
      refine RL.opS (wanted_of rfl rfl hb5) rfl (OpW.move (v := Sl.v x3.2.1) rfl ?_)
      refine RL.opS (wanted_of rfl rfl hb5) rfl (OpW.len (s := x3.2.1) slice_22 rfl ?_)
      refine RL.opS (wanted_of rfl rfl hb5) rfl (OpW.bin (k := .i64) (a := (x3.2.1.len : Int)) (b := 0) (v := .bool (!decide ((x3.2.1.len : Int) = 0))) rfl rfl rfl ?_)
      refine RL.opS trivial rfl (OpW.pick (b := false) (v := .bool (!decide ((x3.2.1.len : Int) = 0))) (congrArg Value.bool hb5) rfl ?_)
      refine RL.nil ?_
      exact ⟨(!decide ((x3.2.1.len : Int) = 0)), ⟨rfl, rfl, rfl, rfl⟩, h⟩
end Go.Proofs.Ytagkcbbbdlmcjaa
end
section
/- The typed readings of the functions, and that the program meets each: written by gen.py (a program of this session). -/
set_option linter.unusedVariables false
set_option linter.unusedSimpArgs false
namespace Go.Proofs.Ytagkcbbbdlmcjaa
open Go.Lift
set_option maxRecDepth 100000 in
set_option maxHeartbeats 4000000 in
theorem s14_calls (K : Bool → World → Prop) (p0 : Int) (p1 : Sl) (w : World) (h : s14 K p0 p1 w) :
    Calls Try.prog 14 #[.int .i64 p0, Sl.v p1] w (Ret r14 K) := by
  unfold s14 at h
  refine calls_of_CW (n := 42) Try.func14 rfl rfl rfl ?_
  refine CW.seq ?_
  refine CW.region ?_
  refine RL.opS trivial rfl (OpW.assign (v := .bool false) rfl ?_)
  refine RL.nil ?_
  refine CW.seq ?_
  refine CW.seq ?_
  refine CW.region ?_
  refine RL.opS trivial rfl (OpW.move (v := .int .i64 p0) rfl ?_)
  refine RL.opS trivial rfl (OpW.bin (k := .i64) (a := p0) (b := 3) (v := .bool (decide (p0 < 3))) rfl rfl rfl ?_)
  refine RL.opS trivial rfl (OpW.move (v := .bool (decide (p0 < 3))) rfl ?_)
  refine jn_elim h ?_; clear h; intro k49 hk50 h
  refine RL.joinAt (A := Bool) 3 (fun s3 ρ => ρ 14 = .bool s3 ∧ ρ 1 = Sl.v p1) k49 ?_ ?_
  · rintro s3 ρ w4 ⟨e5, e6⟩ h
    subst hk50
    dsimp only [List.drop]
    refine RL.opS trivial rfl (OpW.move (v := .bool s3) e5 ?_)
    refine jn_elim h ?_; clear h; intro k47 hk48 h
    refine RL.joinAt (A := Bool) 4 (fun s9 ρ => ρ 19 = .bool s9 ∧ ρ 1 = Sl.v p1) k47 ?_ ?_
    · rintro s9 ρ w10 ⟨e11, e12⟩ h
      subst hk48
      dsimp only [List.drop]
      refine RL.nil ?_
      obtain ⟨ha, hc⟩ := h
      refine CW.cond (b := s9) e11 (fun hb13 => ?_) (fun hb13 => ?_)
      · have h := ha hb13; clear ha hc
        refine CW.seq ?_
        refine CW.region ?_
        refine RL.opS trivial rfl (OpW.assign (v := .bool false) rfl ?_)
        refine RL.nil ?_
        refine CW.ret ?_
        exact ret_intro (res1 rfl rfl) ⟨false, rfl, h⟩
      · have h := hc hb13; clear ha hc
        refine CW.skip ?_
        refine CW.seq ?_
        refine CW.seq ?_
        refine CW.region ?_
        refine RL.opS trivial rfl (OpW.move (v := Sl.v p1) e12 ?_)
        refine RL.opS trivial rfl (OpW.len (s := p1) slice_30 rfl ?_)
        refine RL.opS trivial rfl (OpW.move (v := .int .i64 0) rfl ?_)
        refine RL.nil ?_
        refine CW.block ?_
        obtain ⟨I45, mu46, hI, hs⟩ := h
        refine CW.loop (σ := Int) (fun s14 ρ => ρ 22 = .int .i64 s14 ∧ ρ 20 = Sl.v p1 ∧ ρ 21 = .int .i64 (p1.len : Int)) I45 mu46 0 ⟨rfl, rfl, rfl⟩ hI ?_
        rintro s14 ρ w15 ⟨e17, e18, e19⟩ hI
        have h := hs s14 w15 hI
        clear hs hI
        refine CW.seq ?_
        refine CW.region ?_
        refine RL.opS trivial rfl (OpW.bin (k := .i64) (a := s14) (b := (p1.len : Int)) (v := .bool (decide (s14 < (p1.len : Int)))) e17 e19 rfl ?_)
        refine RL.nil ?_
        refine CW.seq ?_
        obtain ⟨ha, hc⟩ := h
        refine CW.cond (b := (decide (s14 < (p1.len : Int)))) rfl (fun hb20 => ?_) (fun hb20 => ?_)
        · have h := ha hb20; clear ha hc
          refine CW.skip ?_
          refine CW.seq ?_
          refine CW.block ?_
          refine CW.seq ?_
          refine CW.region ?_
          obtain ⟨a21_, a21, h1, h2, h3, h4, h⟩ := h
          refine RL.opS trivial rfl (OpW.indexE (a' := a21) slice_30 e18 e17 h1 h2 h3 h4 ?_)
          obtain ⟨x23, h1, h2, h⟩ := h
          refine RL.opS trivial rfl (OpW.loadA agg_29 rfl h1 h2 ?_)
          obtain ⟨hl_b24, ho_b24, h⟩ := h
          obtain ⟨b24, hb24_⟩ : ∃ b_, b_ = w15.heap.size := ⟨_, rfl⟩
          obtain ⟨w25, hw25_⟩ : ∃ w_, w_ = w15.alloc (.cells (List.toArray x23) 29) := ⟨_, rfl⟩
          have h := h b24 w25 hb24_ hw25_
          refine RL.opS trivial rfl (OpW.allocZ (b := b24) zero_29 hb24_ ?_)
          refine RL.opN trivial (OpW.storeF (zs := [Value.int .i64 0, Value.slice none 0 0, Value.int .i64 0, Value.int .u64 0, Value.int .i64 0]) (cs := x23) size_29 rfl rfl hl_b24 (by decide) ho_b24 hb24_ hw25_ ?_)
          refine RL.nil ?_
          refine CW.seq ?_
          refine CW.seq ?_
          refine CW.region ?_
          refine RL.opS trivial rfl (OpW.fieldAddr field_29_1 rfl ?_)
          obtain ⟨x26, h1, h⟩ := h
          refine RL.opS trivial rfl (OpW.load1 (v := Sl.v x26) one_22 rfl h1 ?_)
          refine RL.opS trivial rfl (OpW.len (s := x26) slice_22 rfl ?_)
          refine RL.opS trivial rfl (OpW.bin (k := .i64) (a := (x26.len : Int)) (b := 6) (v := .bool (decide (6 < (x26.len : Int)))) rfl rfl rfl ?_)
          refine RL.nil ?_
          obtain ⟨ha, hc⟩ := h
          refine CW.cond (b := (decide (6 < (x26.len : Int)))) rfl (fun hb27 => ?_) (fun hb27 => ?_)
          · have h := ha hb27; clear ha hc
            refine CW.seq ?_
            refine CW.region ?_
            refine RL.opS trivial rfl (OpW.assign (v := .bool false) rfl ?_)
            refine RL.nil ?_
            refine CW.ret ?_
            exact ret_intro (res1 rfl rfl) ⟨false, rfl, h⟩
          · have h := hc hb27; clear ha hc
            refine CW.skip ?_
            refine CW.seq ?_
            refine CW.region ?_
            refine RL.opS trivial rfl (OpW.fieldAddr field_29_1 rfl ?_)
            obtain ⟨x28, h1, h⟩ := h
            refine RL.opS trivial rfl (OpW.load1 (v := Sl.v x28) one_22 rfl h1 ?_)
            refine RL.opS trivial rfl (OpW.len (s := x28) slice_22 rfl ?_)
            refine RL.opS trivial rfl (OpW.move (v := .int .i64 0) rfl ?_)
            refine RL.nil ?_
            refine CW.block ?_
            obtain ⟨I43, mu44, hI, hs⟩ := h
            refine CW.loop (σ := Int) (fun s29 ρ => ρ 33 = .int .i64 s29 ∧ ρ 20 = Sl.v p1 ∧ ρ 21 = .int .i64 (p1.len : Int) ∧ ρ 22 = .int .i64 s14 ∧ ρ 31 = Sl.v x28 ∧ ρ 32 = .int .i64 (x28.len : Int)) I43 mu44 0 ⟨rfl, e18, e19, e17, rfl, rfl⟩ hI ?_
            rintro s29 ρ w30 ⟨e32, e33, e34, e35, e36, e37⟩ hI
            have h := hs s29 w30 hI
            clear hs hI
            refine CW.seq ?_
            refine CW.region ?_
            refine RL.opS trivial rfl (OpW.bin (k := .i64) (a := s29) (b := (x28.len : Int)) (v := .bool (decide (s29 < (x28.len : Int)))) e32 e37 rfl ?_)
            refine RL.nil ?_
            refine CW.seq ?_
            obtain ⟨ha, hc⟩ := h
            refine CW.cond (b := (decide (s29 < (x28.len : Int)))) rfl (fun hb38 => ?_) (fun hb38 => ?_)
            · have h := ha hb38; clear ha hc
              refine CW.skip ?_
              refine CW.seq ?_
              refine CW.block ?_
              refine CW.seq ?_
              refine CW.region ?_
              obtain ⟨a39_, a39, h1, h2, h3, h4, h⟩ := h
              refine RL.opS trivial rfl (OpW.indexE (a' := a39) slice_22 e36 e32 h1 h2 h3 h4 ?_)
              obtain ⟨x41, h1, h⟩ := h
              refine RL.opS trivial rfl (OpW.load1 (v := Sl.v x41) one_39 rfl h1 ?_)
              refine RL.opS trivial rfl (OpW.assign (v := Sl.v x41) rfl ?_)
              refine RL.nil ?_
              refine CW.seq ?_
              refine CW.region ?_
              refine RL.opS trivial rfl (OpW.move (v := Sl.v x41) rfl ?_)
              refine RL.opS trivial rfl (OpW.len (s := x41) slice_39 rfl ?_)
              refine RL.opS trivial rfl (OpW.bin (k := .i64) (a := (x41.len : Int)) (b := 3000) (v := .bool (decide (3000 < (x41.len : Int)))) rfl rfl rfl ?_)
              refine RL.nil ?_
              obtain ⟨ha, hc⟩ := h
              refine CW.cond (b := (decide (3000 < (x41.len : Int)))) rfl (fun hb42 => ?_) (fun hb42 => ?_)
              · have h := ha hb42; clear ha hc
                refine CW.seq ?_
                refine CW.region ?_
                refine RL.opS trivial rfl (OpW.assign (v := .bool false) rfl ?_)
                refine RL.nil ?_
                refine CW.ret ?_
                exact ret_intro (res1 rfl rfl) ⟨false, rfl, h⟩
              · have h := hc hb42; clear ha hc
                refine CW.skip ?_
                refine CW.region ?_
                refine RL.opS trivial rfl (OpW.bin (k := .i64) (a := s29) (b := 1) (v := .int .i64 (IntKind.i64.wrap (s29 + 1))) e32 rfl rfl ?_)
                refine RL.opS trivial rfl (OpW.move (v := .int .i64 (IntKind.i64.wrap (s29 + 1))) rfl ?_)
                refine RL.nil ?_
                exact ⟨(IntKind.i64.wrap (s29 + 1)), ⟨rfl, e33, e34, e35, e36, e37⟩, h⟩
            · have h := hc hb38; clear ha hc
              refine CW.exit ?_
              refine CW.region ?_
              refine RL.opS trivial rfl (OpW.bin (k := .i64) (a := s14) (b := 1) (v := .int .i64 (IntKind.i64.wrap (s14 + 1))) e35 rfl rfl ?_)
              refine RL.opS trivial rfl (OpW.move (v := .int .i64 (IntKind.i64.wrap (s14 + 1))) rfl ?_)
              refine RL.nil ?_
              exact ⟨(IntKind.i64.wrap (s14 + 1)), ⟨rfl, e33, e34⟩, h⟩
        · have h := hc hb20; clear ha hc
          refine CW.exit ?_
          refine CW.seq ?_
          refine CW.region ?_
          refine RL.opS trivial rfl (OpW.assign (v := .bool true) rfl ?_)
          refine RL.nil ?_
          refine CW.ret ?_
          exact ret_intro (res1 rfl rfl) ⟨true, rfl, h⟩
    · clear hk48
      dsimp only [List.take]
      obtain ⟨ha, hc⟩ := h
      rcases Bool.eq_false_or_eq_true s3 with hb7 | hb7
      · have h := ha hb7; clear ha hc
        refine RL.skipS (notWanted_of rfl rfl hb7) rfl ?_
        refine RL.skipS (notWanted_of rfl rfl hb7) rfl ?_
        refine RL.skipS (notWanted_of rfl rfl hb7) rfl ?_
        refine RL.opS trivial rfl (OpW.pick (b := true) (v := .bool true) (congrArg Value.bool hb7) rfl ?_)
        refine RL.nil ?_
        exact ⟨true, ⟨rfl, e6⟩, h⟩
      · have h := hc hb7; clear ha hc
        refine RL.opS (wanted_of rfl rfl hb7) rfl (OpW.move (v := Sl.v p1) e6 ?_)
        refine RL.opS (wanted_of rfl rfl hb7) rfl (OpW.len (s := p1) slice_30 rfl ?_)
        refine RL.opS (wanted_of rfl rfl hb7) rfl (OpW.bin (k := .i64) (a := (p1.len : Int)) (b := 30) (v := .bool (decide (30 < (p1.len : Int)))) rfl rfl rfl ?_)
        refine RL.opS trivial rfl (OpW.pick (b := false) (v := .bool (decide (30 < (p1.len : Int)))) (congrArg Value.bool hb7) rfl ?_)
        refine RL.nil ?_
        exact ⟨(decide (30 < (p1.len : Int))), ⟨rfl, e6⟩, h⟩
  · clear hk50
    dsimp only [List.take]
    obtain ⟨ha, hc⟩ := h
    rcases Bool.eq_false_or_eq_true (decide (p0 < 3)) with hb1 | hb1
    · have h := ha hb1; clear ha hc
      refine RL.skipS (notWanted_of rfl rfl hb1) rfl ?_
      refine RL.skipS (notWanted_of rfl rfl hb1) rfl ?_
      refine RL.opS trivial rfl (OpW.pick (b := true) (v := .bool true) (congrArg Value.bool hb1) rfl ?_)
      refine RL.nil ?_
      exact ⟨true, ⟨rfl, rfl⟩, h⟩
    · have h := hc hb1; clear ha hc
      refine RL.opS (wanted_of rfl rfl hb1) rfl (OpW.move (v := .int .i64 p0) rfl ?_)
      refine RL.opS (wanted_of rfl rfl hb1) rfl (OpW.bin (k := .i64) (a := p0) (b := 7) (v := .bool (decide (7 < p0))) rfl rfl rfl ?_)
      refine RL.opS trivial rfl (OpW.pick (b := false) (v := .bool (decide (7 < p0))) (congrArg Value.bool hb1) rfl ?_)
      refine RL.nil ?_
      exact ⟨(decide (7 < p0)), ⟨rfl, rfl⟩, h⟩
end Go.Proofs.Ytagkcbbbdlmcjaa
end
