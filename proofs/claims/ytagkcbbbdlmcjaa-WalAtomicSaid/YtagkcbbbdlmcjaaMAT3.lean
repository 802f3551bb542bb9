/- Parts of a proof, one behind the other: readings of functions, what they do, and what follows. -/
import Derived.Test.YtagkcbbbdlmcjaaMAT2
set_option linter.unusedVariables false
set_option linter.unusedSimpArgs false
section
/- From a row's reading of the scripts to facts on their cells. -/
namespace Go.Proofs.Ytagkcbbbdlmcjaa
open Go.Lift Go.Lift.Disk Go.RowKit Go.ChangeShapes Go.WideShapes Go.ChangeAt Go.Deep
/-- falls somewhere -/
structure FallsAt (w : World) (s : Sl) (l : List Fall) : Prop where
 len : s.len = l.length
 cap : s.len ≤ s.cap
 cells : AtO w s.a (fallC l)
 nil : s.a = none → s = nilSl
 keep : ∀ f ∈ l, 0 ≤ f.2.1 ∧ f.2.1 < 18446744073709551616
theorem FallsAt.ext {w w' : World} {s : Sl} {l : List Fall} (h : FallsAt w s l) (hx : Ext w w') : FallsAt w' s l := ⟨h.len, h.cap, Ext.atO hx h.cells, h.nil, h.keep⟩
structure OpA where
 kind : Int
 at_ : Int
 c : UInt8
 s : List UInt8
 long : Bool
 fall : Fall
 fs : Sl
 falls : List Fall
def OpA.cells (o : OpA) : List Value := [.int .i64 o.kind, .int .i64 o.at_, .int .u8 (o.c.toNat : Int), str o.s, .bool o.long, .int .i64 o.fall.1, .int .u64 o.fall.2.1, .int .i64 o.fall.2.2, o.fs.v]
structure OpA.Ok (w : World) (o : OpA) : Prop where
 falls : FallsAt w o.fs o.falls
 keep : 0 ≤ o.fall.2.1 ∧ o.fall.2.1 < 18446744073709551616
 at_ : -9223372036854775808 ≤ o.at_ ∧ o.at_ ≤ 9223372036854775807
structure OpsAt (w : World) (s : Sl) (l : List OpA) : Prop where
 len : s.len = l.length
 cells : AtO w s.a (l.flatMap OpA.cells)
 ok : ∀ o ∈ l, o.Ok w
theorem OpsAt.ext {w w' : World} {s : Sl} {l : List OpA} (h : OpsAt w s l) (hx : Ext w w') : OpsAt w' s l :=
 ⟨h.len, Ext.atO hx h.cells, fun o ho => ⟨(h.ok o ho).falls.ext hx, (h.ok o ho).keep, (h.ok o ho).at_⟩⟩
theorem flatMap_at {α : Type} {n : Nat} (g : α → List Value) (hg : ∀ a, (g a).length = n) : ∀ (l : List α) (k : Nat) (hk : k < l.length), ((l.flatMap g).drop (k * n)).take n = g l[k]
 | a :: l, 0, _ => by
  rw [Nat.zero_mul, List.drop_zero, List.flatMap_cons, List.take_left' (hg a)]
  rfl
 | a :: l, k + 1, hk => by
  have := flatMap_at g hg l k (by simpa using hk)
  rw [List.getElem_cons_succ, ← this, List.flatMap_cons, Nat.succ_mul, Nat.add_comm, ← List.drop_drop, List.drop_left' (hg a)]
theorem flatMap_len {α : Type} {n : Nat} (g : α → List Value) (hg : ∀ a, (g a).length = n) : ∀ l : List α, (l.flatMap g).length = l.length * n
 | [] => by simp
 | a :: l => by rw [List.flatMap_cons, List.length_append, hg, flatMap_len g hg l, List.length_cons, Nat.succ_mul, Nat.add_comm]
theorem OpsAt.get {w : World} {s : Sl} {l : List OpA} (h : OpsAt w s l) {k : Nat} (hk : k < l.length) : ∃ a, s.a = some a ∧ At w (a.add (k * 9)) l[k].cells := by
 have e := flatMap_at OpA.cells (n := 9) (fun _ => rfl) l k hk
 have hl : k * 9 < (l.flatMap OpA.cells).length := by
  rw [flatMap_len OpA.cells (n := 9) (fun _ => rfl)]; omega
 obtain ⟨a, ha, _⟩ := h.cells.some_of (List.getElem?_eq_getElem hl)
 have hc := h.cells
 rw [ha] at hc
 refine ⟨a, ha, ?_⟩
 rw [← e]
 exact At.sub hc _ _
theorem at_rows {w : World} {a : Addr} {n : Nat} (g : Nat → List Value) (hg : ∀ i, (g i).length = n) : ∀ m : Nat, (∀ i, i < m → At w (a.add (i * n)) (g i)) → At w a ((List.range m).flatMap g)
 | 0, _ => fun j v hj => by simp at hj
 | m + 1, h => by
  rw [List.range_succ, List.flatMap_append]
  refine At.app (at_rows g hg m fun i hi => h i (by omega)) ?_
  rw [flatMap_len g hg, List.length_range]
  simpa using h m (by omega)
theorem at_cells {w : World} {base n : Nat} {a : Addr} {cs : List Value} (h : w.cells? base a n = some cs) : At w a cs ∧ cs.length = n := by
 obtain ⟨_, hl, hc⟩ := World.cells?_some h
 refine ⟨fun j v hj => ?_, hl⟩
 have hj2 : j < n := by rw [← hl]; exact (List.getElem?_eq_some_iff.1 hj).1
 rw [hc j hj2]; exact hj
instance : Inhabited Fall := ⟨(0, 0, 0)⟩
instance : Inhabited OpA := ⟨⟨0, 0, 0, [], false, default, nilSl, []⟩⟩
section
variable {H : Type} {enc : TypeId × Value → H} {w : World} {base : Nat} {held : Bool}
theorem int_wf64 {n : Int} (h : (Lit.int .i64 n).wf = true) : -9223372036854775808 ≤ n ∧ n ≤ 9223372036854775807 := by simpa [Lit.wf, IntKind.min, IntKind.max, IntKind.signed, IntKind.bits] using h
theorem int_wfu64 {n : Int} (h : (Lit.int .u64 n).wf = true) : 0 ≤ n ∧ n < 18446744073709551616 := by
 have : 0 ≤ n ∧ n ≤ 18446744073709551615 := by simpa [Lit.wf, IntKind.min, IntKind.max, IntKind.signed, IntKind.bits] using h
 omega
theorem int_wfu8 {n : Int} (h : (Lit.int .u8 n).wf = true) : ∃ c : UInt8, n = (c.toNat : Int) := by
 have : 0 ≤ n ∧ n ≤ 255 := by simpa [Lit.wf, IntKind.min, IntKind.max, IntKind.signed, IntKind.bits] using h
 refine ⟨UInt8.ofNat n.toNat, ?_⟩
 simp
 omega
set_option maxRecDepth 100000 in
theorem open_fall {fuel : Nat} {cs : List Value} {x : DataW H × List MemPlace} (hl : cs.length = 3) (h : DataW.trod enc Try.prog w base (fun _ => true) held fuel 27 cs = some x) : ∃ f : Fall, cs = fallOf f ∧ 0 ≤ f.2.1 ∧ f.2.1 < 18446744073709551616 := by
 obtain ⟨xs, n, _, _, _, hxl, hf⟩ := DataW.trod_struct Try.underlying27 h
 match cs, hl with
 | [c0, c1, c2], _ =>
  have f0 := hf 0 _ rfl
  have f1 := hf 1 _ rfl
  have f2 := hf 2 _ rfl
  rw [List.getElem?_eq_getElem (by rw [hxl]; decide)] at f0 f1 f2
  obtain ⟨n0, e0, _, w0⟩ := DataW.trod_int Try.underlying3 f0
  obtain ⟨n1, e1, _, w1⟩ := DataW.trod_int Try.underlying25 f1
  obtain ⟨n2, e2, _, w2⟩ := DataW.trod_int Try.underlying3 f2
  have c3 : Try.prog.cellsOf 3 = 1 := by kernel_rfl
  have c25 : Try.prog.cellsOf 25 = 1 := by kernel_rfl
  have g0 : ([c0, c1, c2].drop 0).take (Try.prog.cellsOf 3) = _ := e0; clear e0
  have g1 : ([c0, c1, c2].drop 1).take (Try.prog.cellsOf 25) = _ := e1; clear e1
  have g2 : ([c0, c1, c2].drop 2).take (Try.prog.cellsOf 3) = _ := e2; clear e2
  rw [c3] at g0 g2
  rw [c25] at g1
  simp only [List.drop_zero, List.drop_succ_cons, List.take_succ_cons, List.take_zero, List.cons.injEq, and_true] at g0 g1 g2
  subst g0; subst g1; subst g2
  exact ⟨(n0, n1, n2), rfl, int_wfu64 w1⟩
theorem open_falls {fuel : Nat} {cs : List Value} {x : DataW H × List MemPlace} (h : DataW.trod enc Try.prog w base (fun _ => true) held fuel 47 cs = some x) : ∃ s l, cs = [s.v] ∧ FallsAt w s l := by
 have cF : Try.prog.cellsOf 27 = 3 := by kernel_rfl
 rcases open_slice Try.underlying47 h with ⟨rfl, _⟩ | ⟨a, len, cap, m, n, D, Pl, rfl, _, hl, hm, hmm, _, hx⟩
 ·exact ⟨nilSl, [], rfl, rfl, Nat.le_refl _, rfl, fun _ => rfl, by simp⟩
 ·have hmc : m = cap := by simpa using hmm
  obtain ⟨f, hf⟩ := choose_fn (p := fun i (f : Fall) => At w (a.add (i * 3)) (fallOf f) ∧ 0 ≤ f.2.1 ∧ f.2.1 < 18446744073709551616) (q := fun i => i < len) (fun i hi => by
   obtain ⟨cs', h1, h2⟩ := hx i (by omega)
   rw [cF] at h1
   obtain ⟨h3, h4⟩ := at_cells h1
   obtain ⟨f, rfl, hk⟩ := open_fall h4 h2
   exact ⟨f, h3, hk⟩)
  refine ⟨⟨some a, len, cap⟩, (List.range len).map f, rfl, by simp, hl, ?_, (fun h => absurd h (by simp)), ?_⟩
  ·have := at_rows (w := w) (a := a) (n := 3) (fun i => fallOf (f i)) (fun _ => rfl) len fun i hi => (hf i hi).1
   show At w a _
   unfold fallC
   rw [List.flatMap_map]
   exact this
  ·intro g hg
   obtain ⟨i, hi, rfl⟩ := List.mem_map.1 hg
   exact (hf i (List.mem_range.1 hi)).2
set_option maxRecDepth 100000 in
theorem open_op {fuel : Nat} {cs : List Value} {x : DataW H × List MemPlace} (hl : cs.length = 9) (h : DataW.trod enc Try.prog w base (fun _ => true) held fuel 65 cs = some x) : ∃ o : OpA, cs = o.cells ∧ o.Ok w := by
 obtain ⟨xs, n, _, _, _, hxl, hf⟩ := DataW.trod_struct Try.underlying65 h
 match cs, hl with
 | [c0, c1, c2, c3, c4, c5, c6, c7, c8], _ =>
  have f0 := hf 0 _ rfl
  have f1 := hf 1 _ rfl
  have f2 := hf 2 _ rfl
  have f3 := hf 3 _ rfl
  have f4 := hf 4 _ rfl
  have f5 := hf 5 _ rfl
  have f6 := hf 6 _ rfl
  rw [List.getElem?_eq_getElem (by rw [hxl]; decide)] at f0 f1 f2 f3 f4 f5 f6
  obtain ⟨n0, e0, _, w0⟩ := DataW.trod_int Try.underlying3 f0
  obtain ⟨n1, e1, _, w1⟩ := DataW.trod_int Try.underlying3 f1
  obtain ⟨n2, e2, _, w2⟩ := DataW.trod_int Try.underlying5 f2
  obtain ⟨n3, e3, _, w3⟩ := DataW.trod_string Try.underlying9 f3
  obtain ⟨n4, e4, _⟩ := DataW.trod_bool Try.underlying4 f4
  have k3 : Try.prog.cellsOf 3 = 1 := by kernel_rfl
  have k5 : Try.prog.cellsOf 5 = 1 := by kernel_rfl
  have k9 : Try.prog.cellsOf 9 = 1 := by kernel_rfl
  have k4 : Try.prog.cellsOf 4 = 1 := by kernel_rfl
  have k27 : Try.prog.cellsOf 27 = 3 := by kernel_rfl
  have k47 : Try.prog.cellsOf 47 = 1 := by kernel_rfl
  have hl5 : (([c0, c1, c2, c3, c4, c5, c6, c7, c8].drop 5).take (Try.prog.cellsOf 27)).length = 3 := by rw [k27]; rfl
  obtain ⟨fl, e5, hk⟩ := open_fall hl5 f5
  obtain ⟨sf, lf, e6, hfs⟩ := open_falls f6
  have g0 : ([c0, c1, c2, c3, c4, c5, c6, c7, c8].drop 0).take (Try.prog.cellsOf 3) = _ := e0; clear e0
  have g1 : ([c0, c1, c2, c3, c4, c5, c6, c7, c8].drop 1).take (Try.prog.cellsOf 3) = _ := e1; clear e1
  have g2 : ([c0, c1, c2, c3, c4, c5, c6, c7, c8].drop 2).take (Try.prog.cellsOf 5) = _ := e2; clear e2
  have g3 : ([c0, c1, c2, c3, c4, c5, c6, c7, c8].drop 3).take (Try.prog.cellsOf 9) = _ := e3; clear e3
  have g4 : ([c0, c1, c2, c3, c4, c5, c6, c7, c8].drop 4).take (Try.prog.cellsOf 4) = _ := e4; clear e4
  have g5 : ([c0, c1, c2, c3, c4, c5, c6, c7, c8].drop 5).take (Try.prog.cellsOf 27) = _ := e5; clear e5
  have g6 : ([c0, c1, c2, c3, c4, c5, c6, c7, c8].drop 8).take (Try.prog.cellsOf 47) = _ := e6; clear e6
  rw [k3] at g0 g1
  rw [k5] at g2
  rw [k9] at g3
  rw [k4] at g4
  rw [k27] at g5
  rw [k47] at g6
  simp only [List.drop_zero, List.drop_succ_cons, List.take_succ_cons, List.take_zero, List.cons.injEq, and_true] at g0 g1 g2 g3 g4 g6
  simp only [fallOf, List.drop_zero, List.drop_succ_cons, List.take_succ_cons, List.take_zero, List.cons.injEq, and_true] at g5
  obtain ⟨g5, g5b, g5c⟩ := g5
  subst g0; subst g1; subst g2; subst g3; subst g4; subst g5; subst g5b; subst g5c; subst g6
  obtain ⟨c, rfl⟩ := int_wfu8 w2
  refine ⟨⟨n0, n1, c, n3.data.toList, n4, fl, sf, lf⟩, ?_, hfs, hk, int_wf64 w1⟩
  simp [OpA.cells]
theorem open_61 {fuel : Nat} {cs : List Value} {x : DataW H × List MemPlace} (h : DataW.trod enc Try.prog w base (fun _ => true) held fuel 61 cs = some x) : ∃ s : Sl, cs = [s.v] ∧ s.len ≤ s.cap ∧ s.cap ≤ maxLen ∧ ∃ l, OpsAt w s l := by
 have cO : Try.prog.cellsOf 65 = 9 := by kernel_rfl
 rcases open_slice Try.underlying61 h with ⟨rfl, _⟩ | ⟨a, len, cap, m, n, D, Pl, rfl, _, hl, hm, hmm, _, hx⟩
 ·exact ⟨nilSl, rfl, Nat.le_refl _, Nat.zero_le _, [], rfl, rfl, by simp⟩
 ·have hmc : m = cap := by simpa using hmm
  obtain ⟨f, hf⟩ := choose_fn (p := fun i (o : OpA) => At w (a.add (i * 9)) o.cells ∧ o.Ok w) (q := fun i => i < len) (fun i hi => by
   obtain ⟨cs', h1, h2⟩ := hx i (by omega)
   rw [cO] at h1
   obtain ⟨h3, h4⟩ := at_cells h1
   obtain ⟨f, rfl, hk⟩ := open_op h4 h2
   exact ⟨f, h3, hk⟩)
  refine ⟨⟨some a, len, cap⟩, rfl, hl, hm, (List.range len).map f, by simp, ?_, ?_⟩
  ·have := at_rows (w := w) (a := a) (n := 9) (fun i => (f i).cells) (fun _ => rfl) len fun i hi => (hf i hi).1
   show At w a _
   rw [List.flatMap_map]
   exact this
  ·intro g hg
   obtain ⟨i, hi, rfl⟩ := List.mem_map.1 hg
   exact (hf i (List.mem_range.1 hi)).2
set_option maxRecDepth 100000 in
theorem open_27 {r : Reach} {b0 : Nat} {v : Value} {d : DataW H} {ps : List MemPlace} (hval : Value.okWide Try.prog w r b0 27 v) (h : DataW.Trod enc Try.prog w base (fun _ => true) held 27 v d ps) :
  ∃ f : Fall, v = aggv (fallOf f) ∧ 0 ≤ f.2.1 ∧ f.2.1 < 18446744073709551616 := by
 obtain ⟨cs, rfl, hsz⟩ := okWide_struct Try.underlying27 hval
 obtain ⟨fuel, hf⟩ := h
 have cF : Try.prog.cellsOf 27 = 3 := by kernel_rfl
 have hf' : DataW.trod enc Try.prog w base (fun _ => true) held fuel 27 cs.toList = some (d, ps) := hf
 have hl3 : cs.toList.length = 3 := by rw [Array.length_toList, hsz]; exact cF
 obtain ⟨f, hcs, hk⟩ := open_fall hl3 hf'
 exact ⟨f, by unfold aggv; rw [← hcs], hk⟩
end
end Go.Proofs.Ytagkcbbbdlmcjaa
end
section
/- What a disk has behind writes, a flush and a loss of power. No program here. -/
namespace Go.Proofs.Ytagkcbbbdlmcjaa
open Go.Lift Go.Lift.Disk Go.RowKit
/-! ### the plain law -/
def lastOf (ps : List (Nat × List UInt8)) (i : Nat) (d : List UInt8) : List UInt8 := ps.foldl (fun acc p => if p.1 = i then p.2 else acc) d
theorem lastOf_append (ps : List (Nat × List UInt8)) (p : Nat × List UInt8) (i : Nat) (d : List UInt8) : lastOf (ps ++ [p]) i d = if p.1 = i then p.2 else lastOf ps i d := by simp [lastOf, List.foldl_append]
theorem lastOf_none : ∀ (ps : List (Nat × List UInt8)) (i : Nat) (d : List UInt8), (∀ p ∈ ps, p.1 ≠ i) → lastOf ps i d = d
 | [], _, _, _ => rfl
 | p :: ps, i, d, h => by
  have := lastOf_none ps i d fun q hq => h q (by simp [hq])
  unfold lastOf at this ⊢
  rw [List.foldl_cons, if_neg (h p (by simp))]
  exact this
theorem bAt_setSure {l : List Bl} {j : Nat} (b : List UInt8) {i : Nat} (hi : i < l.length) : bAt (setSure l j b) i = if j = i then ((bAt l i).1, b) else bAt l i := by
 unfold setSure
 rw [bAt_lt (by simpa using hi), List.getElem_set]
 by_cases h : j = i
 ·subst h; simp
 ·rw [if_neg h, if_neg h, bAt_lt hi]
theorem bAt_setNow {l : List Bl} {j : Nat} (b : List UInt8) {i : Nat} (hi : i < l.length) : bAt (setNow l j b) i = if j = i then (b, (bAt l i).2) else bAt l i := by
 unfold setNow
 rw [bAt_lt (by simpa using hi), List.getElem_set]
 by_cases h : j = i
 ·subst h; simp
 ·rw [if_neg h, if_neg h, bAt_lt hi]
theorem flushL_at : ∀ (ps : List (Nat × List UInt8)) (l : List Bl) (i : Nat), i < l.length → bAt (flushL l ps) i = ((bAt l i).1, lastOf ps i (bAt l i).2)
 | [], l, i, _ => rfl
 | p :: ps, l, i, hi => by
  have := flushL_at ps (setSure l p.1 p.2) i (by rw [setSure_len]; exact hi)
  unfold flushL lastOf at this ⊢
  rw [List.foldl_cons, List.foldl_cons, this, bAt_setSure _ hi]
  by_cases h : p.1 = i <;> simp [h]
theorem crashStep_at {f : Fall} {last : Int} {l : List Bl} {k : Nat} {p : Nat × List UInt8} {i : Nat} (hi : i < l.length) (h : p.1 ≠ i) : bAt (crashStep f last l k p) i = bAt l i := by
 unfold crashStep
 split
 ·rw [bAt_setSure _ hi, if_neg h]
 ·split
  ·rw [bAt_setSure _ hi, if_neg h]
  ·rfl
theorem crashL_at (f : Fall) (last : Int) : ∀ (ps : List (Nat × List UInt8)) (k : Nat) (l : List Bl) (i : Nat), i < l.length → (∀ p ∈ ps, p.1 ≠ i) → bAt (crashL f last k ps l) i = bAt l i
 | [], _, _, _, _, _ => rfl
 | p :: ps, k, l, i, hi, h => by
  rw [crashL, crashL_at f last ps (k + 1) _ i (by rw [crashStep_len]; exact hi) fun q hq => h q (by simp [hq]), crashStep_at hi (h p (by simp))]
theorem crashL_len' (f : Fall) (last : Int) : ∀ (ps : List (Nat × List UInt8)) (k : Nat) (l : List Bl), (crashL f last k ps l).length = l.length
 | [], _, _ => rfl
 | p :: ps, k, l => by rw [crashL, crashL_len' f last ps, crashStep_len]
theorem flushL_len' : ∀ (ps : List (Nat × List UInt8)) (l : List Bl), (flushL l ps).length = l.length
 | [], _ => rfl
 | p :: ps, l => by
  have := flushL_len' ps (setSure l p.1 p.2)
  unfold flushL at this ⊢
  rw [List.foldl_cons, this, setSure_len]
theorem crash_up {D : Dk} (hd : D.down = false) (f : Fall) : D.crash f = { D with bl := (crashL f ((D.pend.length : Int) - 1) 0 D.pend D.bl).map fun p => (p.2, p.2), pend := [], down := true } := by
 unfold Dk.crash
 rw [if_neg (by rw [hd]; simp)]
theorem bAt_map {l : List Bl} {g : Bl → Bl} {i : Nat} (hi : i < l.length) : bAt (l.map g) i = g (bAt l i) := by
 rw [bAt_lt (by simpa using hi), bAt_lt hi]; simp
/-- a disk that is up, of which no fall is planned, and whose blocks are what was written last -/
structure Run (n m k : Nat) (D : Dk) : Prop where
 down : D.down = false
 falls : D.falls = []
 len : D.bl.length = n
 pend : D.pend.length ≤ m
 ch : D.changes ≤ k
 now : ∀ i, i < n → (bAt D.bl i).1 = lastOf D.pend i (bAt D.bl i).2
theorem strike_bare {D : Dk} (h : D.falls = []) : D.strike = (Dk.tick D, 0) := strike_none (by rw [h]; rfl)
theorem run_write {n m k : Nat} {D : Dk} (h : Run n m k D) {i : Nat} (hi : i < n) {b : List UInt8} (hb : b.length = 512) : D.write (i : Int) b = (Dk.tick (D.put i b), 0) ∧ Run n (m + 1) (k + 1) (Dk.tick (D.put i b)) := by
 have hw : D.why (i : Int) = 0 := by
  unfold Dk.why
  rw [if_neg (by rw [h.down]; simp), if_neg (by rw [h.len]; omega)]
 refine ⟨?_, ⟨h.down, h.falls, by show (setNow _ _ _).length = n; rw [setNow_len]; exact h.len, ?_, by show D.changes + 1 ≤ k + 1; have := h.ch; omega, ?_⟩⟩
 ·unfold Dk.write
  rw [if_neg (by rw [hw]; simp), if_neg (by rw [hb]; simp), Int.toNat_natCast]
  exact strike_bare (D := D.put i b) h.falls
 ·show (D.pend ++ [(i, b)]).length ≤ m + 1
  rw [List.length_append]
  have := h.pend
  simp only [List.length_cons, List.length_nil]
  omega
 ·intro j hj
  show (bAt (setNow D.bl i b) j).1 = lastOf (D.pend ++ [(i, b)]) j (bAt (setNow D.bl i b) j).2
  rw [bAt_setNow _ (by rw [h.len]; exact hj), lastOf_append]
  by_cases he : i = j
  ·simp [he]
  ·simp only [he, if_false]
   exact h.now j hj
def Dk.flushed (D : Dk) : Dk := { Dk.tick D with bl := flushL D.bl D.pend, pend := [] }
theorem run_flush {n m k : Nat} {D : Dk} (h : Run n m k D) : D.flush = (Dk.flushed D, 0) ∧ Run n 0 (k + 1) (Dk.flushed D) ∧ ∀ i, i < n → bAt (Dk.flushed D).bl i = ((bAt D.bl i).1, (bAt D.bl i).1) := by
 have hat : ∀ i, i < n → bAt (Dk.flushed D).bl i = ((bAt D.bl i).1, (bAt D.bl i).1) := by
  intro i hi
  show bAt (flushL D.bl D.pend) i = _
  rw [flushL_at _ _ _ (by rw [h.len]; exact hi), ← h.now i hi]
 refine ⟨?_, ⟨h.down, h.falls, by show (flushL _ _).length = n; rw [flushL_len']; exact h.len, Nat.le_refl _, by show D.changes + 1 ≤ k + 1; have := h.ch; omega, ?_⟩, hat⟩
 ·unfold Dk.flush
  rw [if_neg (by rw [h.down]; simp), strike_bare h.falls, if_neg (by simp)]
  rfl
 ·intro i hi
  rw [hat i hi]
  rfl
theorem run_fresh (n : Nat) : Run n 0 0 (fresh n) := by
 refine ⟨rfl, rfl, by simp [fresh], by simp [fresh], by simp [fresh], fun i hi => ?_⟩
 have : bAt (fresh n).bl i = (zero512, zero512) := by
  rw [bAt_lt (by simp [fresh]; exact hi)]
  simp [fresh]
 rw [this]; rfl
end Go.Proofs.Ytagkcbbbdlmcjaa
end
section
/- The typed readings of the functions, and that the program meets each: written by gen.py (a program of this session). -/
namespace Go.Proofs.Ytagkcbbbdlmcjaa
open Go.Lift
set_option maxRecDepth 100000 in
set_option maxHeartbeats 4000000 in
theorem s24_calls (K : List Value → World → Prop) (p0 : Int) (w : World) (h : s24 K p0 w) :
  Calls Try.prog 24 #[.int .i64 p0] w (Ret r24 K) := by
 unfold s24 at h
 refine calls_of_CW (n := 19) Try.func24 rfl rfl rfl ?_
 refine CW.seq ?_
 refine CW.region ?_
 obtain ⟨b1, hb1_⟩ : ∃ b_, b_ = w.heap.size := ⟨_, rfl⟩
 obtain ⟨w2, hw2_⟩ : ∃ w_, w_ = w.alloc (.cells (List.toArray [Value.slice none 0 0, Value.slice none 0 0, Value.slice none 0 0, Value.int .i64 0, Value.bool false]) 49) := ⟨_, rfl⟩
 have h := h b1 w2 hb1_ hw2_
 refine RL.opS trivial rfl (OpW.allocE (b := b1) zero_49 hb1_ hw2_ ?_)
 refine RL.nil ?_
 refine CW.seq ?_
 refine CW.region ?_
 obtain ⟨h1, h2, h3, h4, h⟩ := h
 obtain ⟨b3, hb3_⟩ : ∃ b_, b_ = w2.heap.size := ⟨_, rfl⟩
 obtain ⟨w4, hw4_⟩ : ∃ w_, w_ = w2.alloc (.cells (List.replicate (Int.toNat 512 * 1) (Value.int .u8 0)).toArray 5) := ⟨_, rfl⟩
 have h := h b3 w4 hb3_ hw4_
 obtain ⟨x5, hx5_⟩ : ∃ s_ : Sl, s_ = ⟨some ⟨b3, 0, none⟩, Int.toNat 512, Int.toNat 512⟩ := ⟨_, rfl⟩
 rw [← hx5_] at h
 refine RL.opS trivial rfl (OpW.makeSliceE mk_39 (by decide) rfl rfl h1 h2 h3 h4 hb3_ hw4_ hx5_ ?_)
 obtain ⟨x6, h1, h2, h⟩ := h
 refine RL.opS trivial rfl (OpW.b2s bsl_39 str_9 rfl h1 h2 ?_)
 refine RL.opS trivial rfl (OpW.assign (v := str x6) rfl ?_)
 refine RL.nil ?_
 refine CW.seq ?_
 refine CW.region ?_
 refine RL.opS trivial rfl (OpW.assign (v := Sl.v nilSl) rfl ?_)
 refine RL.nil ?_
 refine CW.seq ?_
 refine CW.seq ?_
 refine CW.region ?_
 refine RL.opS trivial rfl (OpW.assign (v := .int .i64 0) rfl ?_)
 refine RL.nil ?_
 refine CW.block ?_
 obtain ⟨I22, mu23, hI, hs⟩ := h
 refine CW.loop (σ := Sl × Int) (fun s7 ρ => ρ 4 = Sl.v s7.1 ∧ ρ 5 = .int .i64 s7.2 ∧ ρ 0 = .int .i64 p0 ∧ ρ 2 = .pointer (some ⟨b1, 0, none⟩) ∧ ρ 3 = str x6) I22 mu23 (nilSl, 0) ⟨rfl, rfl, rfl, rfl, rfl⟩ hI ?_
 rintro s7 ρ w8 ⟨e10, e11, e12, e13, e14⟩ hI
 have h := hs s7 w8 hI
 clear hs hI
 refine CW.seq ?_
 refine CW.seq ?_
 refine CW.region ?_
 refine RL.opS trivial rfl (OpW.move (v := .int .i64 s7.2) e11 ?_)
 refine RL.opS trivial rfl (OpW.move (v := .int .i64 p0) e12 ?_)
 refine RL.opS trivial rfl (OpW.bin (k := .i64) (a := s7.2) (b := p0) (v := .bool (decide (s7.2 < p0))) rfl rfl rfl ?_)
 refine RL.nil ?_
 obtain ⟨ha, hc⟩ := h
 refine CW.cond (b := (decide (s7.2 < p0))) rfl (fun hb15 => ?_) (fun hb15 => ?_)
 ·have h := ha hb15; clear ha hc
  refine CW.skip ?_
  refine CW.seq ?_
  refine CW.block ?_
  refine CW.region ?_
  refine RL.opS trivial rfl (OpW.move (v := Sl.v s7.1) e10 ?_)
  refine RL.opS trivial rfl (OpW.move (v := str x6) e14 ?_)
  obtain ⟨b16, hb16_⟩ : ∃ b_, b_ = w8.heap.size := ⟨_, rfl⟩
  obtain ⟨w17, hw17_⟩ : ∃ w_, w_ = w8.alloc (.cells (List.toArray [str x6]) 9) := ⟨_, rfl⟩
  have h := h b16 w17 hb16_ hw17_
  refine RL.opS trivial rfl (OpW.buildSliceE (vs := [(0, str x6)]) (cs := [str x6]) (by rfl) (by kernel_rfl) hb16_ hw17_ ?_)
  obtain ⟨x18, w19, hr_, h⟩ := h
  refine RL.opS trivial rfl (OpW.appendL (v := Sl.v x18) rfl hr_ ?_)
  refine RL.opS trivial rfl (OpW.assign (v := Sl.v x18) rfl ?_)
  refine RL.nil ?_
  refine CW.region ?_
  refine RL.opS trivial rfl (OpW.move (v := .int .i64 s7.2) e11 ?_)
  refine RL.opS trivial rfl (OpW.bin (k := .i64) (a := s7.2) (b := 1) (v := .int .i64 (IntKind.i64.wrap (s7.2 + 1))) rfl rfl rfl ?_)
  refine RL.opS trivial rfl (OpW.assign (v := .int .i64 (IntKind.i64.wrap (s7.2 + 1))) rfl ?_)
  refine RL.nil ?_
  exact ⟨(x18, (IntKind.i64.wrap (s7.2 + 1))), ⟨rfl, rfl, e12, e13, e14⟩, h⟩
 ·have h := hc hb15; clear ha hc
  refine CW.exit ?_
  refine CW.seq ?_
  refine CW.region ?_
  refine RL.opS trivial rfl (OpW.move (v := Sl.v s7.1) e10 ?_)
  refine RL.opS trivial rfl (OpW.buildL (vs := [(0, Sl.v s7.1)]) (cs := [Sl.v s7.1, Value.slice none 0 0, Value.slice none 0 0, Value.int .i64 0, Value.bool false]) (by rfl) (fun _ => by kernel_rfl) ?_)
  obtain ⟨g_, o_, e_, cur_, ha_, h1, h2, h3, h4, h⟩ := h
  obtain ⟨w20, hw20_⟩ : ∃ w_, w_ = w8.setRow g_ (cur_.toList.take o_ ++ [Sl.v s7.1, Value.slice none 0 0, Value.slice none 0 0, Value.int .i64 0, Value.bool false] ++ cur_.toList.drop (o_ + List.length [Sl.v s7.1, Value.slice none 0 0, Value.slice none 0 0, Value.int .i64 0, Value.bool false])).toArray := ⟨_, rfl⟩
  have h := h w20 hw20_
  refine RL.opN trivial (OpW.storeAE (cs := [Sl.v s7.1, Value.slice none 0 0, Value.slice none 0 0, Value.int .i64 0, Value.bool false]) size_49 e13 rfl ha_ h1 h2 h3 h4 hw20_ ?_)
  refine RL.nil ?_
  refine CW.ret ?_
  obtain ⟨x21, hc1, hc2, h⟩ := h
  exact ret_intro (res1c rfl agg_49 e13 hc1 hc2) ⟨x21, rfl, h⟩
end Go.Proofs.Ytagkcbbbdlmcjaa
end
section
/- The typed readings of the functions, and that the program meets each: written by gen.py (a program of this session). -/
namespace Go.Proofs.Ytagkcbbbdlmcjaa
open Go.Lift
set_option maxRecDepth 100000 in
set_option maxHeartbeats 4000000 in
theorem s29_calls (K : List UInt8 → World → Prop) (p0 : List Value) (p1 : Int) (w : World) (h : s29 K p0 p1 w) :
  Calls Try.prog 29 #[aggv p0, .int .i64 p1] w (Ret r29 K) := by
 unfold s29 at h
 refine calls_of_CW (n := 34) Try.func29 rfl rfl rfl ?_
 refine CW.seq ?_
 refine CW.region ?_
 obtain ⟨b1, hb1_⟩ : ∃ b_, b_ = w.heap.size := ⟨_, rfl⟩
 obtain ⟨w2, hw2_⟩ : ∃ w_, w_ = w.alloc (.cells (List.toArray p0) 49) := ⟨_, rfl⟩
 have h := h b1 w2 hb1_ hw2_
 refine RL.opS trivial rfl (OpW.boxE (cs := p0) (rfl) hb1_ hw2_ ?_)
 refine RL.opS trivial rfl (OpW.assign (v := str []) rfl ?_)
 refine RL.nil ?_
 refine CW.seq ?_
 refine CW.region ?_
 refine RL.opS trivial rfl (OpW.fieldAddr (off := 0) field_49_0 rfl ?_)
 obtain ⟨x3, h1, h⟩ := h
 refine RL.opS trivial rfl (OpW.load1 (v := Sl.v x3) one_45 rfl h1 ?_)
 refine RL.opS trivial rfl (OpW.move (v := .int .i64 p1) rfl ?_)
 obtain ⟨a4_, a4, h1, h2, h3, h4, h⟩ := h
 refine RL.opS trivial rfl (OpW.indexE (a' := a4) slice_45 rfl rfl h1 h2 h3 h4 ?_)
 obtain ⟨x6, h1, h⟩ := h
 refine RL.opS trivial rfl (OpW.load1 (v := str x6) one_9 rfl h1 ?_)
 refine RL.opS trivial rfl (OpW.assign (v := str x6) rfl ?_)
 refine RL.nil ?_
 refine CW.seq ?_
 refine CW.seq ?_
 refine CW.region ?_
 refine RL.opS trivial rfl (OpW.assign (v := .int .i64 0) rfl ?_)
 refine RL.nil ?_
 refine CW.block ?_
 obtain ⟨I34, mu35, hI, hs⟩ := h
 refine CW.loop (σ := List UInt8 × Int) (fun s7 ρ => ρ 5 = str s7.1 ∧ ρ 6 = .int .i64 s7.2 ∧ ρ 1 = .int .i64 p1 ∧ ρ 2 = .pointer (some ⟨b1, 0, none⟩)) I34 mu35 (x6, 0) ⟨rfl, rfl, rfl, rfl⟩ hI ?_
 rintro s7 ρ w8 ⟨e10, e11, e12, e13⟩ hI
 have h := hs s7 w8 hI
 clear hs hI
 refine CW.seq ?_
 refine CW.seq ?_
 refine CW.region ?_
 refine RL.opS trivial rfl (OpW.move (v := .int .i64 s7.2) e11 ?_)
 refine RL.opS trivial rfl (OpW.fieldAddr field_49_1 e13 ?_)
 obtain ⟨x14, h1, h⟩ := h
 refine RL.opS trivial rfl (OpW.load1 (v := Sl.v x14) one_46 rfl h1 ?_)
 refine RL.opS trivial rfl (OpW.len (s := x14) slice_46 rfl ?_)
 refine RL.opS trivial rfl (OpW.bin (k := .i64) (a := s7.2) (b := (x14.len : Int)) (v := .bool (decide (s7.2 < (x14.len : Int)))) rfl rfl rfl ?_)
 refine RL.nil ?_
 obtain ⟨ha, hc⟩ := h
 refine CW.cond (b := (decide (s7.2 < (x14.len : Int)))) rfl (fun hb15 => ?_) (fun hb15 => ?_)
 ·have h := ha hb15; clear ha hc
  refine CW.skip ?_
  refine jn_elim h ?_; clear h; intro k32 hk33 h
  refine CW.seqJ (A := List UInt8) (fun s26 ρ => ρ 5 = str s26 ∧ ρ 1 = .int .i64 p1 ∧ ρ 2 = .pointer (some ⟨b1, 0, none⟩) ∧ ρ 6 = .int .i64 s7.2) k32 ?_ ?_
  ·rintro s26 ρ w27 ⟨e28, e29, e30, e31⟩ h
   subst hk33
   refine CW.region ?_
   refine RL.opS trivial rfl (OpW.move (v := .int .i64 s7.2) e31 ?_)
   refine RL.opS trivial rfl (OpW.bin (k := .i64) (a := s7.2) (b := 1) (v := .int .i64 (IntKind.i64.wrap (s7.2 + 1))) rfl rfl rfl ?_)
   refine RL.opS trivial rfl (OpW.assign (v := .int .i64 (IntKind.i64.wrap (s7.2 + 1))) rfl ?_)
   refine RL.nil ?_
   exact ⟨(s26, (IntKind.i64.wrap (s7.2 + 1))), ⟨e28, rfl, e29, e30⟩, h⟩
  ·clear hk33
   refine CW.block ?_
   refine CW.seq ?_
   refine CW.region ?_
   refine RL.opS trivial rfl (OpW.fieldAddr field_49_1 e13 ?_)
   obtain ⟨x17, h1, h⟩ := h
   refine RL.opS trivial rfl (OpW.load1 (v := Sl.v x17) one_46 rfl h1 ?_)
   refine RL.opS trivial rfl (OpW.move (v := .int .i64 s7.2) e11 ?_)
   obtain ⟨a18_, a18, h1, h2, h3, h4, h⟩ := h
   refine RL.opS trivial rfl (OpW.indexE (a' := a18) slice_46 rfl rfl h1 h2 h3 h4 ?_)
   refine RL.opS trivial rfl (OpW.fieldAddr (off := 0) field_114_0 rfl ?_)
   obtain ⟨x20, h1, h⟩ := h
   refine RL.opS trivial rfl (OpW.load1 (v := .int .i64 x20) one_3 rfl h1 ?_)
   refine RL.opS trivial rfl (OpW.move (v := .int .i64 p1) e12 ?_)
   refine RL.opS trivial rfl (OpW.bin (k := .i64) (a := x20) (b := p1) (v := .bool (decide (x20 = p1))) rfl rfl rfl ?_)
   refine RL.nil ?_
   obtain ⟨ha, hc⟩ := h
   refine CW.cond (b := (decide (x20 = p1))) rfl (fun hb21 => ?_) (fun hb21 => ?_)
   ·have h := ha hb21; clear ha hc
    refine CW.region ?_
    refine RL.opS trivial rfl (OpW.fieldAddr field_49_1 e13 ?_)
    obtain ⟨x22, h1, h⟩ := h
    refine RL.opS trivial rfl (OpW.load1 (v := Sl.v x22) one_46 rfl h1 ?_)
    refine RL.opS trivial rfl (OpW.move (v := .int .i64 s7.2) e11 ?_)
    obtain ⟨a23_, a23, h1, h2, h3, h4, h⟩ := h
    refine RL.opS trivial rfl (OpW.indexE (a' := a23) slice_46 rfl rfl h1 h2 h3 h4 ?_)
    refine RL.opS trivial rfl (OpW.fieldAddr field_114_1 rfl ?_)
    obtain ⟨x25, h1, h⟩ := h
    refine RL.opS trivial rfl (OpW.load1 (v := str x25) one_9 rfl h1 ?_)
    refine RL.opS trivial rfl (OpW.assign (v := str x25) rfl ?_)
    refine RL.nil ?_
    exact ⟨x25, ⟨rfl, e12, e13, e11⟩, h⟩
   ·have h := hc hb21; clear ha hc
    refine CW.skip ?_
    exact ⟨s7.1, ⟨e10, e12, e13, e11⟩, h⟩
 ·have h := hc hb15; clear ha hc
  refine CW.exit ?_
  refine CW.seq ?_
  refine CW.region ?_
  refine RL.opS trivial rfl (OpW.move (v := str s7.1) e10 ?_)
  refine RL.opS trivial rfl (OpW.assign (v := str s7.1) rfl ?_)
  refine RL.nil ?_
  refine CW.ret ?_
  exact ret_intro (res1 rfl rfl) ⟨s7.1, rfl, h⟩
end Go.Proofs.Ytagkcbbbdlmcjaa
end
section
/- The typed readings of the functions, and that the program meets each: written by gen.py (a program of this session). -/
namespace Go.Proofs.Ytagkcbbbdlmcjaa
open Go.Lift
set_option maxRecDepth 100000 in
set_option maxHeartbeats 4000000 in
theorem s42_calls (K : List Value × Int → World → Prop) (p0 : List Value) (p1 : Int) (p2 : List UInt8) (w : World) (h : s42 K p0 p1 p2 w) :
  Calls Try.prog 42 #[aggv p0, .int .i64 p1, str p2] w (Ret r42 K) := by
 unfold s42 at h
 refine calls_of_CW (n := 34) Try.func42 rfl rfl rfl ?_
 refine CW.seq ?_
 refine CW.region ?_
 obtain ⟨b1, hb1_⟩ : ∃ b_, b_ = w.heap.size := ⟨_, rfl⟩
 obtain ⟨w2, hw2_⟩ : ∃ w_, w_ = w.alloc (.cells (List.toArray p0) 49) := ⟨_, rfl⟩
 have h := h b1 w2 hb1_ hw2_
 refine RL.opS trivial rfl (OpW.boxE (cs := p0) (rfl) hb1_ hw2_ ?_)
 obtain ⟨b3, hb3_⟩ : ∃ b_, b_ = w2.heap.size := ⟨_, rfl⟩
 obtain ⟨w4, hw4_⟩ : ∃ w_, w_ = w2.alloc (.cells (List.toArray [Value.slice none 0 0, Value.slice none 0 0, Value.slice none 0 0, Value.int .i64 0, Value.bool false]) 49) := ⟨_, rfl⟩
 have h := h b3 w4 hb3_ hw4_
 refine RL.opS trivial rfl (OpW.allocE (b := b3) zero_49 hb3_ hw4_ ?_)
 refine RL.opS trivial rfl (OpW.assign (v := .int .i64 0) rfl ?_)
 refine RL.nil ?_
 refine CW.seq ?_
 refine CW.seq ?_
 refine CW.region ?_
 obtain ⟨x5, h1, h2, h⟩ := h
 refine RL.opS trivial rfl (OpW.loadA agg_49 rfl h1 h2 ?_)
 refine RL.opS trivial rfl (OpW.move (v := .int .i64 p1) rfl ?_)
 refine RL.opS trivial rfl (OpW.callR (al := [aggv x5, .int .i64 p1]) Try.func66 fb_66 fn_66 rfl h (fun x6 w7 h => ?_))
 refine RL.opS trivial rfl (OpW.assign (v := .int .i64 x6) rfl ?_)
 refine RL.nil ?_
 refine CW.seq ?_
 refine CW.region ?_
 refine RL.opS trivial rfl (OpW.move (v := .int .i64 x6) rfl ?_)
 refine RL.opS trivial rfl (OpW.bin (k := .i64) (a := x6) (b := 0) (v := .bool (!decide (x6 = 0))) rfl rfl rfl ?_)
 refine RL.nil ?_
 obtain ⟨ha, hc⟩ := h
 refine CW.cond (b := (!decide (x6 = 0))) rfl (fun hb8 => ?_) (fun hb8 => ?_)
 ·have h := ha hb8; clear ha hc
  refine CW.seq ?_
  refine CW.region ?_
  obtain ⟨x9, h1, h2, h⟩ := h
  refine RL.opS trivial rfl (OpW.loadA agg_49 rfl h1 h2 ?_)
  refine RL.opS trivial rfl (OpW.move (v := .int .i64 x6) rfl ?_)
  obtain ⟨g_, o_, e_, cur_, ha_, h1, h2, h3, h4, h⟩ := h
  obtain ⟨w10, hw10_⟩ : ∃ w_, w_ = w7.setRow g_ (cur_.toList.take o_ ++ x9 ++ cur_.toList.drop (o_ + List.length x9)).toArray := ⟨_, rfl⟩
  have h := h w10 hw10_
  refine RL.opN trivial (OpW.storeAE (cs := x9) size_49 rfl rfl ha_ h1 h2 h3 h4 hw10_ ?_)
  refine RL.opS trivial rfl (OpW.assign (v := .int .i64 x6) rfl ?_)
  refine RL.nil ?_
  refine CW.ret ?_
  obtain ⟨x11, hc1, hc2, h⟩ := h
  exact ret_intro (res2c rfl agg_49 rfl hc1 hc2 rfl) ⟨(x11, x6), rfl, h⟩
 ·have h := hc hb8; clear ha hc
  refine CW.skip ?_
  refine CW.seq ?_
  refine CW.seq ?_
  refine CW.region ?_
  refine RL.opS trivial rfl (OpW.move (v := str p2) rfl ?_)
  refine RL.opS trivial rfl (OpW.lenStr us_9 rfl ?_)
  refine RL.opS trivial rfl (OpW.bin (k := .i64) (a := (p2.length : Int)) (b := 512) (v := .bool (!decide ((p2.length : Int) = 512))) rfl rfl rfl ?_)
  refine RL.nil ?_
  obtain ⟨ha, hc⟩ := h
  refine CW.cond (b := (!decide ((p2.length : Int) = 512))) rfl (fun hb12 => ?_) (fun hb12 => ?_)
  ·have h := ha hb12; clear ha hc
   refine CW.seq ?_
   refine CW.region ?_
   obtain ⟨x13, h1, h2, h⟩ := h
   refine RL.opS trivial rfl (OpW.loadA agg_49 rfl h1 h2 ?_)
   obtain ⟨g_, o_, e_, cur_, ha_, h1, h2, h3, h4, h⟩ := h
   obtain ⟨w14, hw14_⟩ : ∃ w_, w_ = w7.setRow g_ (cur_.toList.take o_ ++ x13 ++ cur_.toList.drop (o_ + List.length x13)).toArray := ⟨_, rfl⟩
   have h := h w14 hw14_
   refine RL.opN trivial (OpW.storeAE (cs := x13) size_49 rfl rfl ha_ h1 h2 h3 h4 hw14_ ?_)
   refine RL.opS trivial rfl (OpW.assign (v := .int .i64 1) rfl ?_)
   refine RL.nil ?_
   refine CW.ret ?_
   obtain ⟨x15, hc1, hc2, h⟩ := h
   exact ret_intro (res2c rfl agg_49 rfl hc1 hc2 rfl) ⟨(x15, 1), rfl, h⟩
  ·have h := hc hb12; clear ha hc
   refine CW.skip ?_
   refine CW.seq ?_
   refine CW.region ?_
   obtain ⟨b16, hb16_⟩ : ∃ b_, b_ = w7.heap.size := ⟨_, rfl⟩
   obtain ⟨w17, hw17_⟩ : ∃ w_, w_ = w7.alloc (.cells (List.toArray []) 114) := ⟨_, rfl⟩
   have h := h b16 w17 hb16_ hw17_
   refine RL.opS trivial rfl (OpW.buildSliceE (vs := []) (cs := []) (by rfl) (by kernel_rfl) hb16_ hw17_ ?_)
   refine RL.opS trivial rfl (OpW.fieldAddr field_49_1 rfl ?_)
   obtain ⟨x18, h1, h⟩ := h
   refine RL.opS trivial rfl (OpW.load1 (v := Sl.v x18) one_46 rfl h1 ?_)
   obtain ⟨x19, w20, hr_, h⟩ := h
   refine RL.opS trivial rfl (OpW.appendL (v := Sl.v x19) rfl hr_ ?_)
   refine RL.opS trivial rfl (OpW.move (v := .int .i64 p1) rfl ?_)
   refine RL.opS trivial rfl (OpW.move (v := str p2) rfl ?_)
   refine RL.opS trivial rfl (OpW.buildL (vs := [(0, .int .i64 p1), (1, str p2)]) (cs := [.int .i64 p1, str p2]) (by rfl) (fun _ => by kernel_rfl) ?_)
   obtain ⟨hl_, ho_, h⟩ := h
   obtain ⟨b21, hb21_⟩ : ∃ b_, b_ = w20.heap.size := ⟨_, rfl⟩
   obtain ⟨w22, hw22_⟩ : ∃ w_, w_ = w20.alloc (.cells (List.toArray [.int .i64 p1, str p2]) 114) := ⟨_, rfl⟩
   have h := h b21 w22 hb21_ hw22_
   refine RL.opS trivial rfl (OpW.buildSliceE (vs := [(0, aggv [.int .i64 p1, str p2])]) (cs := [.int .i64 p1, str p2]) (by rfl) (fillOne mkz_46 (by simp) (by decide) (by decide) hl_) hb21_ hw22_ ?_)
   obtain ⟨x23, w24, hr_, h⟩ := h
   refine RL.opS trivial rfl (OpW.appendL (v := Sl.v x23) rfl hr_ ?_)
   refine RL.opS trivial rfl (OpW.fieldAddr field_49_1 rfl ?_)
   obtain ⟨u_, h1, h2, h⟩ := h
   obtain ⟨w25, hw25_⟩ : ∃ w_, w_ = w24.setCell (Addr.add ⟨b1, 0, none⟩ 1) (Sl.v x23) := ⟨_, rfl⟩
   have h := h w25 hw25_
   refine RL.opN trivial (OpW.store1E (v := Sl.v x23) size_46 rfl rfl rfl h1 h2 hw25_ ?_)
   refine RL.nil ?_
   refine CW.seq ?_
   refine CW.region ?_
   obtain ⟨x26, h1, h2, h⟩ := h
   refine RL.opS trivial rfl (OpW.loadA agg_49 rfl h1 h2 ?_)
   refine RL.opS trivial rfl (OpW.callR (al := [aggv x26]) Try.func68 fb_68 fn_68 rfl h (fun x27 w28 h => ?_))
   refine RL.opS trivial rfl (OpW.extract (v := aggv x27.1) rfl rfl ?_)
   refine RL.opS trivial rfl (OpW.extract (v := .int .i64 x27.2) rfl rfl ?_)
   obtain ⟨g_, o_, e_, cur_, ha_, h1, h2, h3, h4, h⟩ := h
   obtain ⟨w29, hw29_⟩ : ∃ w_, w_ = w28.setRow g_ (cur_.toList.take o_ ++ x27.1 ++ cur_.toList.drop (o_ + List.length x27.1)).toArray := ⟨_, rfl⟩
   have h := h w29 hw29_
   refine RL.opN trivial (OpW.storeAE (cs := x27.1) size_49 rfl rfl ha_ h1 h2 h3 h4 hw29_ ?_)
   refine RL.opS trivial rfl (OpW.assign (v := .int .i64 x27.2) rfl ?_)
   refine RL.nil ?_
   refine CW.ret ?_
   obtain ⟨x30, hc1, hc2, h⟩ := h
   exact ret_intro (res2c rfl agg_49 rfl hc1 hc2 rfl) ⟨(x30, x27.2), rfl, h⟩
end Go.Proofs.Ytagkcbbbdlmcjaa
end
section
/- The typed readings of the functions, and that the program meets each: written by gen.py (a program of this session). -/
namespace Go.Proofs.Ytagkcbbbdlmcjaa
open Go.Lift
set_option maxRecDepth 100000 in
set_option maxHeartbeats 4000000 in
theorem s58_calls (K : List Value → World → Prop) (p0 : List Value) (p1 : List Value) (w : World) (h : s58 K p0 p1 w) :
  Calls Try.prog 58 #[aggv p0, aggv p1] w (Ret r58 K) := by
 unfold s58 at h
 refine calls_of_CW (n := 67) Try.func58 rfl rfl rfl ?_
 refine CW.seq ?_
 refine CW.region ?_
 obtain ⟨b1, hb1_⟩ : ∃ b_, b_ = w.heap.size := ⟨_, rfl⟩
 obtain ⟨w2, hw2_⟩ : ∃ w_, w_ = w.alloc (.cells (List.toArray p0) 49) := ⟨_, rfl⟩
 have h := h b1 w2 hb1_ hw2_
 refine RL.opS trivial rfl (OpW.boxE (cs := p0) (rfl) hb1_ hw2_ ?_)
 obtain ⟨b3, hb3_⟩ : ∃ b_, b_ = w2.heap.size := ⟨_, rfl⟩
 obtain ⟨w4, hw4_⟩ : ∃ w_, w_ = w2.alloc (.cells (List.toArray p1) 27) := ⟨_, rfl⟩
 have h := h b3 w4 hb3_ hw4_
 refine RL.opS trivial rfl (OpW.boxE (cs := p1) (rfl) hb3_ hw4_ ?_)
 obtain ⟨b5, hb5_⟩ : ∃ b_, b_ = w4.heap.size := ⟨_, rfl⟩
 obtain ⟨w6, hw6_⟩ : ∃ w_, w_ = w4.alloc (.cells (List.toArray [Value.slice none 0 0, Value.slice none 0 0, Value.slice none 0 0, Value.int .i64 0, Value.bool false]) 49) := ⟨_, rfl⟩
 have h := h b5 w6 hb5_ hw6_
 refine RL.opS trivial rfl (OpW.allocE (b := b5) zero_49 hb5_ hw6_ ?_)
 refine RL.nil ?_
 refine CW.seq ?_
 refine CW.seq ?_
 refine CW.region ?_
 refine RL.opS trivial rfl (OpW.fieldAddr field_49_4 rfl ?_)
 obtain ⟨x7, h1, h⟩ := h
 refine RL.opS trivial rfl (OpW.load1 (v := .bool x7) one_4 rfl h1 ?_)
 refine RL.nil ?_
 obtain ⟨ha, hc⟩ := h
 refine CW.cond (b := x7) rfl (fun hb8 => ?_) (fun hb8 => ?_)
 ·have h := ha hb8; clear ha hc
  refine CW.seq ?_
  refine CW.region ?_
  obtain ⟨x9, h1, h2, h⟩ := h
  refine RL.opS trivial rfl (OpW.loadA agg_49 rfl h1 h2 ?_)
  obtain ⟨g_, o_, e_, cur_, ha_, h1, h2, h3, h4, h⟩ := h
  obtain ⟨w10, hw10_⟩ : ∃ w_, w_ = w6.setRow g_ (cur_.toList.take o_ ++ x9 ++ cur_.toList.drop (o_ + List.length x9)).toArray := ⟨_, rfl⟩
  have h := h w10 hw10_
  refine RL.opN trivial (OpW.storeAE (cs := x9) size_49 rfl rfl ha_ h1 h2 h3 h4 hw10_ ?_)
  refine RL.nil ?_
  refine CW.ret ?_
  obtain ⟨x11, hc1, hc2, h⟩ := h
  exact ret_intro (res1c rfl agg_49 rfl hc1 hc2) ⟨x11, rfl, h⟩
 ·have h := hc hb8; clear ha hc
  refine CW.skip ?_
  refine CW.seq ?_
  refine CW.region ?_
  refine RL.opS trivial rfl (OpW.fieldAddr field_27_1 rfl ?_)
  obtain ⟨x12, h1, h⟩ := h
  refine RL.opS trivial rfl (OpW.load1 (v := .int .u64 x12) one_25 rfl h1 ?_)
  refine RL.opS trivial rfl (OpW.assign (v := .int .u64 x12) rfl ?_)
  refine RL.nil ?_
  refine CW.seq ?_
  refine CW.seq ?_
  refine CW.region ?_
  refine RL.opS trivial rfl (OpW.assign (v := .int .i64 0) rfl ?_)
  refine RL.nil ?_
  refine CW.block ?_
  obtain ⟨I63, mu64, hI, hs⟩ := h
  refine CW.loop (σ := Int × Int) (fun s13 ρ => ρ 5 = .int .u64 s13.1 ∧ ρ 6 = .int .i64 s13.2 ∧ ρ 2 = .pointer (some ⟨b1, 0, none⟩) ∧ ρ 3 = .pointer (some ⟨b3, 0, none⟩) ∧ ρ 4 = .pointer (some ⟨b5, 0, none⟩)) I63 mu64 (x12, 0) ⟨rfl, rfl, rfl, rfl, rfl⟩ hI ?_
  rintro s13 ρ w14 ⟨e16, e17, e18, e19, e20⟩ hI
  have h := hs s13 w14 hI
  clear hs hI
  refine CW.seq ?_
  refine CW.seq ?_
  refine CW.region ?_
  refine RL.opS trivial rfl (OpW.move (v := .int .i64 s13.2) e17 ?_)
  refine RL.opS trivial rfl (OpW.fieldAddr field_49_1 e18 ?_)
  obtain ⟨x21, h1, h⟩ := h
  refine RL.opS trivial rfl (OpW.load1 (v := Sl.v x21) one_46 rfl h1 ?_)
  refine RL.opS trivial rfl (OpW.len (s := x21) slice_46 rfl ?_)
  refine RL.opS trivial rfl (OpW.bin (k := .i64) (a := s13.2) (b := (x21.len : Int)) (v := .bool (decide (s13.2 < (x21.len : Int)))) rfl rfl rfl ?_)
  refine RL.nil ?_
  obtain ⟨ha, hc⟩ := h
  refine CW.cond (b := (decide (s13.2 < (x21.len : Int)))) rfl (fun hb22 => ?_) (fun hb22 => ?_)
  ·have h := ha hb22; clear ha hc
   refine CW.skip ?_
   refine CW.seq ?_
   refine CW.block ?_
   refine CW.seq ?_
   refine CW.region ?_
   refine RL.opS trivial rfl (OpW.fieldAddr field_49_1 e18 ?_)
   obtain ⟨x23, h1, h⟩ := h
   refine RL.opS trivial rfl (OpW.load1 (v := Sl.v x23) one_46 rfl h1 ?_)
   refine RL.opS trivial rfl (OpW.move (v := .int .i64 s13.2) e17 ?_)
   obtain ⟨a24_, a24, h1, h2, h3, h4, h⟩ := h
   refine RL.opS trivial rfl (OpW.indexE (a' := a24) slice_46 rfl rfl h1 h2 h3 h4 ?_)
   obtain ⟨x26, h1, h2, h⟩ := h
   refine RL.opS trivial rfl (OpW.loadA agg_114 rfl h1 h2 ?_)
   obtain ⟨hl_b27, ho_b27, h⟩ := h
   obtain ⟨b27, hb27_⟩ : ∃ b_, b_ = w14.heap.size := ⟨_, rfl⟩
   obtain ⟨w28, hw28_⟩ : ∃ w_, w_ = w14.alloc (.cells (List.toArray x26) 114) := ⟨_, rfl⟩
   have h := h b27 w28 hb27_ hw28_
   refine RL.opS trivial rfl (OpW.allocZ (b := b27) zero_114 hb27_ ?_)
   refine RL.opN trivial (OpW.storeF (zs := [Value.int .i64 0, str []]) (cs := x26) size_114 rfl rfl hl_b27 (by decide) ho_b27 hb27_ hw28_ ?_)
   refine RL.nil ?_
   refine CW.seq ?_
   refine CW.region ?_
   refine RL.opS trivial rfl (OpW.assign (v := .int .i64 0) rfl ?_)
   refine RL.nil ?_
   refine jn_elim h ?_; clear h; intro k56 hk57 h
   refine CW.seqJ (A := Int) (fun s34 ρ => ρ 8 = .int .i64 s34 ∧ ρ 2 = .pointer (some ⟨b1, 0, none⟩) ∧ ρ 3 = .pointer (some ⟨b3, 0, none⟩) ∧ ρ 4 = .pointer (some ⟨b5, 0, none⟩) ∧ ρ 5 = .int .u64 s13.1 ∧ ρ 6 = .int .i64 s13.2 ∧ ρ 7 = .pointer (some ⟨b27, 0, none⟩)) k56 ?_ ?_
   ·rintro s34 ρ w35 ⟨e36, e37, e38, e39, e40, e41, e42⟩ h
    subst hk57
    refine CW.seq ?_
    refine CW.region ?_
    refine RL.opS trivial rfl (OpW.move (v := .int .u64 s13.1) e40 ?_)
    refine RL.opS trivial rfl (OpW.quo (a := s13.1) (b := 2) (v := .int .u64 (IntKind.u64.wrap (Int.tdiv s13.1 2))) rfl rfl (by decide) rfl ?_)
    refine RL.opS trivial rfl (OpW.assign (v := .int .u64 (IntKind.u64.wrap (Int.tdiv s13.1 2))) rfl ?_)
    refine RL.nil ?_
    obtain ⟨w43, hw43_⟩ : ∃ w_, w_ = w35.drew := ⟨_, rfl⟩
    have h := h w43 hw43_
    have hx44 : Ext w35 w43 := by rw [hw43_]; exact Ext.drew _
    refine CW.draws (m := 20) (listed := #[F,F,F,F,F,F,F,F,F,F,F,F,F,F,F,F,F,F,F,F]) mixed [0, 1, 2, 3, 4, 5, 6, 7, 8, 9, 10, 11, 12, 13, 14, 15, 16, 18] (Ext w35) rfl rfl ?_
    rw [← hw43_]
    refine DL.takeP (listed' := #[T,F,F,F,F,F,F,F,F,F,F,F,F,F,F,F,F,F,F,F]) (v := .pointer (some (Addr.add ⟨b1, 0, none⟩ 0))) 0 rfl rfl (by kernel_rfl) rfl trivial rfl (fun w_ K_ h_ => OpW.fieldAddr (off := 0) field_49_0 e37 h_) ?_
    obtain ⟨x45, h1, h⟩ := h
    refine DL.takeK (listed' := #[T,T,F,F,F,F,F,F,F,F,F,F,F,F,F,F,F,F,F,F]) (v := Sl.v x45) 1 rfl rfl (by kernel_rfl) (by kernel_rfl) rfl trivial rfl hx44 (fun w_ hS_ K_ h_ => OpW.load1 (v := Sl.v x45) one_45 rfl (hS_.cell h1) h_) ?_
    refine DL.takeP (listed' := #[T,T,T,F,F,F,F,F,F,F,F,F,F,F,F,F,F,F,F,F]) (v := .pointer (some (Addr.add ⟨b27, 0, none⟩ 0))) 2 rfl rfl (by kernel_rfl) rfl trivial rfl (fun w_ K_ h_ => OpW.fieldAddr (off := 0) field_114_0 e42 h_) ?_
    obtain ⟨x46, h1, h⟩ := h
    refine DL.takeK (listed' := #[T,T,T,T,F,F,F,F,F,F,F,F,F,F,F,F,F,F,F,F]) (v := .int .i64 x46) 3 rfl rfl (by kernel_rfl) (by kernel_rfl) rfl trivial rfl hx44 (fun w_ hS_ K_ h_ => OpW.load1 (v := .int .i64 x46) one_3 rfl (hS_.cell h1) h_) ?_
    refine DL.takeP (listed' := #[T,T,T,T,T,F,F,F,F,F,F,F,F,F,F,F,F,F,F,F]) (v := .pointer (some (Addr.add ⟨b27, 0, none⟩ 1))) 4 rfl rfl (by kernel_rfl) rfl trivial rfl (fun w_ K_ h_ => OpW.fieldAddr field_114_1 e42 h_) ?_
    obtain ⟨x47, h1, h⟩ := h
    refine DL.takeK (listed' := #[T,T,T,T,T,T,F,F,F,F,F,F,F,F,F,F,F,F,F,F]) (v := str x47) 5 rfl rfl (by kernel_rfl) (by kernel_rfl) rfl trivial rfl hx44 (fun w_ hS_ K_ h_ => OpW.load1 (v := str x47) one_9 rfl (hS_.cell h1) h_) ?_
    refine DL.takeP (listed' := #[T,T,T,T,T,T,T,F,F,F,F,F,F,F,F,F,F,F,F,F]) (v := .int .i64 s34) 6 rfl rfl (by kernel_rfl) rfl trivial rfl (fun w_ K_ h_ => OpW.move (v := .int .i64 s34) e36 h_) ?_
    obtain ⟨⟨h1, h2, h3⟩, h⟩ := h
    refine DL.takeP (listed' := #[T,T,T,T,T,T,T,T,F,F,F,F,F,F,F,F,F,F,F,F]) (v := str ((x47.take (Int.toNat s34)).drop (Int.toNat 0))) 7 rfl rfl (by kernel_rfl) rfl trivial rfl (fun w_ K_ h_ => OpW.sliceStr (l := 0) (h := s34) str_9 rfl rfl ⟨_, rfl⟩ h1 h2 h3 h_) ?_
    refine DL.takeP (listed' := #[T,T,T,T,T,T,T,T,T,F,F,F,F,F,F,F,F,F,F,F]) (v := .pointer (some (Addr.add ⟨b1, 0, none⟩ 0))) 8 rfl rfl (by kernel_rfl) rfl trivial rfl (fun w_ K_ h_ => OpW.fieldAddr (off := 0) field_49_0 e37 h_) ?_
    obtain ⟨x48, h1, h⟩ := h
    refine DL.takeK (listed' := #[T,T,T,T,T,T,T,T,T,T,F,F,F,F,F,F,F,F,F,F]) (v := Sl.v x48) 9 rfl rfl (by kernel_rfl) (by kernel_rfl) rfl trivial rfl hx44 (fun w_ hS_ K_ h_ => OpW.load1 (v := Sl.v x48) one_45 rfl (hS_.cell h1) h_) ?_
    refine DL.takeP (listed' := #[T,T,T,T,T,T,T,T,T,T,T,F,F,F,F,F,F,F,F,F]) (v := .pointer (some (Addr.add ⟨b27, 0, none⟩ 0))) 10 rfl rfl (by kernel_rfl) rfl trivial rfl (fun w_ K_ h_ => OpW.fieldAddr (off := 0) field_114_0 e42 h_) ?_
    obtain ⟨x49, h1, h⟩ := h
    refine DL.takeK (listed' := #[T,T,T,T,T,T,T,T,T,T,T,T,F,F,F,F,F,F,F,F]) (v := .int .i64 x49) 11 rfl rfl (by kernel_rfl) (by kernel_rfl) rfl trivial rfl hx44 (fun w_ hS_ K_ h_ => OpW.load1 (v := .int .i64 x49) one_3 rfl (hS_.cell h1) h_) ?_
    obtain ⟨a50_, a50, h1, h2, h3, h4, h⟩ := h
    refine DL.takeP (listed' := #[T,T,T,T,T,T,T,T,T,T,T,T,T,F,F,F,F,F,F,F]) (v := .pointer (some a50)) 12 rfl rfl (by kernel_rfl) rfl trivial rfl (fun w_ K_ h_ => OpW.indexE (a' := a50) slice_45 rfl rfl h1 h2 h3 h4 h_) ?_
    obtain ⟨x52, h1, h⟩ := h
    refine DL.takeK (listed' := #[T,T,T,T,T,T,T,T,T,T,T,T,T,T,F,F,F,F,F,F]) (v := str x52) 13 rfl rfl (by kernel_rfl) (by kernel_rfl) rfl trivial rfl hx44 (fun w_ hS_ K_ h_ => OpW.load1 (v := str x52) one_9 rfl (hS_.cell h1) h_) ?_
    refine DL.takeP (listed' := #[T,T,T,T,T,T,T,T,T,T,T,T,T,T,T,F,F,F,F,F]) (v := .int .i64 s34) 14 rfl rfl (by kernel_rfl) rfl trivial rfl (fun w_ K_ h_ => OpW.move (v := .int .i64 s34) e36 h_) ?_
    obtain ⟨⟨h1, h2, h3⟩, h⟩ := h
    refine DL.takeP (listed' := #[T,T,T,T,T,T,T,T,T,T,T,T,T,T,T,T,F,F,F,F]) (v := str ((x52.take (Int.toNat (x52.length : Int))).drop (Int.toNat s34))) 15 rfl rfl (by kernel_rfl) rfl trivial rfl (fun w_ K_ h_ => OpW.sliceStr (l := s34) (h := (x52.length : Int)) str_9 rfl ⟨_, rfl⟩ rfl h1 h2 h3 h_) ?_
    obtain ⟨hq_, h⟩ := h
    refine DL.takeP (listed' := #[T,T,T,T,T,T,T,T,T,T,T,T,T,T,T,T,T,F,F,F]) (v := str (((x47.take (Int.toNat s34)).drop (Int.toNat 0)) ++ ((x52.take (Int.toNat (x52.length : Int))).drop (Int.toNat s34)))) 16 rfl rfl (by kernel_rfl) rfl trivial rfl (fun w_ K_ h_ => OpW.strAdd rfl rfl hq_ h_) ?_
    refine DL.execS (listed' := #[T,T,T,T,T,T,T,T,T,T,T,T,T,T,T,T,T,T,F,F]) 17 rfl (by kernel_rfl) rfl trivial rfl (OpW.callR (al := [Sl.v x45, .int .i64 x46, str (((x47.take (Int.toNat s34)).drop (Int.toNat 0)) ++ ((x52.take (Int.toNat (x52.length : Int))).drop (Int.toNat s34)))]) Try.func82 fb_82 fn_82 rfl h (fun x53 w54 h => ?_))
    refine ⟨(fun h_ => absurd h_ (by decide)), ?_⟩
    refine DL.takeP (listed' := #[T,T,T,T,T,T,T,T,T,T,T,T,T,T,T,T,T,T,T,F]) (v := .pointer (some (Addr.add ⟨b1, 0, none⟩ 0))) 18 rfl rfl (by kernel_rfl) rfl trivial rfl (fun w_ K_ h_ => OpW.fieldAddr (off := 0) field_49_0 e37 h_) ?_
    obtain ⟨u_, h1, h2, h⟩ := h
    obtain ⟨w55, hw55_⟩ : ∃ w_, w_ = w54.setCell (Addr.add ⟨b1, 0, none⟩ 0) (Sl.v x53) := ⟨_, rfl⟩
    have h := h w55 hw55_
    refine DL.execN (listed' := #[T,T,T,T,T,T,T,T,T,T,T,T,T,T,T,T,T,T,T,T]) 19 rfl (by kernel_rfl) rfl trivial (OpW.store1E (v := Sl.v x53) size_45 rfl rfl rfl h1 h2 hw55_ ?_)
    refine ⟨(fun h_ => absurd h_ (by decide)), ?_⟩
    refine DL.done (by kernel_rfl) ?_
    refine CW.region ?_
    refine RL.opS trivial rfl (OpW.move (v := .int .i64 s13.2) e41 ?_)
    refine RL.opS trivial rfl (OpW.bin (k := .i64) (a := s13.2) (b := 1) (v := .int .i64 (IntKind.i64.wrap (s13.2 + 1))) rfl rfl rfl ?_)
    refine RL.opS trivial rfl (OpW.assign (v := .int .i64 (IntKind.i64.wrap (s13.2 + 1))) rfl ?_)
    refine RL.nil ?_
    exact ⟨((IntKind.u64.wrap (Int.tdiv s13.1 2)), (IntKind.i64.wrap (s13.2 + 1))), ⟨rfl, rfl, e37, e38, e39⟩, h⟩
   ·clear hk57
    refine CW.seq ?_
    refine CW.region ?_
    refine RL.opS trivial rfl (OpW.move (v := .int .u64 s13.1) e16 ?_)
    refine RL.opS trivial rfl (OpW.quo (a := s13.1) (b := 2) (v := .int .u64 (Int.tmod s13.1 2)) rfl rfl (by decide) rfl ?_)
    refine RL.opS trivial rfl (OpW.bin (k := .u64) (a := (Int.tmod s13.1 2)) (b := 1) (v := .bool (decide ((Int.tmod s13.1 2) = 1))) rfl rfl rfl ?_)
    refine RL.nil ?_
    obtain ⟨ha, hc⟩ := h
    refine CW.cond (b := (decide ((Int.tmod s13.1 2) = 1))) rfl (fun hb30 => ?_) (fun hb30 => ?_)
    ·have h := ha hb30; clear ha hc
     refine CW.region ?_
     refine RL.opS trivial rfl (OpW.assign (v := .int .i64 512) rfl ?_)
     refine RL.nil ?_
     exact ⟨512, ⟨rfl, e18, e19, e20, e16, e17, rfl⟩, h⟩
    ·have h := hc hb30; clear ha hc
     refine CW.seq ?_
     refine CW.region ?_
     refine RL.opS trivial rfl (OpW.move (v := .int .i64 s13.2) e17 ?_)
     refine RL.opS trivial rfl (OpW.fieldAddr field_49_1 e18 ?_)
     obtain ⟨x31, h1, h⟩ := h
     refine RL.opS trivial rfl (OpW.load1 (v := Sl.v x31) one_46 rfl h1 ?_)
     refine RL.opS trivial rfl (OpW.len (s := x31) slice_46 rfl ?_)
     refine RL.opS trivial rfl (OpW.bin (k := .i64) (a := (x31.len : Int)) (b := 1) (v := .int .i64 (IntKind.i64.wrap ((x31.len : Int) - 1))) rfl rfl rfl ?_)
     refine RL.opS trivial rfl (OpW.bin (k := .i64) (a := s13.2) (b := (IntKind.i64.wrap ((x31.len : Int) - 1))) (v := .bool (decide (s13.2 = (IntKind.i64.wrap ((x31.len : Int) - 1))))) rfl rfl rfl ?_)
     refine RL.nil ?_
     obtain ⟨ha, hc⟩ := h
     refine CW.cond (b := (decide (s13.2 = (IntKind.i64.wrap ((x31.len : Int) - 1))))) rfl (fun hb32 => ?_) (fun hb32 => ?_)
     ·have h := ha hb32; clear ha hc
      refine CW.region ?_
      refine RL.opS trivial rfl (OpW.fieldAddr field_27_2 e19 ?_)
      obtain ⟨x33, h1, h⟩ := h
      refine RL.opS trivial rfl (OpW.load1 (v := .int .i64 x33) one_3 rfl h1 ?_)
      refine RL.opS trivial rfl (OpW.min2 (a := x33) (b := 512) rfl rfl ?_)
      refine RL.opS trivial rfl (OpW.max2 (a := 0) (b := (mn x33 512)) rfl rfl ?_)
      refine RL.opS trivial rfl (OpW.assign (v := .int .i64 (mx 0 (mn x33 512))) rfl ?_)
      refine RL.nil ?_
      exact ⟨(mx 0 (mn x33 512)), ⟨rfl, e18, e19, e20, e16, e17, rfl⟩, h⟩
     ·have h := hc hb32; clear ha hc
      refine CW.skip ?_
      exact ⟨0, ⟨rfl, e18, e19, e20, e16, e17, rfl⟩, h⟩
  ·have h := hc hb22; clear ha hc
   refine CW.exit ?_
   refine CW.seq ?_
   refine CW.region ?_
   refine RL.opS trivial rfl (OpW.fieldAddr (off := 0) field_49_0 e18 ?_)
   obtain ⟨x58, h1, h⟩ := h
   refine RL.opS trivial rfl (OpW.load1 (v := Sl.v x58) one_45 rfl h1 ?_)
   refine RL.opS trivial rfl (OpW.fieldAddr field_49_2 e18 ?_)
   obtain ⟨x59, h1, h⟩ := h
   refine RL.opS trivial rfl (OpW.load1 (v := Sl.v x59) one_47 rfl h1 ?_)
   refine RL.opS trivial rfl (OpW.fieldAddr field_49_3 e18 ?_)
   obtain ⟨x60, h1, h⟩ := h
   refine RL.opS trivial rfl (OpW.load1 (v := .int .i64 x60) one_3 rfl h1 ?_)
   refine RL.opS trivial rfl (OpW.buildL (vs := [(0, Sl.v x58), (2, Sl.v x59), (3, .int .i64 x60), (4, .bool true)]) (cs := [Sl.v x58, Value.slice none 0 0, Sl.v x59, .int .i64 x60, .bool true]) (by rfl) (fun _ => by kernel_rfl) ?_)
   obtain ⟨g_, o_, e_, cur_, ha_, h1, h2, h3, h4, h⟩ := h
   obtain ⟨w61, hw61_⟩ : ∃ w_, w_ = w14.setRow g_ (cur_.toList.take o_ ++ [Sl.v x58, Value.slice none 0 0, Sl.v x59, .int .i64 x60, .bool true] ++ cur_.toList.drop (o_ + List.length [Sl.v x58, Value.slice none 0 0, Sl.v x59, .int .i64 x60, .bool true])).toArray := ⟨_, rfl⟩
   have h := h w61 hw61_
   refine RL.opN trivial (OpW.storeAE (cs := [Sl.v x58, Value.slice none 0 0, Sl.v x59, .int .i64 x60, .bool true]) size_49 e20 rfl ha_ h1 h2 h3 h4 hw61_ ?_)
   refine RL.nil ?_
   refine CW.ret ?_
   obtain ⟨x62, hc1, hc2, h⟩ := h
   exact ret_intro (res1c rfl agg_49 e20 hc1 hc2) ⟨x62, rfl, h⟩
end Go.Proofs.Ytagkcbbbdlmcjaa
end
section
/- The typed readings of the functions, and that the program meets each: written by gen.py (a program of this session). -/
namespace Go.Proofs.Ytagkcbbbdlmcjaa
open Go.Lift
set_option maxRecDepth 100000 in
set_option maxHeartbeats 4000000 in
theorem s65_calls (K : List Value × Int → World → Prop) (p0 : List Value) (w : World) (h : s65 K p0 w) :
  Calls Try.prog 65 #[aggv p0] w (Ret r65 K) := by
 unfold s65 at h
 refine calls_of_CW (n := 44) Try.func65 rfl rfl rfl ?_
 refine CW.seq ?_
 refine CW.region ?_
 obtain ⟨b1, hb1_⟩ : ∃ b_, b_ = w.heap.size := ⟨_, rfl⟩
 obtain ⟨w2, hw2_⟩ : ∃ w_, w_ = w.alloc (.cells (List.toArray p0) 49) := ⟨_, rfl⟩
 have h := h b1 w2 hb1_ hw2_
 refine RL.opS trivial rfl (OpW.boxE (cs := p0) (rfl) hb1_ hw2_ ?_)
 obtain ⟨b3, hb3_⟩ : ∃ b_, b_ = w2.heap.size := ⟨_, rfl⟩
 obtain ⟨w4, hw4_⟩ : ∃ w_, w_ = w2.alloc (.cells (List.toArray [Value.slice none 0 0, Value.slice none 0 0, Value.slice none 0 0, Value.int .i64 0, Value.bool false]) 49) := ⟨_, rfl⟩
 have h := h b3 w4 hb3_ hw4_
 refine RL.opS trivial rfl (OpW.allocE (b := b3) zero_49 hb3_ hw4_ ?_)
 refine RL.opS trivial rfl (OpW.assign (v := .int .i64 0) rfl ?_)
 refine RL.nil ?_
 refine CW.seq ?_
 refine CW.seq ?_
 refine CW.region ?_
 refine RL.opS trivial rfl (OpW.fieldAddr field_49_4 rfl ?_)
 obtain ⟨x5, h1, h⟩ := h
 refine RL.opS trivial rfl (OpW.load1 (v := .bool x5) one_4 rfl h1 ?_)
 refine RL.nil ?_
 obtain ⟨ha, hc⟩ := h
 refine CW.cond (b := x5) rfl (fun hb6 => ?_) (fun hb6 => ?_)
 ·have h := ha hb6; clear ha hc
  refine CW.seq ?_
  refine CW.region ?_
  obtain ⟨x7, h1, h2, h⟩ := h
  refine RL.opS trivial rfl (OpW.loadA agg_49 rfl h1 h2 ?_)
  obtain ⟨g_, o_, e_, cur_, ha_, h1, h2, h3, h4, h⟩ := h
  obtain ⟨w8, hw8_⟩ : ∃ w_, w_ = w4.setRow g_ (cur_.toList.take o_ ++ x7 ++ cur_.toList.drop (o_ + List.length x7)).toArray := ⟨_, rfl⟩
  have h := h w8 hw8_
  refine RL.opN trivial (OpW.storeAE (cs := x7) size_49 rfl rfl ha_ h1 h2 h3 h4 hw8_ ?_)
  refine RL.opS trivial rfl (OpW.assign (v := .int .i64 6) rfl ?_)
  refine RL.nil ?_
  refine CW.ret ?_
  obtain ⟨x9, hc1, hc2, h⟩ := h
  exact ret_intro (res2c rfl agg_49 rfl hc1 hc2 rfl) ⟨(x9, 6), rfl, h⟩
 ·have h := hc hb6; clear ha hc
  refine CW.skip ?_
  refine CW.seq ?_
  refine CW.region ?_
  obtain ⟨x10, h1, h2, h⟩ := h
  refine RL.opS trivial rfl (OpW.loadA agg_49 rfl h1 h2 ?_)
  refine RL.opS trivial rfl (OpW.callR (al := [aggv x10]) Try.func68 fb_68 fn_68 rfl h (fun x11 w12 h => ?_))
  refine RL.opS trivial rfl (OpW.move (v := .tuple #[aggv x11.1, .int .i64 x11.2]) rfl ?_)
  refine RL.opS trivial rfl (OpW.extract (v := aggv x11.1) rfl rfl ?_)
  refine RL.opS trivial rfl (OpW.extract (v := .int .i64 x11.2) rfl rfl ?_)
  obtain ⟨hl_b13, ho_b13, h⟩ := h
  obtain ⟨b13, hb13_⟩ : ∃ b_, b_ = w12.heap.size := ⟨_, rfl⟩
  obtain ⟨w14, hw14_⟩ : ∃ w_, w_ = w12.alloc (.cells (List.toArray x11.1) 49) := ⟨_, rfl⟩
  have h := h b13 w14 hb13_ hw14_
  refine RL.opS trivial rfl (OpW.allocZ (b := b13) zero_49 hb13_ ?_)
  refine RL.opN trivial (OpW.storeF (zs := [Value.slice none 0 0, Value.slice none 0 0, Value.slice none 0 0, Value.int .i64 0, Value.bool false]) (cs := x11.1) size_49 rfl rfl hl_b13 (by decide) ho_b13 hb13_ hw14_ ?_)
  refine RL.opS trivial rfl (OpW.assign (v := .int .i64 x11.2) rfl ?_)
  refine RL.nil ?_
  refine CW.seq ?_
  refine CW.seq ?_
  refine CW.region ?_
  refine RL.opS trivial rfl (OpW.move (v := .int .i64 x11.2) rfl ?_)
  refine RL.opS trivial rfl (OpW.bin (k := .i64) (a := x11.2) (b := 0) (v := .bool (!decide (x11.2 = 0))) rfl rfl rfl ?_)
  refine RL.nil ?_
  obtain ⟨ha, hc⟩ := h
  refine CW.cond (b := (!decide (x11.2 = 0))) rfl (fun hb15 => ?_) (fun hb15 => ?_)
  ·have h := ha hb15; clear ha hc
   refine CW.seq ?_
   refine CW.region ?_
   obtain ⟨x16, h1, h2, h⟩ := h
   refine RL.opS trivial rfl (OpW.loadA agg_49 rfl h1 h2 ?_)
   refine RL.opS trivial rfl (OpW.move (v := .int .i64 x11.2) rfl ?_)
   obtain ⟨g_, o_, e_, cur_, ha_, h1, h2, h3, h4, h⟩ := h
   obtain ⟨w17, hw17_⟩ : ∃ w_, w_ = w14.setRow g_ (cur_.toList.take o_ ++ x16 ++ cur_.toList.drop (o_ + List.length x16)).toArray := ⟨_, rfl⟩
   have h := h w17 hw17_
   refine RL.opN trivial (OpW.storeAE (cs := x16) size_49 rfl rfl ha_ h1 h2 h3 h4 hw17_ ?_)
   refine RL.opS trivial rfl (OpW.assign (v := .int .i64 x11.2) rfl ?_)
   refine RL.nil ?_
   refine CW.ret ?_
   obtain ⟨x18, hc1, hc2, h⟩ := h
   exact ret_intro (res2c rfl agg_49 rfl hc1 hc2 rfl) ⟨(x18, x11.2), rfl, h⟩
  ·have h := hc hb15; clear ha hc
   refine CW.skip ?_
   refine CW.seq ?_
   refine CW.seq ?_
   refine CW.region ?_
   refine RL.opS trivial rfl (OpW.assign (v := .int .i64 0) rfl ?_)
   refine RL.nil ?_
   refine CW.block ?_
   obtain ⟨I45, mu46, hI, hs⟩ := h
   refine CW.loop (σ := Int) (fun s19 ρ => ρ 6 = .int .i64 s19 ∧ ρ 2 = .pointer (some ⟨b3, 0, none⟩) ∧ ρ 4 = .pointer (some ⟨b13, 0, none⟩)) I45 mu46 0 ⟨rfl, rfl, rfl⟩ hI ?_
   rintro s19 ρ w20 ⟨e22, e23, e24⟩ hI
   have h := hs s19 w20 hI
   clear hs hI
   refine CW.seq ?_
   refine CW.seq ?_
   refine CW.region ?_
   refine RL.opS trivial rfl (OpW.move (v := .int .i64 s19) e22 ?_)
   refine RL.opS trivial rfl (OpW.fieldAddr field_49_1 e24 ?_)
   obtain ⟨x25, h1, h⟩ := h
   refine RL.opS trivial rfl (OpW.load1 (v := Sl.v x25) one_46 rfl h1 ?_)
   refine RL.opS trivial rfl (OpW.len (s := x25) slice_46 rfl ?_)
   refine RL.opS trivial rfl (OpW.bin (k := .i64) (a := s19) (b := (x25.len : Int)) (v := .bool (decide (s19 < (x25.len : Int)))) rfl rfl rfl ?_)
   refine RL.nil ?_
   obtain ⟨ha, hc⟩ := h
   refine CW.cond (b := (decide (s19 < (x25.len : Int)))) rfl (fun hb26 => ?_) (fun hb26 => ?_)
   ·have h := ha hb26; clear ha hc
    refine CW.skip ?_
    refine CW.seq ?_
    refine CW.block ?_
    obtain ⟨w27, hw27_⟩ : ∃ w_, w_ = w20.drew := ⟨_, rfl⟩
    have h := h w27 hw27_
    have hx28 : Ext w20 w27 := by rw [hw27_]; exact Ext.drew _
    refine CW.draws (m := 17) (listed := #[F,F,F,F,F,F,F,F,F,F,F,F,F,F,F,F,F]) mixed [0, 1, 2, 3, 4, 5, 6, 7, 8, 9, 10, 11, 12, 13, 15] (Ext w20) rfl rfl ?_
    rw [← hw27_]
    refine DL.takeP (listed' := #[T,F,F,F,F,F,F,F,F,F,F,F,F,F,F,F,F]) (v := .pointer (some (Addr.add ⟨b13, 0, none⟩ 0))) 0 rfl rfl (by kernel_rfl) rfl trivial rfl (fun w_ K_ h_ => OpW.fieldAddr (off := 0) field_49_0 e24 h_) ?_
    obtain ⟨x29, h1, h⟩ := h
    refine DL.takeK (listed' := #[T,T,F,F,F,F,F,F,F,F,F,F,F,F,F,F,F]) (v := Sl.v x29) 1 rfl rfl (by kernel_rfl) (by kernel_rfl) rfl trivial rfl hx28 (fun w_ hS_ K_ h_ => OpW.load1 (v := Sl.v x29) one_45 rfl (hS_.cell h1) h_) ?_
    refine DL.takeP (listed' := #[T,T,T,F,F,F,F,F,F,F,F,F,F,F,F,F,F]) (v := .pointer (some (Addr.add ⟨b13, 0, none⟩ 1))) 2 rfl rfl (by kernel_rfl) rfl trivial rfl (fun w_ K_ h_ => OpW.fieldAddr field_49_1 e24 h_) ?_
    obtain ⟨x30, h1, h⟩ := h
    refine DL.takeK (listed' := #[T,T,T,T,F,F,F,F,F,F,F,F,F,F,F,F,F]) (v := Sl.v x30) 3 rfl rfl (by kernel_rfl) (by kernel_rfl) rfl trivial rfl hx28 (fun w_ hS_ K_ h_ => OpW.load1 (v := Sl.v x30) one_46 rfl (hS_.cell h1) h_) ?_
    refine DL.takeP (listed' := #[T,T,T,T,T,F,F,F,F,F,F,F,F,F,F,F,F]) (v := .int .i64 s19) 4 rfl rfl (by kernel_rfl) rfl trivial rfl (fun w_ K_ h_ => OpW.move (v := .int .i64 s19) e22 h_) ?_
    obtain ⟨a31_, a31, h1, h2, h3, h4, h⟩ := h
    refine DL.takeP (listed' := #[T,T,T,T,T,T,F,F,F,F,F,F,F,F,F,F,F]) (v := .pointer (some a31)) 5 rfl rfl (by kernel_rfl) rfl trivial rfl (fun w_ K_ h_ => OpW.indexE (a' := a31) slice_46 rfl rfl h1 h2 h3 h4 h_) ?_
    refine DL.takeP (listed' := #[T,T,T,T,T,T,T,F,F,F,F,F,F,F,F,F,F]) (v := .pointer (some (Addr.add a31 0))) 6 rfl rfl (by kernel_rfl) rfl trivial rfl (fun w_ K_ h_ => OpW.fieldAddr (off := 0) field_114_0 rfl h_) ?_
    obtain ⟨x33, h1, h⟩ := h
    refine DL.takeK (listed' := #[T,T,T,T,T,T,T,T,F,F,F,F,F,F,F,F,F]) (v := .int .i64 x33) 7 rfl rfl (by kernel_rfl) (by kernel_rfl) rfl trivial rfl hx28 (fun w_ hS_ K_ h_ => OpW.load1 (v := .int .i64 x33) one_3 rfl (hS_.cell h1) h_) ?_
    refine DL.takeP (listed' := #[T,T,T,T,T,T,T,T,T,F,F,F,F,F,F,F,F]) (v := .pointer (some (Addr.add ⟨b13, 0, none⟩ 1))) 8 rfl rfl (by kernel_rfl) rfl trivial rfl (fun w_ K_ h_ => OpW.fieldAddr field_49_1 e24 h_) ?_
    obtain ⟨x34, h1, h⟩ := h
    refine DL.takeK (listed' := #[T,T,T,T,T,T,T,T,T,T,F,F,F,F,F,F,F]) (v := Sl.v x34) 9 rfl rfl (by kernel_rfl) (by kernel_rfl) rfl trivial rfl hx28 (fun w_ hS_ K_ h_ => OpW.load1 (v := Sl.v x34) one_46 rfl (hS_.cell h1) h_) ?_
    refine DL.takeP (listed' := #[T,T,T,T,T,T,T,T,T,T,T,F,F,F,F,F,F]) (v := .int .i64 s19) 10 rfl rfl (by kernel_rfl) rfl trivial rfl (fun w_ K_ h_ => OpW.move (v := .int .i64 s19) e22 h_) ?_
    obtain ⟨a35_, a35, h1, h2, h3, h4, h⟩ := h
    refine DL.takeP (listed' := #[T,T,T,T,T,T,T,T,T,T,T,T,F,F,F,F,F]) (v := .pointer (some a35)) 11 rfl rfl (by kernel_rfl) rfl trivial rfl (fun w_ K_ h_ => OpW.indexE (a' := a35) slice_46 rfl rfl h1 h2 h3 h4 h_) ?_
    refine DL.takeP (listed' := #[T,T,T,T,T,T,T,T,T,T,T,T,T,F,F,F,F]) (v := .pointer (some (Addr.add a35 1))) 12 rfl rfl (by kernel_rfl) rfl trivial rfl (fun w_ K_ h_ => OpW.fieldAddr field_114_1 rfl h_) ?_
    obtain ⟨x37, h1, h⟩ := h
    refine DL.takeK (listed' := #[T,T,T,T,T,T,T,T,T,T,T,T,T,T,F,F,F]) (v := str x37) 13 rfl rfl (by kernel_rfl) (by kernel_rfl) rfl trivial rfl hx28 (fun w_ hS_ K_ h_ => OpW.load1 (v := str x37) one_9 rfl (hS_.cell h1) h_) ?_
    refine DL.execS (listed' := #[T,T,T,T,T,T,T,T,T,T,T,T,T,T,T,F,F]) 14 rfl (by kernel_rfl) rfl trivial rfl (OpW.callR (al := [Sl.v x29, .int .i64 x33, str x37]) Try.func82 fb_82 fn_82 rfl h (fun x38 w39 h => ?_))
    refine ⟨(fun h_ => absurd h_ (by decide)), ?_⟩
    refine DL.takeP (listed' := #[T,T,T,T,T,T,T,T,T,T,T,T,T,T,T,T,F]) (v := .pointer (some (Addr.add ⟨b13, 0, none⟩ 0))) 15 rfl rfl (by kernel_rfl) rfl trivial rfl (fun w_ K_ h_ => OpW.fieldAddr (off := 0) field_49_0 e24 h_) ?_
    obtain ⟨u_, h1, h2, h⟩ := h
    obtain ⟨w40, hw40_⟩ : ∃ w_, w_ = w39.setCell (Addr.add ⟨b13, 0, none⟩ 0) (Sl.v x38) := ⟨_, rfl⟩
    have h := h w40 hw40_
    refine DL.execN (listed' := #[T,T,T,T,T,T,T,T,T,T,T,T,T,T,T,T,T]) 16 rfl (by kernel_rfl) rfl trivial (OpW.store1E (v := Sl.v x38) size_45 rfl rfl rfl h1 h2 hw40_ ?_)
    refine ⟨(fun h_ => absurd h_ (by decide)), ?_⟩
    refine DL.done (by kernel_rfl) ?_
    refine CW.region ?_
    refine RL.opS trivial rfl (OpW.move (v := .int .i64 s19) e22 ?_)
    refine RL.opS trivial rfl (OpW.bin (k := .i64) (a := s19) (b := 1) (v := .int .i64 (IntKind.i64.wrap (s19 + 1))) rfl rfl rfl ?_)
    refine RL.opS trivial rfl (OpW.assign (v := .int .i64 (IntKind.i64.wrap (s19 + 1))) rfl ?_)
    refine RL.nil ?_
    exact ⟨(IntKind.i64.wrap (s19 + 1)), ⟨rfl, e23, e24⟩, h⟩
   ·have h := hc hb26; clear ha hc
    refine CW.exit ?_
    refine CW.seq ?_
    refine CW.region ?_
    refine RL.opS trivial rfl (OpW.fieldAddr field_49_1 e24 ?_)
    obtain ⟨u_, h1, h2, h⟩ := h
    obtain ⟨w41, hw41_⟩ : ∃ w_, w_ = w20.setCell (Addr.add ⟨b13, 0, none⟩ 1) (Sl.v nilSl) := ⟨_, rfl⟩
    have h := h w41 hw41_
    refine RL.opN trivial (OpW.store1E (v := Sl.v nilSl) size_46 rfl rfl rfl h1 h2 hw41_ ?_)
    refine RL.nil ?_
    refine CW.seq ?_
    refine CW.region ?_
    obtain ⟨x42, h1, h2, h⟩ := h
    refine RL.opS trivial rfl (OpW.loadA agg_49 e24 h1 h2 ?_)
    obtain ⟨g_, o_, e_, cur_, ha_, h1, h2, h3, h4, h⟩ := h
    obtain ⟨w43, hw43_⟩ : ∃ w_, w_ = w41.setRow g_ (cur_.toList.take o_ ++ x42 ++ cur_.toList.drop (o_ + List.length x42)).toArray := ⟨_, rfl⟩
    have h := h w43 hw43_
    refine RL.opN trivial (OpW.storeAE (cs := x42) size_49 e23 rfl ha_ h1 h2 h3 h4 hw43_ ?_)
    refine RL.opS trivial rfl (OpW.assign (v := .int .i64 0) rfl ?_)
    refine RL.nil ?_
    refine CW.ret ?_
    obtain ⟨x44, hc1, hc2, h⟩ := h
    exact ret_intro (res2c rfl agg_49 e23 hc1 hc2 rfl) ⟨(x44, 0), rfl, h⟩
end Go.Proofs.Ytagkcbbbdlmcjaa
end
section
/- The typed readings of the functions, and that the program meets each: written by gen.py (a program of this session). -/
namespace Go.Proofs.Ytagkcbbbdlmcjaa
open Go.Lift
set_option maxRecDepth 100000 in
set_option maxHeartbeats 4000000 in
theorem s66_calls (K : Int → World → Prop) (p0 : List Value) (p1 : Int) (w : World) (h : s66 K p0 p1 w) :
  Calls Try.prog 66 #[aggv p0, .int .i64 p1] w (Ret r66 K) := by
 unfold s66 at h
 refine calls_of_CW (n := 16) Try.func66 rfl rfl rfl ?_
 refine CW.seq ?_
 refine CW.region ?_
 obtain ⟨b1, hb1_⟩ : ∃ b_, b_ = w.heap.size := ⟨_, rfl⟩
 obtain ⟨w2, hw2_⟩ : ∃ w_, w_ = w.alloc (.cells (List.toArray p0) 49) := ⟨_, rfl⟩
 have h := h b1 w2 hb1_ hw2_
 refine RL.opS trivial rfl (OpW.boxE (cs := p0) (rfl) hb1_ hw2_ ?_)
 refine RL.opS trivial rfl (OpW.assign (v := .int .i64 0) rfl ?_)
 refine RL.nil ?_
 refine CW.seq ?_
 refine CW.seq ?_
 refine CW.region ?_
 refine RL.opS trivial rfl (OpW.fieldAddr field_49_4 rfl ?_)
 obtain ⟨x3, h1, h⟩ := h
 refine RL.opS trivial rfl (OpW.load1 (v := .bool x3) one_4 rfl h1 ?_)
 refine RL.nil ?_
 obtain ⟨ha, hc⟩ := h
 refine CW.cond (b := x3) rfl (fun hb4 => ?_) (fun hb4 => ?_)
 ·have h := ha hb4; clear ha hc
  refine CW.seq ?_
  refine CW.region ?_
  refine RL.opS trivial rfl (OpW.assign (v := .int .i64 6) rfl ?_)
  refine RL.nil ?_
  refine CW.ret ?_
  exact ret_intro (res1 rfl rfl) ⟨6, rfl, h⟩
 ·have h := hc hb4; clear ha hc
  refine CW.skip ?_
  refine CW.seq ?_
  refine CW.seq ?_
  refine CW.region ?_
  refine RL.opS trivial rfl (OpW.move (v := .int .i64 p1) rfl ?_)
  refine RL.opS trivial rfl (OpW.bin (k := .i64) (a := p1) (b := 0) (v := .bool (decide (p1 < 0))) rfl rfl rfl ?_)
  refine RL.opS trivial rfl (OpW.move (v := .bool (decide (p1 < 0))) rfl ?_)
  refine jn_elim h ?_; clear h; intro k12 hk13 h
  refine RL.joinAt (A := Bool) 6 (fun s8 ρ => ρ 15 = .bool s8) k12 ?_ ?_
  ·rintro s8 ρ w9 e10 h
   subst hk13
   dsimp only [List.drop]
   refine RL.nil ?_
   obtain ⟨ha, hc⟩ := h
   refine CW.cond (b := s8) e10 (fun hb11 => ?_) (fun hb11 => ?_)
   ·have h := ha hb11; clear ha hc
    refine CW.seq ?_
    refine CW.region ?_
    refine RL.opS trivial rfl (OpW.assign (v := .int .i64 2) rfl ?_)
    refine RL.nil ?_
    refine CW.ret ?_
    exact ret_intro (res1 rfl rfl) ⟨2, rfl, h⟩
   ·have h := hc hb11; clear ha hc
    refine CW.skip ?_
    refine CW.seq ?_
    refine CW.region ?_
    refine RL.opS trivial rfl (OpW.assign (v := .int .i64 0) rfl ?_)
    refine RL.nil ?_
    refine CW.ret ?_
    exact ret_intro (res1 rfl rfl) ⟨0, rfl, h⟩
  ·clear hk13
   dsimp only [List.take]
   obtain ⟨ha, hc⟩ := h
   rcases Bool.eq_false_or_eq_true (decide (p1 < 0)) with hb5 | hb5
   ·have h := ha hb5; clear ha hc
    refine RL.skipS (notWanted_of rfl rfl hb5) rfl ?_
    refine RL.skipS (notWanted_of rfl rfl hb5) rfl ?_
    refine RL.skipS (notWanted_of rfl rfl hb5) rfl ?_
    refine RL.skipS (notWanted_of rfl rfl hb5) rfl ?_
    refine RL.skipS (notWanted_of rfl rfl hb5) rfl ?_
    refine RL.opS trivial rfl (OpW.pick (b := true) (v := .bool true) (congrArg Value.bool hb5) rfl ?_)
    refine RL.nil ?_
    exact ⟨true, rfl, h⟩
   ·have h := hc hb5; clear ha hc
    refine RL.opS (wanted_of rfl rfl hb5) rfl (OpW.move (v := .int .i64 p1) rfl ?_)
    refine RL.opS (wanted_of rfl rfl hb5) rfl (OpW.fieldAddr (off := 0) field_49_0 rfl ?_)
    obtain ⟨x7, h1, h⟩ := h
    refine RL.opS (wanted_of rfl rfl hb5) rfl (OpW.load1 (v := Sl.v x7) one_45 rfl h1 ?_)
    refine RL.opS (wanted_of rfl rfl hb5) rfl (OpW.len (s := x7) slice_45 rfl ?_)
    refine RL.opS (wanted_of rfl rfl hb5) rfl (OpW.bin (k := .i64) (a := p1) (b := (x7.len : Int)) (v := .bool (decide ((x7.len : Int) ≤ p1))) rfl rfl rfl ?_)
    refine RL.opS trivial rfl (OpW.pick (b := false) (v := .bool (decide ((x7.len : Int) ≤ p1))) (congrArg Value.bool hb5) rfl ?_)
    refine RL.nil ?_
    exact ⟨(decide ((x7.len : Int) ≤ p1)), rfl, h⟩
end Go.Proofs.Ytagkcbbbdlmcjaa
end
section
/- The typed readings of the functions, and that the program meets each: written by gen.py (a program of this session). -/
namespace Go.Proofs.Ytagkcbbbdlmcjaa
open Go.Lift
set_option maxRecDepth 100000 in
set_option maxHeartbeats 4000000 in
theorem s68_calls (K : List Value × Int → World → Prop) (p0 : List Value) (w : World) (h : s68 K p0 w) :
  Calls Try.prog 68 #[aggv p0] w (Ret r68 K) := by
 unfold s68 at h
 refine calls_of_CW (n := 35) Try.func68 rfl rfl rfl ?_
 refine CW.seq ?_
 refine CW.region ?_
 obtain ⟨b1, hb1_⟩ : ∃ b_, b_ = w.heap.size := ⟨_, rfl⟩
 obtain ⟨w2, hw2_⟩ : ∃ w_, w_ = w.alloc (.cells (List.toArray p0) 49) := ⟨_, rfl⟩
 have h := h b1 w2 hb1_ hw2_
 refine RL.opS trivial rfl (OpW.boxE (cs := p0) (rfl) hb1_ hw2_ ?_)
 obtain ⟨b3, hb3_⟩ : ∃ b_, b_ = w2.heap.size := ⟨_, rfl⟩
 obtain ⟨w4, hw4_⟩ : ∃ w_, w_ = w2.alloc (.cells (List.toArray [Value.slice none 0 0, Value.slice none 0 0, Value.slice none 0 0, Value.int .i64 0, Value.bool false]) 49) := ⟨_, rfl⟩
 have h := h b3 w4 hb3_ hw4_
 refine RL.opS trivial rfl (OpW.allocE (b := b3) zero_49 hb3_ hw4_ ?_)
 refine RL.opS trivial rfl (OpW.assign (v := .int .i64 0) rfl ?_)
 refine RL.nil ?_
 refine CW.seq ?_
 refine CW.region ?_
 refine RL.opS trivial rfl (OpW.fieldAddr field_49_3 rfl ?_)
 obtain ⟨x5, h1, h⟩ := h
 refine RL.opS trivial rfl (OpW.load1 (v := .int .i64 x5) one_3 rfl h1 ?_)
 refine RL.opS trivial rfl (OpW.assign (v := .int .i64 x5) rfl ?_)
 refine RL.nil ?_
 refine CW.seq ?_
 refine CW.region ?_
 refine RL.opS trivial rfl (OpW.fieldAddr field_49_3 rfl ?_)
 obtain ⟨x6, h1, h⟩ := h
 refine RL.opS trivial rfl (OpW.load1 (v := .int .i64 x6) one_3 rfl h1 ?_)
 refine RL.opS trivial rfl (OpW.bin (k := .i64) (a := x6) (b := 1) (v := .int .i64 (IntKind.i64.wrap (x6 + 1))) rfl rfl rfl ?_)
 refine RL.opS trivial rfl (OpW.fieldAddr field_49_3 rfl ?_)
 obtain ⟨u_, h1, h2, h⟩ := h
 obtain ⟨w7, hw7_⟩ : ∃ w_, w_ = w4.setCell (Addr.add ⟨b1, 0, none⟩ 3) (.int .i64 (IntKind.i64.wrap (x6 + 1))) := ⟨_, rfl⟩
 have h := h w7 hw7_
 refine RL.opN trivial (OpW.store1E (v := .int .i64 (IntKind.i64.wrap (x6 + 1))) size_3 rfl rfl rfl h1 h2 hw7_ ?_)
 refine RL.nil ?_
 refine CW.seq ?_
 refine CW.seq ?_
 refine CW.region ?_
 refine RL.opS trivial rfl (OpW.assign (v := .int .i64 0) rfl ?_)
 refine RL.nil ?_
 refine CW.block ?_
 obtain ⟨I36, mu37, hI, hs⟩ := h
 refine CW.loop (σ := Int) (fun s8 ρ => ρ 5 = .int .i64 s8 ∧ ρ 1 = .pointer (some ⟨b1, 0, none⟩) ∧ ρ 2 = .pointer (some ⟨b3, 0, none⟩) ∧ ρ 4 = .int .i64 x5) I36 mu37 0 ⟨rfl, rfl, rfl, rfl⟩ hI ?_
 rintro s8 ρ w9 ⟨e11, e12, e13, e14⟩ hI
 have h := hs s8 w9 hI
 clear hs hI
 refine CW.seq ?_
 refine CW.seq ?_
 refine CW.region ?_
 refine RL.opS trivial rfl (OpW.move (v := .int .i64 s8) e11 ?_)
 refine RL.opS trivial rfl (OpW.fieldAddr field_49_2 e12 ?_)
 obtain ⟨x15, h1, h⟩ := h
 refine RL.opS trivial rfl (OpW.load1 (v := Sl.v x15) one_47 rfl h1 ?_)
 refine RL.opS trivial rfl (OpW.len (s := x15) slice_47 rfl ?_)
 refine RL.opS trivial rfl (OpW.bin (k := .i64) (a := s8) (b := (x15.len : Int)) (v := .bool (decide (s8 < (x15.len : Int)))) rfl rfl rfl ?_)
 refine RL.nil ?_
 obtain ⟨ha, hc⟩ := h
 refine CW.cond (b := (decide (s8 < (x15.len : Int)))) rfl (fun hb16 => ?_) (fun hb16 => ?_)
 ·have h := ha hb16; clear ha hc
  refine CW.skip ?_
  refine CW.seq ?_
  refine CW.block ?_
  refine CW.seq ?_
  refine CW.region ?_
  refine RL.opS trivial rfl (OpW.fieldAddr field_49_2 e12 ?_)
  obtain ⟨x17, h1, h⟩ := h
  refine RL.opS trivial rfl (OpW.load1 (v := Sl.v x17) one_47 rfl h1 ?_)
  refine RL.opS trivial rfl (OpW.move (v := .int .i64 s8) e11 ?_)
  obtain ⟨a18_, a18, h1, h2, h3, h4, h⟩ := h
  refine RL.opS trivial rfl (OpW.indexE (a' := a18) slice_47 rfl rfl h1 h2 h3 h4 ?_)
  refine RL.opS trivial rfl (OpW.fieldAddr (off := 0) field_27_0 rfl ?_)
  obtain ⟨x20, h1, h⟩ := h
  refine RL.opS trivial rfl (OpW.load1 (v := .int .i64 x20) one_3 rfl h1 ?_)
  refine RL.opS trivial rfl (OpW.move (v := .int .i64 x5) e14 ?_)
  refine RL.opS trivial rfl (OpW.bin (k := .i64) (a := x20) (b := x5) (v := .bool (decide (x20 = x5))) rfl rfl rfl ?_)
  refine RL.nil ?_
  obtain ⟨ha, hc⟩ := h
  refine CW.cond (b := (decide (x20 = x5))) rfl (fun hb21 => ?_) (fun hb21 => ?_)
  ·have h := ha hb21; clear ha hc
   refine CW.seq ?_
   obtain ⟨w22, hw22_⟩ : ∃ w_, w_ = w9.drew := ⟨_, rfl⟩
   have h := h w22 hw22_
   have hx23 : Ext w9 w22 := by rw [hw22_]; exact Ext.drew _
   refine CW.draws (m := 9) (listed := #[F,F,F,F,F,F,F,F,F]) mixed [0, 1, 2, 3, 4, 5, 8] (Ext w9) rfl rfl ?_
   rw [← hw22_]
   obtain ⟨x24, h1, h2, h⟩ := h
   refine DL.takeK (listed' := #[T,F,F,F,F,F,F,F,F]) (v := aggv x24) 0 rfl rfl (by kernel_rfl) (by kernel_rfl) rfl trivial rfl hx23 (fun w_ hS_ K_ h_ => OpW.loadA agg_49 e12 h1 (hS_.at h2) h_) ?_
   refine DL.takeP (listed' := #[T,T,F,F,F,F,F,F,F]) (v := .pointer (some (Addr.add ⟨b1, 0, none⟩ 2))) 1 rfl rfl (by kernel_rfl) rfl trivial rfl (fun w_ K_ h_ => OpW.fieldAddr field_49_2 e12 h_) ?_
   obtain ⟨x25, h1, h⟩ := h
   refine DL.takeK (listed' := #[T,T,T,F,F,F,F,F,F]) (v := Sl.v x25) 2 rfl rfl (by kernel_rfl) (by kernel_rfl) rfl trivial rfl hx23 (fun w_ hS_ K_ h_ => OpW.load1 (v := Sl.v x25) one_47 rfl (hS_.cell h1) h_) ?_
   refine DL.takeP (listed' := #[T,T,T,T,F,F,F,F,F]) (v := .int .i64 s8) 3 rfl rfl (by kernel_rfl) rfl trivial rfl (fun w_ K_ h_ => OpW.move (v := .int .i64 s8) e11 h_) ?_
   obtain ⟨a26_, a26, h1, h2, h3, h4, h⟩ := h
   refine DL.takeP (listed' := #[T,T,T,T,T,F,F,F,F]) (v := .pointer (some a26)) 4 rfl rfl (by kernel_rfl) rfl trivial rfl (fun w_ K_ h_ => OpW.indexE (a' := a26) slice_47 rfl rfl h1 h2 h3 h4 h_) ?_
   obtain ⟨x28, h1, h2, h⟩ := h
   refine DL.takeK (listed' := #[T,T,T,T,T,T,F,F,F]) (v := aggv x28) 5 rfl rfl (by kernel_rfl) (by kernel_rfl) rfl trivial rfl hx23 (fun w_ hS_ K_ h_ => OpW.loadA agg_27 rfl h1 (hS_.at h2) h_) ?_
   refine DL.execS (listed' := #[T,T,T,T,T,T,T,F,F]) 6 rfl (by kernel_rfl) rfl trivial rfl (OpW.callR (al := [aggv x24, aggv x28]) Try.func58 fb_58 fn_58 rfl h (fun x29 w30 h => ?_))
   refine ⟨(fun h_ => absurd h_ (by decide)), ?_⟩
   obtain ⟨g_, o_, e_, cur_, ha_, h1, h2, h3, h4, h⟩ := h
   obtain ⟨w31, hw31_⟩ : ∃ w_, w_ = w30.setRow g_ (cur_.toList.take o_ ++ x29 ++ cur_.toList.drop (o_ + List.length x29)).toArray := ⟨_, rfl⟩
   have h := h w31 hw31_
   refine DL.execN (listed' := #[T,T,T,T,T,T,T,T,F]) 7 rfl (by kernel_rfl) rfl trivial (OpW.storeAE (cs := x29) size_49 e13 rfl ha_ h1 h2 h3 h4 hw31_ ?_)
   refine ⟨(fun h_ => absurd h_ (by decide)), ?_⟩
   refine DL.takeP (listed' := #[T,T,T,T,T,T,T,T,T]) (v := .int .i64 6) 8 rfl rfl (by kernel_rfl) rfl trivial rfl (fun w_ K_ h_ => OpW.assign (v := .int .i64 6) rfl h_) ?_
   refine DL.done (by kernel_rfl) ?_
   refine CW.ret ?_
   obtain ⟨x32, hc1, hc2, h⟩ := h
   exact ret_intro (res2c rfl agg_49 e13 hc1 hc2 rfl) ⟨(x32, 6), rfl, h⟩
  ·have h := hc hb21; clear ha hc
   refine CW.skip ?_
   refine CW.region ?_
   refine RL.opS trivial rfl (OpW.move (v := .int .i64 s8) e11 ?_)
   refine RL.opS trivial rfl (OpW.bin (k := .i64) (a := s8) (b := 1) (v := .int .i64 (IntKind.i64.wrap (s8 + 1))) rfl rfl rfl ?_)
   refine RL.opS trivial rfl (OpW.assign (v := .int .i64 (IntKind.i64.wrap (s8 + 1))) rfl ?_)
   refine RL.nil ?_
   exact ⟨(IntKind.i64.wrap (s8 + 1)), ⟨rfl, e12, e13, e14⟩, h⟩
 ·have h := hc hb16; clear ha hc
  refine CW.exit ?_
  refine CW.seq ?_
  refine CW.region ?_
  obtain ⟨x33, h1, h2, h⟩ := h
  refine RL.opS trivial rfl (OpW.loadA agg_49 e12 h1 h2 ?_)
  obtain ⟨g_, o_, e_, cur_, ha_, h1, h2, h3, h4, h⟩ := h
  obtain ⟨w34, hw34_⟩ : ∃ w_, w_ = w9.setRow g_ (cur_.toList.take o_ ++ x33 ++ cur_.toList.drop (o_ + List.length x33)).toArray := ⟨_, rfl⟩
  have h := h w34 hw34_
  refine RL.opN trivial (OpW.storeAE (cs := x33) size_49 e13 rfl ha_ h1 h2 h3 h4 hw34_ ?_)
  refine RL.opS trivial rfl (OpW.assign (v := .int .i64 0) rfl ?_)
  refine RL.nil ?_
  refine CW.ret ?_
  obtain ⟨x35, hc1, hc2, h⟩ := h
  exact ret_intro (res2c rfl agg_49 e13 hc1 hc2 rfl) ⟨(x35, 0), rfl, h⟩
end Go.Proofs.Ytagkcbbbdlmcjaa
end
section
/- The typed readings of the functions, and that the program meets each: written by gen.py (a program of this session). -/
namespace Go.Proofs.Ytagkcbbbdlmcjaa
open Go.Lift
set_option maxRecDepth 100000 in
set_option maxHeartbeats 4000000 in
theorem s82_calls (K : Sl → World → Prop) (p0 : Sl) (p1 : Int) (p2 : List UInt8) (w : World) (h : s82 K p0 p1 p2 w) :
  Calls Try.prog 82 #[Sl.v p0, .int .i64 p1, str p2] w (Ret r82 K) := by
 unfold s82 at h
 refine calls_of_CW (n := 16) Try.func82 rfl rfl rfl ?_
 refine CW.seq ?_
 refine CW.region ?_
 refine RL.opS trivial rfl (OpW.assign (v := Sl.v nilSl) rfl ?_)
 refine RL.nil ?_
 refine CW.seq ?_
 refine CW.region ?_
 obtain ⟨b1, hb1_⟩ : ∃ b_, b_ = w.heap.size := ⟨_, rfl⟩
 obtain ⟨w2, hw2_⟩ : ∃ w_, w_ = w.alloc (.cells (List.toArray []) 9) := ⟨_, rfl⟩
 have h := h b1 w2 hb1_ hw2_
 refine RL.opS trivial rfl (OpW.buildSliceE (vs := []) (cs := []) (by rfl) (by kernel_rfl) hb1_ hw2_ ?_)
 refine RL.opS trivial rfl (OpW.move (v := Sl.v p0) rfl ?_)
 obtain ⟨x3, w4, hr_, h⟩ := h
 refine RL.opS trivial rfl (OpW.appendL (v := Sl.v x3) rfl hr_ ?_)
 refine RL.opS trivial rfl (OpW.assign (v := Sl.v x3) rfl ?_)
 refine RL.nil ?_
 refine CW.seq ?_
 refine CW.region ?_
 refine RL.opS trivial rfl (OpW.move (v := Sl.v x3) rfl ?_)
 refine RL.opS trivial rfl (OpW.move (v := .int .i64 p1) rfl ?_)
 refine RL.opS trivial rfl (OpW.move (v := str p2) rfl ?_)
 obtain ⟨a5_, a5, h1, h2, h3, h4, h⟩ := h
 refine RL.opS trivial rfl (OpW.indexE (a' := a5) slice_45 rfl rfl h1 h2 h3 h4 ?_)
 obtain ⟨u_, h1, h2, h⟩ := h
 obtain ⟨w7, hw7_⟩ : ∃ w_, w_ = w4.setCell a5 (str p2) := ⟨_, rfl⟩
 have h := h w7 hw7_
 refine RL.opN trivial (OpW.store1E (v := str p2) size_9 rfl rfl rfl h1 h2 hw7_ ?_)
 refine RL.nil ?_
 refine CW.seq ?_
 refine CW.region ?_
 refine RL.opS trivial rfl (OpW.move (v := Sl.v x3) rfl ?_)
 refine RL.opS trivial rfl (OpW.assign (v := Sl.v x3) rfl ?_)
 refine RL.nil ?_
 refine CW.ret ?_
 exact ret_intro (res1 rfl rfl) ⟨x3, rfl, h⟩
end Go.Proofs.Ytagkcbbbdlmcjaa
end
section
/- The document's disk: what its functions answer, over the same plain disk. -/
namespace Go.Proofs.Ytagkcbbbdlmcjaa
open Go.Lift Go.Lift.Disk Go.RowKit
variable {B : Nat → Prop}
theorem mkz_45 : mkCells Try.prog 45 = some (9, 1, 16, [str []]) := by kernel_rfl
abbrev txts (l : List (List UInt8)) : List Value := l.map str
theorem txts_one (l : List (List UInt8)) : ∀ u ∈ txts l, u.oneCell' = true := by
 intro u hu
 obtain ⟨x, _, rfl⟩ := List.mem_map.1 hu
 rfl
theorem txts_get {l : List (List UInt8)} {i : Nat} (hi : i < l.length) : (txts l)[i]? = some (str l[i]) := by simp [hi]
theorem txts_set (l : List (List UInt8)) (i : Nat) (b : List UInt8) : (txts l).set i (str b) = txts (l.set i b) := by simp [txts, List.map_set]
def pairC (p : Nat × List UInt8) : List Value := [.int .i64 (p.1 : Int), str p.2]
structure StrsAt (w : World) (s : Sl) (l : List (List UInt8)) : Prop where
 len : s.len = l.length
 cells : AtO w s.a (txts l)
structure PairsAt (w : World) (s : Sl) (l : List (Nat × List UInt8)) : Prop where
 len : s.len = l.length
 cells : AtO w s.a (l.flatMap pairC)
theorem StrsAt.ext {w w' : World} {s : Sl} {l : List (List UInt8)} (h : StrsAt w s l) (hx : Ext w w') : StrsAt w' s l := ⟨h.len, Ext.atO hx h.cells⟩
theorem PairsAt.ext {w w' : World} {s : Sl} {l : List (Nat × List UInt8)} (h : PairsAt w s l) (hx : Ext w w') : PairsAt w' s l := ⟨h.len, Ext.atO hx h.cells⟩
theorem StrsAt.get {w : World} {s : Sl} {l : List (List UInt8)} (h : StrsAt w s l) {i : Nat} (hi : i < l.length) : ∃ a, s.a = some a ∧ w.cell? (a.add i) = some (str l[i]) := h.cells.some_of (txts_get hi)
theorem PairsAt.get {w : World} {s : Sl} {l : List (Nat × List UInt8)} (h : PairsAt w s l) {k : Nat} (hk : k < l.length) : ∃ a, s.a = some a ∧ At w (a.add (k * 2)) (pairC l[k]) := by
 have e := flatMap_at pairC (n := 2) (fun _ => rfl) l k hk
 have hl : k * 2 < (l.flatMap pairC).length := by rw [flatMap_len pairC (n := 2) (fun _ => rfl)]; omega
 obtain ⟨a, ha, _⟩ := h.cells.some_of (List.getElem?_eq_getElem hl)
 have hc := h.cells
 rw [ha] at hc
 exact ⟨a, ha, by rw [← e]; exact At.sub hc _ _⟩
/-- where its cells lie, if it has any -/
def Far (B : Nat → Prop) (s : Sl) : Prop := s.len ≠ 0 → ∀ a, s.a = some a → B a.block
theorem Far.nil : Far B nilSl := fun h => absurd rfl h
/-- the document's disk in a struct's cells -/
structure RX (w : World) (B : Nat → Prop) (ss sp sf : Sl) (D : Dk) : Prop where
 sure : StrsAt w ss (D.bl.map (·.2))
 pend : PairsAt w sp D.pend
 falls : FallsAt w sf D.falls
 f1 : Far B ss
 f2 : Far B sp
 f3 : Far B sf
abbrev rc (ss sp sf : Sl) (c : Int) (d : Bool) : List Value := [ss.v, sp.v, sf.v, .int .i64 c, .bool d]
def RAt (w : World) (B : Nat → Prop) (cs : List Value) (D : Dk) : Prop := ∃ ss sp sf, cs = rc ss sp sf D.changes D.down ∧ RX w B ss sp sf D
theorem RX.ext {w w' : World} {ss sp sf : Sl} {D : Dk} (h : RX w B ss sp sf D) (hx : Ext w w') : RX w' B ss sp sf D := ⟨h.sure.ext hx, h.pend.ext hx, h.falls.ext hx, h.f1, h.f2, h.f3⟩
theorem RAt.ext {w w' : World} {cs : List Value} {D : Dk} (h : RAt w B cs D) (hx : Ext w w') : RAt w' B cs D := by
 obtain ⟨ss, sp, sf, h1, h2⟩ := h
 exact ⟨ss, sp, sf, h1, h2.ext hx⟩
theorem rc_one (ss sp sf : Sl) (c : Int) (d : Bool) : ∀ v ∈ rc ss sp sf c d, v.oneCell' = true := by
 intro v hv
 simp only [rc, List.mem_cons, List.not_mem_nil, or_false] at hv
 rcases hv with rfl | rfl | rfl | rfl | rfl <;> rfl
theorem RAt.len {w : World} {cs : List Value} {D : Dk} (h : RAt w B cs D) : cs.length = 5 := by obtain ⟨_, _, _, rfl, _⟩ := h; rfl
theorem RAt.one {w : World} {cs : List Value} {D : Dk} (h : RAt w B cs D) : ∀ v ∈ cs, v.oneCell' = true := by obtain ⟨_, _, _, rfl, _⟩ := h; exact rc_one _ _ _ _ _

theorem with_ok (w : World) (s : Sl) (l : List (List UInt8)) (h : StrsAt w s l) (i : Nat) (hi : i < l.length) (hl : l.length ≤ 1000000) (t : List UInt8) :
  Calls Try.prog 82 #[s.v, .int .i64 (i : Int), str t] w (Ret r82 fun x w' => StrsAt w' x (l.set i t) ∧ Ext w w' ∧ ∀ a, x.a = some a → w.heap.size ≤ a.block) := by
 apply s82_calls
 intro b1 w2 hb1 hw2
 have hx2 : Ext w w2 := Ext.new hw2
 have hsl := h.len
 refine app_ok (base := w.heap.size) mkz_45 rfl (by decide) (Own.made (e := 9) (size := 1) (c := 0) hb1 hw2 (Nat.le_refl _) rfl (by simp [maxLen])) (news := txts l)
  (by simp [hsl]) (Ext.atO hx2 h.cells) (txts_one l) (by simp only [maxLen]; omega) (by simp only; omega) hx2.size ?_
 intro s' w4 hl' ho' _ hB'
 have hx4 : Ext w w4 := hB' _ _ hx2 (Nat.le_refl _) hx2.size
 have hl4 : s'.len = l.length := by rw [hl']; simp [hsl]
 rw [List.nil_append] at ho'
 refine ix_own ho' (by decide) rfl (by omega) fun g hg hbg hgs => ?_
 rw [Nat.mul_one]
 refine st1_own ho' hg (by omega) fun w7 hw7 ho7 hB7 => ?_
 rw [txts_set] at ho7
 refine ⟨⟨by rw [hl4]; simp, ho7.at⟩, hB7 _ _ hx4 (Nat.le_refl _), fun a ha => ?_⟩
 rw [hg] at ha
 cases ha
 exact hbg
theorem why_ok (w : World) (cs : List Value) (D : Dk) (h : RAt w B cs D) (i : Int) : Calls Try.prog 66 #[aggv cs, .int .i64 i] w (Ret r66 fun x w' => x = D.why i ∧ Ext w w') := by
 obtain ⟨ss, sp, sf, rfl, h⟩ := h
 apply s66_calls
 intro b1 w2 hb1 hw2
 have hx2 : Ext w w2 := Ext.new hw2
 have hB : Blk w2 b1 49 (rc ss sp sf D.changes D.down) := Blk.new hb1 hw2
 refine ⟨D.down, by rw [add_plain]; exact hB.cell rfl, ?_⟩
 unfold Dk.why
 refine ⟨fun hd => ?_, fun hd => ?_⟩
 ·rw [if_pos hd]; exact ⟨rfl, hx2⟩
 rw [if_neg (by rw [hd]; simp)]
 have hsl := h.sure.len
 rw [List.length_map] at hsl
 refine jn_of fun k hk => ?_
 have key : ∀ b : Bool, (b = true ↔ (i < 0 ∨ (D.bl.length : Int) ≤ i)) → k b w2 := by
  intro b hb
  rw [hk]
  refine ⟨fun ht => ?_, fun hf => ?_⟩
  ·rw [if_pos (hb.1 ht)]; exact ⟨rfl, hx2⟩
  ·rw [if_neg fun h => by rw [hb.2 h] at hf; cases hf]; exact ⟨rfl, hx2⟩
 refine ⟨fun h0 => key _ ?_, fun h0 => ?_⟩
 ·have := of_decide_eq_true h0; simp [this]
 ·have h0 := of_decide_eq_false h0
  refine ⟨ss, by rw [add_plain]; exact hB.cell rfl, key _ ?_⟩
  simp only [decide_eq_true_eq]
  omega
theorem now_ok (w : World) (cs : List Value) (D : Dk) (h : RAt w B cs D) (hpl : D.pend.length ≤ 1000000) (i : Nat) (hi : i < D.bl.length) :
  Calls Try.prog 29 #[aggv cs, .int .i64 (i : Int)] w (Ret r29 fun x w' => x = lastOf D.pend i (bAt D.bl i).2 ∧ Ext w w') := by
 obtain ⟨ss, sp, sf, rfl, h⟩ := h
 apply s29_calls
 intro b1 w2 hb1 hw2
 have hx2 : Ext w w2 := Ext.new hw2
 have hB : Blk w2 b1 49 (rc ss sp sf D.changes D.down) := Blk.new hb1 hw2
 have h2 := h.ext hx2
 have hsl := h.sure.len
 rw [List.length_map] at hsl
 have hpl2 := h.pend.len
 obtain ⟨a, ha, hc⟩ := h2.sure.get (i := i) (by rw [List.length_map]; exact hi)
 refine ⟨ss, by rw [add_plain]; exact hB.cell rfl, a, _, ha, by omega, by omega, rfl, ?_⟩
 rw [Int.toNat_natCast, Nat.mul_one]
 refine ⟨_, hc, ?_⟩
 refine ⟨fun st w' => w2 = w' ∧ ∃ k : Nat, k ≤ D.pend.length ∧ st.2 = (k : Int) ∧ st.1 = lastOf (D.pend.take k) i (bAt D.bl i).2, fun st _ => D.pend.length - st.2.toNat, ⟨rfl, 0, Nat.zero_le _, rfl, ?_⟩, ?_⟩
 ·rw [List.take_zero, List.getElem_map, bAt_lt hi]; rfl
 rintro ⟨acc, st⟩ w8 ⟨rfl, k, hk, rfl, rfl⟩
 refine ⟨sp, by rw [add_plain]; exact hB.cell rfl, ?_⟩
 refine ⟨fun hlt => ?_, fun hge => ?_⟩
 ·have hkp : k < D.pend.length := by have := of_decide_eq_true hlt; simp only at this; omega
  obtain ⟨a2, ha2, hat⟩ := h2.pend.get hkp
  refine jn_of fun k1 hk1 => ?_
  have hnext : lastOf (D.pend.take (k + 1)) i (bAt D.bl i).2 = if D.pend[k].1 = i then D.pend[k].2 else lastOf (D.pend.take k) i (bAt D.bl i).2 := by
   rw [List.take_succ_eq_append_getElem hkp, lastOf_append]
  have next : ∀ x, x = lastOf (D.pend.take (k + 1)) i (bAt D.bl i).2 → k1 x w2 := by
   intro x hx
   rw [hk1]
   simp only
   rw [w64_eq (by omega) (by omega)]
   exact ⟨⟨trivial, k + 1, by omega, by omega, hx⟩, by omega⟩
  refine ⟨sp, by rw [add_plain]; exact hB.cell rfl, a2, _, ha2, by simp only; omega, by simp only; omega, rfl, ?_⟩
  simp only [Int.toNat_natCast]
  have hc0 := hat 0 _ rfl
  have hc1 := hat 1 _ rfl
  refine ⟨(D.pend[k].1 : Int), hc0, ?_⟩
  refine ⟨fun he => ?_, fun he => ?_⟩
  ·have he := of_decide_eq_true he
   refine ⟨sp, by rw [add_plain]; exact hB.cell rfl, a2, _, ha2, by omega, by omega, rfl, ?_⟩
   simp only [Int.toNat_natCast]
   refine ⟨D.pend[k].2, hc1, next _ ?_⟩
   rw [hnext, if_pos (by omega)]
  ·have he := of_decide_eq_false he
   refine next _ ?_
   rw [hnext, if_neg (by omega)]
 ·have hge : k = D.pend.length := by have := of_decide_eq_false hge; simp only at this; omega
  subst hge
  rw [List.take_length]
  exact ⟨rfl, hx2⟩
theorem rnew_ok (w : World) (hB : ∀ k, w.heap.size ≤ k → B k) (n : Nat) (hn : n ≤ 4096) : Calls Try.prog 24 #[.int .i64 (n : Int)] w (Ret r24 fun x w' => RAt w' B x (fresh n) ∧ Ext w w') := by
 apply s24_calls
 intro b1 w2 hb1 hw2
 have hx2 : Ext w w2 := Ext.new hw2
 have hB2 : Blk w2 b1 49 (rc nilSl nilSl nilSl 0 false) := Blk.new hb1 hw2
 refine ⟨by decide, by decide, by decide, by decide, fun b4 w4 hb4 hw4 => ?_⟩
 have hx4 : Ext w2 w4 := Ext.new hw4
 have hz : Bytes w4 ⟨some ⟨b4, 0, none⟩, Int.toNat 512, Int.toNat 512⟩ zero512 := by
  refine ⟨List.length_replicate .., ?_⟩
  rw [zeros_u8'] at hw4
  exact At.new hb4 hw4
 refine ⟨_, hz.1, hz.2, ?_⟩
 refine ⟨fun st w' => ∃ k : Nat, k ≤ n ∧ st.2 = (k : Int) ∧ Own w' w4.heap.size 9 1 st.1 (txts (List.replicate k zero512)) ∧ Ext w4 w', fun st _ => n - st.2.toNat, ⟨0, Nat.zero_le _, rfl, Own.nil _ _ _ _, Ext.refl _⟩, ?_⟩
 rintro ⟨s, st⟩ w8 ⟨k, hk, rfl, ho, hx8⟩
 refine ⟨fun hlt => ?_, fun hge => ?_⟩
 ·have hkn : k < n := by have := of_decide_eq_true hlt; simp only at this; omega
  intro b16 w17 hb16 hw17
  have hx17 : Ext w8 w17 := Ext.new hw17
  have hol := ho.length
  simp only [List.length_map, List.length_replicate] at hol
  refine app_ok (base := w4.heap.size) mkz_45 rfl (by decide) (ho.ext hx17) (news := txts [zero512]) rfl (At.new hb16 hw17) (txts_one _) (by simp only [maxLen]; omega) (by simp only; omega) (hx8.trans hx17).size ?_
  intro s' w' hl' ho' _ hB'
  simp only
  rw [w64_eq (by omega) (by omega)]
  refine ⟨⟨k + 1, by omega, by omega, ?_, hB' _ _ (hx8.trans hx17) (Nat.le_refl _) (hx8.trans hx17).size⟩, by omega⟩
  rw [List.replicate_succ', txts, List.map_append]
  exact ho'
 ·have hge : k = n := by have := of_decide_eq_false hge; simp only at this; omega
  subst hge
  have hB8 := (hB2.ext hx4).ext hx8
  refine stA_blk hB8 rfl (by simp) (by intro v hv; exact rc_one s nilSl nilSl 0 false v hv) fun w20 hB20 hf20 => ?_
  have hx20 : Ext w w20 := hf20.ext ((hx2.trans hx4).trans hx8) fun k _ e => by rw [e, hb1]; exact Nat.le_refl _
  have hsp : splice (rc nilSl nilSl nilSl 0 false) 0 [s.v, Value.slice none 0 0, Value.slice none 0 0, Value.int .i64 0, Value.bool false] = rc s nilSl nilSl 0 false := rfl
  have hB20 : Blk w20 b1 49 (rc s nilSl nilSl 0 false) := hB20
  refine ⟨rc s nilSl nilSl 0 false, rfl, hB20.at rfl, ?_⟩
  have hol := ho.length
  simp only [List.length_map, List.length_replicate] at hol
  have hge4 : ∀ b, s.a = some b → w4.heap.size ≤ b.block := by
   intro b hb
   obtain ⟨sa, l, c⟩ := s
   simp only at hb
   subst hb
   rcases ho.2 with ⟨h1, h2⟩ | ⟨g, cap, cur, h1, h3, _⟩
   ·simp at h1
   ·simp only [Value.slice.injEq, Option.some.injEq] at h1
    obtain ⟨rfl, _, _⟩ := h1
    exact h3
  have hb1l : b1 < w4.heap.size := Nat.lt_of_lt_of_le (Blk.lt hB2) hx4.size
  refine ⟨⟨s, nilSl, nilSl, rfl, ⟨⟨by simp [fresh]; omega, ?_⟩, ⟨rfl, rfl⟩, ⟨rfl, Nat.le_refl _, rfl, fun _ => rfl, by simp [fresh]⟩, fun _ b hb => hB _ (Nat.le_trans (hx2.trans hx4).size (hge4 b hb)), Far.nil, Far.nil⟩⟩, hx20⟩
  have hat := (hf20.own (fun b hb e => by
   have hge : w4.heap.size ≤ b.block := by
    obtain ⟨sa, l, c⟩ := s
    simp only at hb
    subst hb
    rcases ho.2 with ⟨h1, h2⟩ | ⟨g, cap, cur, h1, h3, _⟩
    ·simp at h1
    ·simp only [Value.slice.injEq, Option.some.injEq] at h1
     obtain ⟨rfl, _, _⟩ := h1
     exact h3
   have e : b.block = b1 := e
   omega) ho).at
  have : (fresh k).bl.map (·.2) = List.replicate k zero512 := by simp [fresh]
  rw [this]
  exact hat
end Go.Proofs.Ytagkcbbbdlmcjaa
end
section
/- The document's disk: a loss of power, a change, a flush, a write. -/
namespace Go.Proofs.Ytagkcbbbdlmcjaa
open Go.Lift Go.Lift.Disk Go.RowKit
variable {B : Nat → Prop}
theorem sures_set (l : List Bl) (i : Nat) (b : List UInt8) : (setSure l i b).map (·.2) = (l.map (·.2)).set i b := by
 unfold setSure
 rw [List.map_set]
theorem bAt_sure {l : List Bl} {i : Nat} (hi : i < l.length) : (l.map (·.2))[i]'(by simpa using hi) = (bAt l i).2 := by
 rw [List.getElem_map, bAt_lt hi]
theorem set_same {l : List (List UInt8)} {i : Nat} (hi : i < l.length) : l.set i l[i] = l := List.set_getElem_self hi
/-- the step of a loss of power, over what surely is -/
def cut3 (f : Fall) (last : Int) (k : Nat) : Nat := if k < 64 ∧ f.2.1.toNat.testBit k = true then 512 else if (k : Int) = last then torn f else 0
theorem step_sure {f : Fall} {last : Int} {l : List Bl} {k : Nat} {p : Nat × List UInt8} (hi : p.1 < l.length) (hp : p.2.length = 512) (hb : (bAt l p.1).2.length = 512) :
  (crashStep f last l k p).map (·.2) = (l.map (·.2)).set p.1 (p.2.take (cut3 f last k) ++ (bAt l p.1).2.drop (cut3 f last k)) := by
 unfold crashStep cut3
 split
 ·rw [sures_set, List.take_of_length_le (by omega), List.drop_of_length_le (by omega), List.append_nil]
 ·split
  ·rw [sures_set]
  ·have hs : p.1 < (l.map (·.2)).length := by simpa using hi
   rw [List.take_zero, List.drop_zero, List.nil_append, ← bAt_sure hi, List.set_getElem_self hs]
theorem halve_bit {x : Nat} (k : Nat) (hx : x < 18446744073709551616) : (Int.tmod ((x / 2 ^ k : Nat) : Int) 2 = 1) ↔ (k < 64 ∧ x.testBit k = true) := by
 have hnn : (0 : Int) ≤ ((x / 2 ^ k : Nat) : Int) := Int.natCast_nonneg _
 rw [Int.tmod_eq_emod_of_nonneg hnn, Nat.testBit_eq_decide_div_mod_eq, decide_eq_true_iff]
 constructor
 ·intro h
  refine ⟨?_, by generalize x / 2 ^ k = m at h ⊢; omega⟩
  rcases Nat.lt_or_ge k 64 with h' | h'
  ·exact h'
  ·have : x / 2 ^ k = 0 := Nat.div_eq_of_lt (Nat.lt_of_lt_of_le hx (Nat.pow_le_pow_right (by decide : 0 < 2) h'))
   rw [this] at h
   cases h
 ·rintro ⟨_, h⟩
  generalize x / 2 ^ k = m at h ⊢
  omega
theorem halve (x k : Nat) : IntKind.u64.wrap (Int.tdiv ((x / 2 ^ k : Nat) : Int) 2) = (((x % 18446744073709551616) / 2 ^ (k + 1) : Nat) : Int) ∨ 18446744073709551616 ≤ x := by
 rcases Nat.lt_or_ge x 18446744073709551616 with h | h
 ·left
  have h1 : x / 2 ^ k ≤ x := Nat.div_le_self _ _
  have e : x / 2 ^ (k + 1) = x / 2 ^ k / 2 := by rw [Nat.pow_succ, Nat.div_div_eq_div_mul]
  rw [Nat.mod_eq_of_lt h, e]
  generalize x / 2 ^ k = m at h1 ⊢
  rw [Int.tdiv_eq_ediv_of_nonneg (by omega), wu64_eq (by omega) (by omega)]
  omega
 ·exact .inr h
theorem rcrash_ok (w : World) (cs : List Value) (D : Dk) (h : RAt w B cs D) (hwf : D.Wf) (hBn : ∀ k, w.heap.size ≤ k → B k) (f : Fall) (hf : 0 ≤ f.2.1 ∧ f.2.1 < 18446744073709551616) :
  Calls Try.prog 58 #[aggv cs, aggv (fallOf f)] w (Ret r58 fun x w' => RAt w' B x (D.crash f) ∧ Ext w w') := by
 obtain ⟨ss, sp, sf, rfl, h⟩ := h
 apply s58_calls
 intro b1 w2 hb1 hw2
 have hx2 : Ext w w2 := Ext.new hw2
 have hB2 : Blk w2 b1 49 (rc ss sp sf D.changes D.down) := Blk.new hb1 hw2
 intro b3 w4 hb3 hw4
 have hx4 : Ext w2 w4 := Ext.new hw4
 have hF4 : Blk w4 b3 27 (fallOf f) := Blk.new hb3 hw4
 intro b5 w6 hb5 hw6
 have hx6 : Ext w4 w6 := Ext.new hw6
 have hR6 : Blk w6 b5 49 (rc nilSl nilSl nilSl 0 false) := Blk.new hb5 hw6
 have hB6 := (hB2.ext hx4).ext hx6
 have hF6 := hF4.ext hx6
 have hxw6 := (hx2.trans hx4).trans hx6
 have h13 : b1 < b3 := by rw [hb3]; exact hB2.lt
 have h35 : b3 < b5 := by rw [hb5]; exact hF4.lt
 have hwb1 : w.heap.size ≤ b1 := by rw [hb1]; exact Nat.le_refl _
 have h6 := h.ext hxw6
 refine ⟨D.down, by rw [add_plain]; exact hB6.cell rfl, ?_⟩
 -- the answer is put into its place
 have fin : ∀ (w' : World) (ss' sp' sf' : Sl) (c : Int) (d : Bool), Blk w' b5 49 (rc nilSl nilSl nilSl 0 false) → Ext w w' → ∀ K : World → Prop, (∀ w'', Blk w'' b5 49 (rc ss' sp' sf' c d) → Ext w w'' → Fr (· = b5) w' w'' → K w'') → stA 5 ⟨b5, 0, none⟩ (rc ss' sp' sf' c d) w' K := by
  intro w' ss' sp' sf' c d hB hx K hK
  refine stA_blk hB rfl (by simp) (rc_one _ _ _ _ _) fun w'' hB'' hf'' => hK w'' hB'' (hf''.ext hx fun k _ e => by rw [e]; omega) hf''
 refine ⟨fun hd => ?_, fun hd => ?_⟩
 ·refine ⟨rc ss sp sf D.changes D.down, rfl, hB6.at rfl, ?_⟩
  refine fin w6 _ _ _ _ _ hR6 hxw6 _ fun w10 hB10 hx10 _ => ?_
  refine ⟨rc ss sp sf D.changes D.down, rfl, hB10.at rfl, ?_⟩
  have : D.crash f = D := by unfold Dk.crash; rw [if_pos hd]
  rw [this]
  exact ⟨⟨ss, sp, sf, rfl, h.ext hx10⟩, hx10⟩
 obtain ⟨kp, hkp⟩ := Int.eq_ofNat_of_zero_le hf.1
 have hkp2 : kp < 18446744073709551616 := by omega
 refine ⟨f.2.1, by rw [add_plain]; exact hF6.cell rfl, ?_⟩
 have hss : ∀ a, ss.a = some a → a.block ≠ b1 ∧ a.block ≠ b5 := by
  intro a ha
  obtain ⟨a', ha', hc⟩ := h.sure.get (i := 0) (by rw [List.length_map]; exact hwf.pos)
  rw [ha] at ha'
  cases ha'
  have := World.block_lt_of_cell? w _ hc
  rw [add_block] at this
  omega
 have hpl := h.pend.len
 have hple := hwf.plen
 refine ⟨fun st w' => ∃ (k : Nat) (l : List Bl) (s' : Sl), k ≤ D.pend.length ∧ st.2 = (k : Int) ∧ st.1 = ((kp / 2 ^ k : Nat) : Int) ∧ Blk w' b1 49 (rc s' sp sf D.changes D.down) ∧ Blk w' b3 27 (fallOf f) ∧ Blk w' b5 49 (rc nilSl nilSl nilSl 0 false) ∧
   StrsAt w' s' (l.map (·.2)) ∧ (∀ a, s'.a = some a → a.block ≠ b1 ∧ a.block ≠ b5) ∧ Far B s' ∧ Ext w w' ∧ l.length = D.bl.length ∧ WfB l ∧ crashL f ((D.pend.length : Int) - 1) k (D.pend.drop k) l = crashL f ((D.pend.length : Int) - 1) 0 D.pend D.bl,
  fun st _ => D.pend.length - st.2.toNat, ⟨0, D.bl, ss, Nat.zero_le _, rfl, by rw [hkp]; simp, hB6, hF6, hR6, h6.sure, hss, h.f1, hxw6, rfl, hwf.bl, rfl⟩, ?_⟩
 rintro ⟨kk, st⟩ w14 ⟨k, l, s', hk, rfl, rfl, hB, hF, hR, hS, hfar, hFs, hx, hll, hwl, hcr⟩
 have hpe := h.pend.ext hx
 refine ⟨sp, by rw [add_plain]; exact hB.cell rfl, ?_⟩
 refine ⟨fun hlt => ?_, fun hge => ?_⟩
 ·have hkl : k < D.pend.length := by have := of_decide_eq_true hlt; simp only at this; omega
  obtain ⟨hpi, hp512⟩ := hwf.pend _ (List.getElem_mem hkl)
  have hpi' : D.pend[k].1 < l.length := by rw [hll]; exact hpi
  have hb512 := (bAt_len hwl hpi').2
  obtain ⟨a, ha, hat⟩ := hpe.get hkl
  refine ⟨sp, by rw [add_plain]; exact hB.cell rfl, a, _, ha, by simp only; omega, by simp only; omega, rfl, ?_⟩
  simp only [Int.toNat_natCast]
  refine ⟨pairC D.pend[k], rfl, hat, rfl, ?_, fun b27 w28 hb27 hw28 => ?_⟩
  ·intro v hv
   simp only [pairC, List.mem_cons, List.not_mem_nil, or_false] at hv
   rcases hv with rfl | rfl <;> rfl
  have hx28 : Ext w14 w28 := Ext.new hw28
  have hP : Blk w28 b27 114 (pairC D.pend[k]) := Blk.new hb27 hw28
  have hB28 := hB.ext hx28
  refine jn_of fun k1 hk1 => ?_
  have next : ∀ n : Int, n = (cut3 f ((D.pend.length : Int) - 1) k : Int) → k1 n w28 := by
   intro n hn
   subst hn
   have hc512 : cut3 f ((D.pend.length : Int) - 1) k ≤ 512 := by
    unfold cut3
    have := (torn_eq f).2
    split
    ·omega
    ·split <;> omega
   generalize hcu : cut3 f ((D.pend.length : Int) - 1) k = n at hc512
   rw [hk1]
   intro w43 hw43
   have hx43 : Ext w28 w43 := by subst hw43; exact Ext.drew _
   have hS28 := hS.ext hx28
   have hsl := hS.len
   rw [List.length_map] at hsl
   obtain ⟨a2, ha2, hc2⟩ := hS28.get (i := D.pend[k].1) (by rw [List.length_map]; exact hpi')
   rw [bAt_sure hpi'] at hc2
   refine ⟨s', by rw [add_plain]; exact hB28.cell rfl, (D.pend[k].1 : Int), by rw [add_plain]; exact hP.cell rfl, D.pend[k].2, by rw [add_plain]; exact hP.cell rfl, ⟨by omega, by omega, by rw [hp512]; omega⟩, ?_⟩
   refine ⟨s', by rw [add_plain]; exact hB28.cell rfl, (D.pend[k].1 : Int), by rw [add_plain]; exact hP.cell rfl, a2, _, ha2, by omega, by omega, rfl, ?_⟩
   simp only [Int.toNat_natCast, Nat.mul_one]
   refine ⟨(bAt l D.pend[k].1).2, hc2, ⟨by omega, by rw [hb512]; omega, by omega⟩, ?_, ?_⟩
   ·simp only [Int.toNat_zero, List.drop_zero, List.length_take, List.length_drop, hp512, hb512]; omega
   have earg : ((D.pend[k].2.take n).drop (Int.toNat 0) ++ ((bAt l D.pend[k].1).2.take (bAt l D.pend[k].1).2.length).drop n) = D.pend[k].2.take n ++ (bAt l D.pend[k].1).2.drop n := by
    rw [List.take_length]; rfl
   rw [earg]
   have hfew := hwf.few
   refine cR_of (with_ok w43 s' _ (hS28.ext hx43) D.pend[k].1 (by rw [List.length_map]; exact hpi') (by rw [List.length_map]; omega) _) ?_
   rintro x53 w54 ⟨hS54, hx54, hg54⟩
   have hxx := hx43.trans hx54
   rw [add_plain]
   refine st1_blk (hB28.ext hxx) (by simp) fun w55 hB55 hf55 => ?_
   have hx55 : Ext w w55 := hf55.ext ((hx.trans hx28).trans hxx) fun k _ e => by rw [e]; exact hwb1
   have hhalf : IntKind.u64.wrap (Int.tdiv ((kp / 2 ^ k : Nat) : Int) 2) = ((kp / 2 ^ (k + 1) : Nat) : Int) := by
    rcases halve kp k with h | h
    ·rw [Nat.mod_eq_of_lt hkp2] at h; exact h
    ·omega
   rw [w64_eq (by omega) (by omega), hhalf]
   have hst := step_sure (f := f) (last := (D.pend.length : Int) - 1) (k := k) hpi' hp512 hb512
   rw [hcu] at hst
   have hb5w : b5 < w43.heap.size := Nat.lt_of_lt_of_le (hR.ext hx28).lt hx43.size
   refine ⟨⟨k + 1, crashStep f ((D.pend.length : Int) - 1) l k D.pend[k], x53, by omega, by omega, rfl, hB55, (((hF.ext hx28).ext hxx).fr hf55 (by omega)), (((hR.ext hx28).ext hxx).fr hf55 (by omega)), ?_, (fun a ha => by have := hg54 a ha; omega), (fun _ a ha => hBn _ (Nat.le_trans (Nat.le_trans (hx.trans hx28).size hx43.size) (hg54 a ha))), hx55, by rw [crashStep_len, hll], ?_, ?_⟩, by omega⟩
   ·rw [hst]
    refine ⟨hS54.len, hf55.atO (fun a ha e => ?_) hS54.cells⟩
    have := hg54 a ha
    have e : a.block = b1 := e
    omega
   ·unfold crashStep
    split
    ·exact setSure_wf hwl hpi' hp512
    ·split
     ·exact setSure_wf hwl hpi' (by have := (torn_eq f).2; rw [List.length_append, List.length_take, List.length_drop, hp512, hb512]; omega)
     ·exact hwl
   ·rw [← hcr, List.drop_eq_getElem_cons hkl, crashL]
  have hbit := halve_bit k hkp2
  have ef : f.2.1.toNat = kp := by rw [hkp]; rfl
  refine ⟨fun ho => ?_, fun ho => ?_⟩
  ·have ho := hbit.1 (of_decide_eq_true ho)
   refine next 512 ?_
   unfold cut3
   rw [if_pos (by rw [ef]; exact ho)]
   rfl
  ·have ho := of_decide_eq_false ho
   have hno : ¬ (k < 64 ∧ f.2.1.toNat.testBit k = true) := by rw [ef]; exact fun h => ho (hbit.2 h)
   refine ⟨sp, by rw [add_plain]; exact hB28.cell rfl, ?_⟩
   have el : IntKind.i64.wrap ((sp.len : Int) - 1) = (D.pend.length : Int) - 1 := by rw [hpl, w64_eq (by omega) (by omega)]
   show ifB _ _ _
   rw [el]
   refine ⟨fun hla => ?_, fun hla => ?_⟩
   ·have hla := of_decide_eq_true hla
    refine ⟨f.2.2, by rw [add_plain]; exact (hF.ext hx28).cell rfl, next _ ?_⟩
    unfold cut3
    rw [if_neg hno, if_pos hla]
    exact (torn_eq f).1
   ·have hla := of_decide_eq_false hla
    refine next 0 ?_
    unfold cut3
    rw [if_neg hno, if_neg hla]
    rfl
 ·have hge : k = D.pend.length := by have := of_decide_eq_false hge; simp only at this; omega
  subst hge
  rw [List.drop_length, crashL] at hcr
  refine ⟨s', by rw [add_plain]; exact hB.cell rfl, sf, by rw [add_plain]; exact hB.cell rfl, (D.changes : Int), by rw [add_plain]; exact hB.cell rfl, ?_⟩
  refine fin w14 s' nilSl sf D.changes true hR hx _ fun w61 hB61 hx61 hf61 => ?_
  refine ⟨rc s' nilSl sf D.changes true, rfl, hB61.at rfl, ?_⟩
  have ec := crash_up hd f
  rw [← hcr] at ec
  refine ⟨⟨s', nilSl, sf, by rw [ec], ?_⟩, hx61⟩
  rw [ec]
  refine ⟨?_, ⟨rfl, rfl⟩, h.falls.ext hx61, hFs, Far.nil, h.f3⟩
  have e2 : ((l.map fun p : Bl => (p.2, p.2)).map (·.2)) = l.map (·.2) := by rw [List.map_map]; rfl
  show StrsAt w61 s' ((l.map fun p : Bl => (p.2, p.2)).map (·.2))
  rw [e2]
  exact ⟨hS.len, hf61.atO (fun a ha e => (hfar a ha).2 e) hS.cells⟩
end Go.Proofs.Ytagkcbbbdlmcjaa
end
section
/- The document's disk: a change, a flush, a write. -/
namespace Go.Proofs.Ytagkcbbbdlmcjaa
open Go.Lift Go.Lift.Disk Go.RowKit
variable {B : Nat → Prop}
theorem blk_mem {w : World} {g : Nat} {e : TypeId} {cs : List Value} {a : Addr} {v : Value} (hB : Blk w g e cs) (hc : w.cell? a = some v) (hb : a.block = g) : v ∈ cs := by
 have hB' : w.heap[g]? = some (.cells cs.toArray e (0, 0)) := hB
 unfold World.cell? at hc
 rw [hb, hB'] at hc
 simp only at hc
 split at hc
 ·cases hc
 ·exact List.mem_of_getElem? (by simpa using hc)
section
variable {w w' : World} {g : Nat} {e : TypeId} {s1 s2 s3 : Sl} {c : Int} {d : Bool}
theorem StrsAt.fr {s : Sl} {l : List (List UInt8)} (h : StrsAt w s l) (hB : Blk w g e (rc s1 s2 s3 c d)) (hf : Fr (· = g) w w') : StrsAt w' s l := by
 refine ⟨h.len, ?_⟩
 by_cases hl : 0 < l.length
 ·refine hf.atO (fun a ha e => ?_) h.cells
  obtain ⟨a', ha', hc⟩ := h.get hl
  rw [ha] at ha'
  cases ha'
  have := blk_mem hB hc (by rw [add_block]; exact e)
  simp [rc] at this
 ·have : l = [] := List.eq_nil_of_length_eq_zero (by omega)
  subst this
  have h0 := h.cells
  cases hs : s.a with
  | none => rfl
  | some a => exact fun j v hj => by simp at hj
theorem PairsAt.fr {s : Sl} {l : List (Nat × List UInt8)} (h : PairsAt w s l) (hB : Blk w g e (rc s1 s2 s3 c d)) (hf : Fr (· = g) w w') : PairsAt w' s l := by
 refine ⟨h.len, ?_⟩
 by_cases hl : 0 < l.length
 ·refine hf.atO (fun a ha e => ?_) h.cells
  obtain ⟨a', ha', hc⟩ := h.get hl
  rw [ha] at ha'
  cases ha'
  have h1 := hc 1 _ rfl
  have := blk_mem hB h1 (by rw [add_block, add_block]; exact e)
  simp [rc] at this
 ·have : l = [] := List.eq_nil_of_length_eq_zero (by omega)
  subst this
  cases hs : s.a with
  | none => rfl
  | some a => exact fun j v hj => by simp at hj
theorem FallsAt.fr {s : Sl} {l : List Fall} (h : FallsAt w s l) (hB : Blk w g e (rc s1 s2 s3 c d)) (hf : Fr (· = g) w w') : FallsAt w' s l := by
 refine ⟨h.len, h.cap, ?_, h.nil, h.keep⟩
 by_cases hl : 0 < l.length
 ·refine hf.atO (fun a ha e => ?_) h.cells
  have hc := h.cells
  rw [ha] at hc
  have h0 := fallC_at (l := l) (k := 0) hl
  have hg : (fallC l)[1]? = some (.int .u64 l[0].2.1) := by
   have := congrArg (fun x : List Value => x[1]?) h0
   simp only [Nat.zero_mul, List.drop_zero] at this
   rw [List.getElem?_take_of_lt (by decide)] at this
   exact this
  have := blk_mem hB (hc 1 _ hg) (by rw [add_block]; exact e)
  simp [rc] at this
 ·have : l = [] := List.eq_nil_of_length_eq_zero (by omega)
  subst this
  cases hs : s.a with
  | none => rfl
  | some a => exact fun j v hj => by simp [fallC] at hj
theorem RX.fr {ss sp sf : Sl} {D : Dk} (h : RX w B ss sp sf D) (hB : Blk w g e (rc s1 s2 s3 c d)) (hf : Fr (· = g) w w') : RX w' B ss sp sf D := ⟨h.sure.fr hB hf, h.pend.fr hB hf, h.falls.fr hB hf, h.f1, h.f2, h.f3⟩
theorem RAt.fr {cs : List Value} {D : Dk} (h : RAt w B cs D) (hB : Blk w g e (rc s1 s2 s3 c d)) (hf : Fr (· = g) w w') : RAt w' B cs D := by
 obtain ⟨ss, sp, sf, h1, h2⟩ := h
 exact ⟨ss, sp, sf, h1, h2.fr hB hf⟩
/-- an answer is put into its place -/
theorem put_ans {cs : List Value} {D : Dk} {K : World → Prop} (h : RAt w B cs D) (hB : Blk w g e (rc s1 s2 s3 c d)) (hK : ∀ w'', RAt w'' B cs D → Blk w'' g e cs → Fr (· = g) w w'' → K w'') : stA 5 ⟨g, 0, none⟩ cs w K := by
 have hl := h.len
 refine stA_blk hB hl (by simp) h.one fun w'' hB'' hf'' => hK w'' (h.fr hB hf'') ?_ hf''
 have : splice (rc s1 s2 s3 c d) 0 cs = cs := by
  unfold splice
  rw [List.take_zero, List.nil_append, List.drop_of_length_le (by rw [hl]; simp), List.append_nil]
 rw [this] at hB''
 exact hB''
end
theorem tick_wf {D : Dk} (h : D.Wf) (hc : D.changes < 1000000000) : (Dk.tick D).Wf := ⟨h.pos, h.few, h.bl, h.pend, h.plen, h.keep, h.flen, by show D.changes + 1 ≤ _; omega⟩
theorem rstrike_ok (w : World) (cs : List Value) (D : Dk) (h : RAt w B cs D) (hwf : D.Wf) (hch : D.changes < 1000000000) (hBn : ∀ k, w.heap.size ≤ k → B k) :
  Calls Try.prog 68 #[aggv cs] w (Ret r68 fun x w' => x.2 = D.strike.2 ∧ RAt w' B x.1 D.strike.1 ∧ Ext w w') := by
 obtain ⟨ss, sp, sf, rfl, h⟩ := h
 apply s68_calls
 intro b1 w2 hb1 hw2
 have hx2 : Ext w w2 := Ext.new hw2
 have hB2 : Blk w2 b1 49 (rc ss sp sf D.changes D.down) := Blk.new hb1 hw2
 intro b3 w4 hb3 hw4
 have hx4 : Ext w2 w4 := Ext.new hw4
 have hR4 : Blk w4 b3 49 (rc nilSl nilSl nilSl 0 false) := Blk.new hb3 hw4
 have hB4 := hB2.ext hx4
 have h13 : b1 < b3 := by rw [hb3]; exact hB2.lt
 have hwb1 : w.heap.size ≤ b1 := by rw [hb1]; exact Nat.le_refl _
 refine ⟨(D.changes : Int), by rw [add_plain]; exact hB4.cell rfl, (D.changes : Int), by rw [add_plain]; exact hB4.cell rfl, ?_⟩
 show st1 _ _ _ _
 rw [add_plain, w64_eq (by omega) (by omega)]
 refine st1_blk hB4 (by simp) fun w7 hB7 hf7 => ?_
 have hx7 : Ext w w7 := hf7.ext (hx2.trans hx4) fun k _ e => by rw [e]; exact hwb1
 have hB7 : Blk w7 b1 49 (rc ss sp sf ((D.changes : Int) + 1) D.down) := hB7
 have hR7 := hR4.fr hf7 (by omega)
 have hc1 : (((Dk.tick D).changes : Nat) : Int) = (D.changes : Int) + 1 := by unfold Dk.tick; simp only; omega
 have hT : ∀ {w'}, Ext w w' → RAt w' B (rc ss sp sf ((D.changes : Int) + 1) D.down) (Dk.tick D) := fun hx => ⟨ss, sp, sf, by rw [hc1]; rfl, ⟨h.sure.ext hx, h.pend.ext hx, h.falls.ext hx, h.f1, h.f2, h.f3⟩⟩
 have hfl := h.falls.len
 have hfln := hwf.flen
 have hfa := h.falls.ext hx7
 refine ⟨fun st w' => w7 = w' ∧ ∃ k : Nat, k ≤ D.falls.length ∧ st = (k : Int) ∧ (D.falls.take k).find? (fun f => f.1 == (D.changes : Int)) = none, fun st _ => D.falls.length - st.toNat, ⟨rfl, 0, Nat.zero_le _, rfl, by simp⟩, ?_⟩
 rintro st w9 ⟨rfl, k, hk, rfl, hno⟩
 refine ⟨sf, by rw [add_plain]; exact hB7.cell rfl, ?_⟩
 refine ⟨fun hlt => ?_, fun hge => ?_⟩
 ·have hkl : k < D.falls.length := by have := of_decide_eq_true hlt; omega
  have hsplit : D.falls = D.falls.take k ++ D.falls[k] :: D.falls.drop (k + 1) := by rw [← List.drop_eq_getElem_cons hkl, List.take_append_drop]
  have hl3 : k * 3 < (fallC D.falls).length := by rw [fallC_len]; omega
  obtain ⟨a, ha, _⟩ := hfa.cells.some_of (List.getElem?_eq_getElem hl3)
  have hat : At w7 (a.add (k * 3)) (fallOf D.falls[k]) := by
   have hc := hfa.cells
   rw [ha] at hc
   rw [← fallC_at hkl]
   exact At.sub hc _ _
  refine ⟨sf, by rw [add_plain]; exact hB7.cell rfl, a, _, ha, by omega, by omega, rfl, ?_⟩
  simp only [Int.toNat_natCast]
  have hc0 := hat 0 _ rfl
  refine ⟨D.falls[k].1, hc0, ?_⟩
  refine ⟨fun he => ?_, fun hne => ?_⟩
  ·have he := of_decide_eq_true he
   have hfind : D.falls.find? (fun f => f.1 == (D.changes : Int)) = some D.falls[k] := by
    have e2 := congrArg (fun l : List Fall => l.find? (fun f => f.1 == (D.changes : Int))) hsplit
    refine e2.trans ?_
    show List.find? _ (_ ++ _) = _
    rw [List.find?_append, hno, List.find?_cons_of_pos (by simp [he])]
    rfl
   intro w22 hw22
   have hx22 : Ext w7 w22 := by subst hw22; exact Ext.drew _
   refine ⟨rc ss sp sf ((D.changes : Int) + 1) D.down, rfl, hB7.at rfl, sf, by rw [add_plain]; exact hB7.cell rfl, a, _, ha, by omega, by omega, rfl, ?_⟩
   simp only [Int.toNat_natCast]
   refine ⟨fallOf D.falls[k], rfl, hat, ?_⟩
   refine cR_of (rcrash_ok w22 _ _ (hT (hx7.trans hx22)) (tick_wf hwf hch) (fun k hk => hBn k (Nat.le_trans (hx7.trans hx22).size hk)) D.falls[k] (hwf.keep _ (List.getElem_mem hkl))) ?_
   rintro x29 w30 ⟨hA30, hx30⟩
   have hxx := hx22.trans hx30
   refine put_ans hA30 (hR7.ext hxx) fun w31 hA31 hB31 hf31 => ?_
   refine ⟨x29, hA31.len, hB31.at (by rw [List.drop_zero, List.take_length]), ?_⟩
   rw [strike_some hfind]
   exact ⟨rfl, hA31, hf31.ext (hx7.trans hxx) fun k _ e => by rw [e]; omega⟩
  ·have hne := of_decide_eq_false hne
   rw [w64_eq (by omega) (by omega)]
   refine ⟨⟨trivial, k + 1, by omega, by omega, ?_⟩, by omega⟩
   rw [List.take_succ_eq_append_getElem hkl, List.find?_append, hno]
   simp [hne]
 ·have hge : k = D.falls.length := by have := of_decide_eq_false hge; omega
  subst hge
  rw [List.take_length] at hno
  refine ⟨rc ss sp sf ((D.changes : Int) + 1) D.down, rfl, hB7.at rfl, ?_⟩
  refine put_ans (hT hx7) hR7 fun w31 hA31 hB31 hf31 => ?_
  refine ⟨rc ss sp sf ((D.changes : Int) + 1) D.down, rfl, hB31.at rfl, ?_⟩
  rw [strike_none hno]
  exact ⟨rfl, hA31, hf31.ext hx7 fun k _ e => by rw [e]; omega⟩
end Go.Proofs.Ytagkcbbbdlmcjaa
end
section
/- The document's disk: a flush, a write. -/
namespace Go.Proofs.Ytagkcbbbdlmcjaa
open Go.Lift Go.Lift.Disk Go.RowKit
variable {B : Nat → Prop}
theorem crashL_wf (f : Fall) (last : Int) : ∀ (ps : List (Nat × List UInt8)) (k : Nat) (l : List Bl), WfB l → (∀ p ∈ ps, p.1 < l.length ∧ p.2.length = 512) → WfB (crashL f last k ps l)
 | [], _, _, h, _ => h
 | p :: ps, k, l, h, hp => by
  obtain ⟨h1, h2⟩ := hp p (by simp)
  rw [crashL]
  refine crashL_wf f last ps (k + 1) _ ?_ fun q hq => by rw [crashStep_len]; exact hp q (by simp [hq])
  have hb := (bAt_len h h1).2
  unfold crashStep
  split
  ·exact setSure_wf h h1 h2
  ·split
   ·exact setSure_wf h h1 (by have := (torn_eq f).2; rw [List.length_append, List.length_take, List.length_drop, h2, hb]; omega)
   ·exact h
theorem crash_wf {D : Dk} (h : D.Wf) (f : Fall) : (D.crash f).Wf := by
 unfold Dk.crash
 split
 ·exact h
 ·have hw := crashL_wf f ((D.pend.length : Int) - 1) D.pend 0 D.bl h.bl h.pend
  have hl := crashL_len' f ((D.pend.length : Int) - 1) D.pend 0 D.bl
  refine ⟨by simp only [List.length_map, hl]; exact h.pos, by simp only [List.length_map, hl]; exact h.few, ?_, by simp, by simp, h.keep, h.flen, h.ch⟩
  intro p hp
  obtain ⟨q, hq, rfl⟩ := List.mem_map.1 hp
  exact ⟨(hw q hq).2, (hw q hq).2⟩
theorem strike_wf {D : Dk} (h : D.Wf) (hc : D.changes < 1000000000) : D.strike.1.Wf := by
 cases hf : D.falls.find? (fun f => f.1 == (D.changes : Int)) with
 | none => rw [strike_none hf]; exact tick_wf h hc
 | some f => rw [strike_some hf]; exact crash_wf (tick_wf h hc) f
theorem put_wf {D : Dk} (h : D.Wf) (hp : D.pend.length < 1000000) {i : Nat} (hi : i < D.bl.length) {b : List UInt8} (hb : b.length = 512) : (D.put i b).Wf := by
 refine ⟨by show 0 < (setNow _ _ _).length; rw [setNow_len]; exact h.pos, by show (setNow _ _ _).length ≤ _; rw [setNow_len]; exact h.few, setNow_wf h.bl hi hb, ?_, ?_, h.keep, h.flen, h.ch⟩
 ·intro p hp
  show p.1 < (setNow _ _ _).length ∧ _
  rw [setNow_len]
  rcases List.mem_append.1 (show p ∈ D.pend ++ [(i, b)] from hp) with hp | hp
  ·exact h.pend p hp
  ·rw [List.mem_singleton.1 hp]; exact ⟨hi, hb⟩
 ·show (D.pend ++ [(i, b)]).length ≤ _
  rw [List.length_append]
  simp only [List.length_cons, List.length_nil]
  omega
theorem sures_now {l : List Bl} {i : Nat} (hi : i < l.length) (b : List UInt8) : (setNow l i b).map (·.2) = l.map (·.2) := by
 unfold setNow
 rw [List.map_set]
 have hs : i < (l.map (·.2)).length := by simpa using hi
 have := bAt_sure hi
 show (l.map (·.2)).set i (bAt l i).2 = _
 rw [← this, List.set_getElem_self hs]
theorem rflush_ok (w : World) (cs : List Value) (D : Dk) (h : RAt w B cs D) (hwf : D.Wf) (hch : D.changes < 1000000000) (hBn : ∀ k, w.heap.size ≤ k → B k) :
  Calls Try.prog 65 #[aggv cs] w (Ret r65 fun x w' => x.2 = D.flush.2 ∧ RAt w' B x.1 D.flush.1 ∧ Ext w w') := by
 obtain ⟨ss, sp, sf, rfl, h⟩ := h
 apply s65_calls
 intro b1 w2 hb1 hw2
 have hx2 : Ext w w2 := Ext.new hw2
 have hB2 : Blk w2 b1 49 (rc ss sp sf D.changes D.down) := Blk.new hb1 hw2
 intro b3 w4 hb3 hw4
 have hx4 : Ext w2 w4 := Ext.new hw4
 have hR4 : Blk w4 b3 49 (rc nilSl nilSl nilSl 0 false) := Blk.new hb3 hw4
 have hB4 := hB2.ext hx4
 have hxw4 := hx2.trans hx4
 have hwb3 : w.heap.size ≤ b3 := by rw [hb3]; exact hx2.size
 have hA4 : RAt w4 B (rc ss sp sf D.changes D.down) D := ⟨ss, sp, sf, rfl, h.ext hxw4⟩
 refine ⟨D.down, by rw [add_plain]; exact hB4.cell rfl, ?_⟩
 unfold Dk.flush
 refine ⟨fun hd => ?_, fun hd => ?_⟩
 ·rw [if_pos hd]
  refine ⟨rc ss sp sf D.changes D.down, rfl, hB4.at rfl, ?_⟩
  refine put_ans hA4 hR4 fun w8 hA8 hB8 hf8 => ?_
  exact ⟨rc ss sp sf D.changes D.down, rfl, hB8.at rfl, rfl, hA8, hf8.ext hxw4 fun k _ e => by rw [e]; exact hwb3⟩
 rw [if_neg (by rw [hd]; simp)]
 refine ⟨rc ss sp sf D.changes D.down, rfl, hB4.at rfl, ?_⟩
 refine cR_of (rstrike_ok w4 _ D hA4 hwf hch (fun k hk => hBn k (Nat.le_trans hxw4.size hk))) ?_
 rintro ⟨cs2, e2⟩ w12 ⟨he2, hA12, hx12⟩
 simp only at he2 hA12
 subst he2
 have hEw := strike_wf hwf hch
 have hR12 := hR4.ext hx12
 refine ⟨hA12.len, hA12.one, fun b13 w14 hb13 hw14 => ?_⟩
 have hx14 : Ext w12 w14 := Ext.new hw14
 have hB14 : Blk w14 b13 49 cs2 := Blk.new hb13 hw14
 have hA14 := hA12.ext hx14
 have hR14 := hR12.ext hx14
 have h313 : b3 < b13 := by rw [hb13]; exact hR12.lt
 have hxw14 := (hxw4.trans hx12).trans hx14
 refine ⟨fun hne => ?_, fun he => ?_⟩
 ·rw [if_pos (nd_t hne)]
  refine ⟨cs2, hA14.len, hB14.at (by rw [List.drop_zero, List.take_length]), ?_⟩
  refine put_ans hA14 hR14 fun w17 hA17 hB17 hf17 => ?_
  exact ⟨cs2, hA17.len, hB17.at (by rw [List.drop_zero, List.take_length]), rfl, hA17, hf17.ext hxw14 fun k _ e => by rw [e]; exact hwb3⟩
 have he := nd_f he
 rw [if_neg (by rw [he]; simp)]
 generalize D.strike.1 = E at hA12 hA14 hEw ⊢
 obtain ⟨s0, sp2, sf2, rfl, hE⟩ := hA12
 have hpl := hE.pend.len
 have hple := hEw.plen
 refine ⟨fun st w' => ∃ (k : Nat) (s' : Sl), k ≤ E.pend.length ∧ st = (k : Int) ∧ Blk w' b13 49 (rc s' sp2 sf2 E.changes E.down) ∧ Blk w' b3 49 (rc nilSl nilSl nilSl 0 false) ∧ StrsAt w' s' ((flushL E.bl (E.pend.take k)).map (·.2)) ∧ Far B s' ∧ Ext w12 w',
  fun st _ => E.pend.length - st.toNat, ⟨0, s0, Nat.zero_le _, rfl, hB14, hR14, hE.sure.ext hx14, hE.f1, hx14⟩, ?_⟩
 rintro st w20 ⟨k, s', hk, rfl, hB, hR, hS, hFs, hx⟩
 have hpe := hE.pend.ext hx
 refine ⟨sp2, by rw [add_plain]; exact hB.cell rfl, ?_⟩
 refine ⟨fun hlt => ?_, fun hge => ?_⟩
 ·have hkl : k < E.pend.length := by have := of_decide_eq_true hlt; omega
  obtain ⟨hpi, hp512⟩ := hEw.pend _ (List.getElem_mem hkl)
  obtain ⟨a, ha, hat⟩ := hpe.get hkl
  have hc0 := hat 0 _ rfl
  have hc1 := hat 1 _ rfl
  have hll : (flushL E.bl (E.pend.take k)).length = E.bl.length := flushL_len' _ _
  intro w27 hw27
  have hx27 : Ext w20 w27 := by subst hw27; exact Ext.drew _
  refine ⟨s', by rw [add_plain]; exact hB.cell rfl, sp2, by rw [add_plain]; exact hB.cell rfl, a, _, ha, by omega, by omega, rfl, ?_⟩
  simp only [Int.toNat_natCast]
  refine ⟨(E.pend[k].1 : Int), hc0, sp2, by rw [add_plain]; exact hB.cell rfl, a, _, ha, by omega, by omega, rfl, ?_⟩
  simp only [Int.toNat_natCast]
  refine ⟨E.pend[k].2, hc1, ?_⟩
  have hfew := hEw.few
  refine cR_of (with_ok w27 s' _ (hS.ext hx27) E.pend[k].1 (by rw [List.length_map, hll]; exact hpi) (by rw [List.length_map, hll]; omega) _) ?_
  rintro x38 w39 ⟨hS39, hx39, hg39⟩
  have hxx := hx27.trans hx39
  rw [add_plain]
  refine st1_blk (hB.ext hxx) (by simp) fun w40 hB40 hf40 => ?_
  rw [w64_eq (by omega) (by omega)]
  have hfs : flushL E.bl (E.pend.take (k + 1)) = setSure (flushL E.bl (E.pend.take k)) E.pend[k].1 E.pend[k].2 := by
   unfold flushL
   rw [List.take_succ_eq_append_getElem hkl, List.foldl_append]
   rfl
  refine ⟨⟨k + 1, x38, by omega, by omega, hB40, (hR.ext hxx).fr hf40 (by omega), ?_, (fun _ a ha => hBn _ (Nat.le_trans (Nat.le_trans ((hxw4.trans hx12).trans hx).size hx27.size) (hg39 a ha))), hf40.ext (hx.trans hxx) fun k _ e => by rw [e, hb13]; exact Nat.le_refl _⟩, by first | omega | (simp only; omega)⟩
  rw [hfs, sures_set]
  exact hS39.fr (hB.ext hxx) hf40
 ·have hge : k = E.pend.length := by have := of_decide_eq_false hge; omega
  subst hge
  rw [List.take_length] at hS
  rw [add_plain]
  refine st1_blk hB (by simp) fun w41 hB41 hf41 => ?_
  have hB41 : Blk w41 b13 49 (rc s' nilSl sf2 E.changes E.down) := hB41
  have hx41 : Ext w12 w41 := hf41.ext hx fun k _ e => by rw [e, hb13]; exact Nat.le_refl _
  refine ⟨rc s' nilSl sf2 E.changes E.down, rfl, hB41.at rfl, ?_⟩
  have hA41 : RAt w41 B (rc s' nilSl sf2 E.changes E.down) { E with bl := flushL E.bl E.pend, pend := [] } := ⟨s', nilSl, sf2, rfl, ⟨hS.fr hB hf41, ⟨rfl, rfl⟩, hE.falls.ext hx41, hFs, Far.nil, hE.f3⟩⟩
  refine put_ans hA41 (hR.fr hf41 (by omega)) fun w43 hA43 hB43 hf43 => ?_
  exact ⟨rc s' nilSl sf2 E.changes E.down, rfl, hB43.at rfl, rfl, hA43, hf43.ext ((hxw4.trans hx12).trans hx41) fun k _ e => by rw [e]; exact hwb3⟩
end Go.Proofs.Ytagkcbbbdlmcjaa
end
section
/- The document's disk: a write. -/
namespace Go.Proofs.Ytagkcbbbdlmcjaa
open Go.Lift Go.Lift.Disk Go.RowKit
variable {B : Nat → Prop}
theorem mkz_46' : mkCells Try.prog 46 = some (114, 2, 24, [Value.int .i64 0, str []]) := mkz_46
theorem pairs_one (l : List (Nat × List UInt8)) : ∀ u ∈ l.flatMap pairC, u.oneCell' = true := by
 intro u hu
 obtain ⟨p, _, hp⟩ := List.mem_flatMap.1 hu
 simp only [pairC, List.mem_cons, List.not_mem_nil, or_false] at hp
 rcases hp with rfl | rfl <;> rfl
theorem Own.ge5 {w : World} {base : Nat} {e : TypeId} {size : Nat} {s : Sl} {xs : List Value} (h : Own w base e size s xs) : ∀ b, s.a = some b → base ≤ b.block := by
 intro b hb
 obtain ⟨sa, l, c⟩ := s
 simp only at hb
 subst hb
 rcases h.2 with ⟨h1, h2⟩ | ⟨g, cap, cur, h1, h3, _⟩
 ·simp at h1
 ·simp only [Value.slice.injEq, Option.some.injEq] at h1
  obtain ⟨rfl, _, _⟩ := h1
  exact h3
theorem rput_ok (w : World) (cs : List Value) (D : Dk) (h : RAt w B cs D) (hwf : D.Wf) (hch : D.changes < 1000000000) (hpn : D.pend.length < 1000000) (hBn : ∀ k, w.heap.size ≤ k → B k) (i : Int) (bs : List UInt8) :
  Calls Try.prog 42 #[aggv cs, .int .i64 i, str bs] w (Ret r42 fun x w' => x.2 = (D.write i bs).2 ∧ RAt w' B x.1 (D.write i bs).1 ∧ Ext w w') := by
 obtain ⟨ss, sp, sf, rfl, h⟩ := h
 apply s42_calls
 intro b1 w2 hb1 hw2
 have hx2 : Ext w w2 := Ext.new hw2
 have hB2 : Blk w2 b1 49 (rc ss sp sf D.changes D.down) := Blk.new hb1 hw2
 intro b3 w4 hb3 hw4
 have hx4 : Ext w2 w4 := Ext.new hw4
 have hR4 : Blk w4 b3 49 (rc nilSl nilSl nilSl 0 false) := Blk.new hb3 hw4
 have hB4 := hB2.ext hx4
 have hxw4 := hx2.trans hx4
 have h13 : b1 < b3 := by rw [hb3]; exact hB2.lt
 have hwb1 : w.heap.size ≤ b1 := by rw [hb1]; exact Nat.le_refl _
 have hwb3 : w.heap.size ≤ b3 := by omega
 have hA : ∀ {w'}, Ext w w' → RAt w' B (rc ss sp sf D.changes D.down) D := fun hx => ⟨ss, sp, sf, rfl, h.ext hx⟩
 refine ⟨rc ss sp sf D.changes D.down, rfl, hB4.at rfl, ?_⟩
 refine cR_of (why_ok w4 _ D (hA hxw4) i) ?_
 rintro x6 w7 ⟨rfl, hx7⟩
 have hxw7 := hxw4.trans hx7
 have hB7 := hB4.ext hx7
 have hR7 := hR4.ext hx7
 unfold Dk.write
 refine ⟨fun hne => ?_, fun he => ?_⟩
 ·rw [if_pos (nd_t hne)]
  refine ⟨rc ss sp sf D.changes D.down, rfl, hB7.at rfl, ?_⟩
  refine put_ans (hA hxw7) hR7 fun w8 hA8 hB8 hf8 => ?_
  exact ⟨rc ss sp sf D.changes D.down, rfl, hB8.at rfl, rfl, hA8, hf8.ext hxw7 fun k _ e => by rw [e]; exact hwb3⟩
 have he := nd_f he
 rw [if_neg (by rw [he]; simp)]
 refine ⟨fun hne => ?_, fun hl => ?_⟩
 ·have hne := nd_t hne
  rw [if_pos (by omega)]
  refine ⟨rc ss sp sf D.changes D.down, rfl, hB7.at rfl, ?_⟩
  refine put_ans (hA hxw7) hR7 fun w8 hA8 hB8 hf8 => ?_
  exact ⟨rc ss sp sf D.changes D.down, rfl, hB8.at rfl, rfl, hA8, hf8.ext hxw7 fun k _ e => by rw [e]; exact hwb3⟩
 have hl := nd_f hl
 rw [if_neg (by omega)]
 obtain ⟨hd, hi0, hi1⟩ := why_zero he
 obtain ⟨n, rfl⟩ := Int.eq_ofNat_of_zero_le hi0
 have hn : n < D.bl.length := by omega
 have h512 : bs.length = 512 := by omega
 rw [Int.toNat_natCast]
 intro b16 w17 hb16 hw17
 have hx17 : Ext w7 w17 := Ext.new hw17
 have hpl := h.pend.len
 have hfl : ∀ l : List (Nat × List UInt8), (l.flatMap pairC).length = l.length * 2 := fun l => flatMap_len pairC (n := 2) (fun _ => rfl) l
 refine ⟨sp, by rw [add_plain]; exact (hB7.ext hx17).cell rfl, ?_⟩
 refine app_ok (base := w7.heap.size) mkz_46' rfl (by decide) (Own.made (e := 114) (size := 2) (c := 0) hb16 hw17 (Nat.le_refl _) rfl (by simp [maxLen])) (news := D.pend.flatMap pairC)
  (by rw [hfl, hpl]) (Ext.atO (hxw7.trans hx17) h.pend.cells) (pairs_one _) (by simp only [maxLen]; omega) (by simp only; omega) hx17.size ?_
 intro s19 w20 hl19 ho19 _ hB20
 have hx20 : Ext w7 w20 := hB20 _ _ hx17 (Nat.le_refl _) hx17.size
 rw [List.nil_append] at ho19
 have hl19' : s19.len = D.pend.length := by rw [hl19]; simp [hpl]
 refine ⟨rfl, ?_, fun b21 w22 hb21 hw22 => ?_⟩
 ·exact fun v hv => pairs_one [(n, bs)] v (by simpa [pairC] using hv)
 have hx22 : Ext w20 w22 := Ext.new hw22
 refine app_ok (base := w7.heap.size) mkz_46' rfl (by decide) (ho19.ext hx22) (news := pairC (n, bs)) rfl (At.new hb21 hw22) (fun u hu => pairs_one [(n, bs)] u (by simpa using hu)) (by simp only [maxLen]; omega) (by simp only; omega) (hx20.trans hx22).size ?_
 intro s23 w24 hl23 ho23 _ hB24
 have hx24 : Ext w7 w24 := hB24 _ _ (hx20.trans hx22) (Nat.le_refl _) (hx20.trans hx22).size
 have hxw24 := hxw7.trans hx24
 rw [add_plain]
 refine st1_blk (hB7.ext hx24) (by simp) fun w25 hB25 hf25 => ?_
 have hB25 : Blk w25 b1 49 (rc ss s23 sf D.changes D.down) := hB25
 have hx25 : Ext w w25 := hf25.ext hxw24 fun k _ e => by rw [e]; exact hwb1
 have hP25 : PairsAt w25 s23 (D.pend ++ [(n, bs)]) := by
  refine ⟨by rw [hl23, List.length_append]; show s19.len + 1 = _; rw [hl19']; rfl, ?_⟩
  have e : (D.pend ++ [(n, bs)]).flatMap pairC = D.pend.flatMap pairC ++ pairC (n, bs) := by simp [List.flatMap_append]
  rw [e]
  refine (hf25.own (fun b hb e => ?_) ho23).at
  have hb1w : b1 < w7.heap.size := hB7.lt
  have hge : w7.heap.size ≤ b.block := by
   obtain ⟨sa, l, c⟩ := s23
   simp only at hb
   subst hb
   rcases ho23.2 with ⟨h1, h2⟩ | ⟨g, cap, cur, h1, h3, _⟩
   ·simp at h1
   ·simp only [Value.slice.injEq, Option.some.injEq] at h1
    obtain ⟨rfl, _, _⟩ := h1
    exact h3
  have e : b.block = b1 := e
  omega
 have hA25 : RAt w25 B (rc ss s23 sf D.changes D.down) (D.put n bs) := by
  refine ⟨ss, s23, sf, rfl, ⟨?_, hP25, h.falls.ext hx25, h.f1, (fun _ b hb => hBn _ (Nat.le_trans hxw7.size (Own.ge5 ho23 b hb))), h.f3⟩⟩
  show StrsAt w25 ss ((setNow D.bl n bs).map (·.2))
  rw [sures_now hn]
  exact h.sure.ext hx25
 refine ⟨rc ss s23 sf D.changes D.down, rfl, hB25.at rfl, ?_⟩
 refine cR_of (rstrike_ok w25 _ _ hA25 (put_wf hwf hpn hn h512) hch (fun k hk => hBn k (Nat.le_trans hx25.size hk))) ?_
 rintro ⟨cs2, e2⟩ w28 ⟨he2, hA28, hx28⟩
 simp only at he2 hA28
 subst he2
 have hR28 := (((hR7.ext hx24).fr hf25 (by omega)).ext hx28)
 refine put_ans hA28 hR28 fun w29 hA29 hB29 hf29 => ?_
 exact ⟨cs2, hA29.len, hB29.at (by rw [List.drop_zero, List.take_length]), rfl, hA29, hf29.ext (hx25.trans hx28) fun k _ e => by rw [e]; exact hwb3⟩
end Go.Proofs.Ytagkcbbbdlmcjaa
end
section
/- What one thing done leaves of the plain disk; and the document's disk beside one that is written. -/
namespace Go.Proofs.Ytagkcbbbdlmcjaa
open Go.Lift Go.Lift.Disk Go.RowKit
variable {B : Nat → Prop}
theorem atO_nil (w : World) (a : Option Addr) : AtO w a [] := by
 cases a with
 | none => rfl
 | some a => exact fun j v hj => by simp at hj
theorem RAt.foot {w w' : World} {X : Nat → Prop} {cs : List Value} {D : Dk} (h : RAt w B cs D) (hf : Fr X w w') (hX : ∀ k, B k → ¬ X k) : RAt w' B cs D := by
 obtain ⟨ss, sp, sf, h1, h2⟩ := h
 refine ⟨ss, sp, sf, h1, ⟨h2.sure.len, ?_⟩, ⟨h2.pend.len, ?_⟩, ⟨h2.falls.len, h2.falls.cap, ?_, h2.falls.nil, h2.falls.keep⟩, h2.f1, h2.f2, h2.f3⟩
 ·by_cases h0 : ss.len = 0
  ·have := h2.sure.len
   rw [List.eq_nil_of_length_eq_zero (this.symm.trans h0)]
   exact atO_nil _ _
  ·exact hf.atO (fun a ha => hX _ (h2.f1 h0 a ha)) h2.sure.cells
 ·by_cases h0 : sp.len = 0
  ·have := h2.pend.len
   rw [List.eq_nil_of_length_eq_zero (this.symm.trans h0)]
   exact atO_nil _ _
  ·exact hf.atO (fun a ha => hX _ (h2.f2 h0 a ha)) h2.pend.cells
 ·by_cases h0 : sf.len = 0
  ·have := h2.falls.len
   rw [List.eq_nil_of_length_eq_zero (this.symm.trans h0)]
   exact atO_nil _ _
  ·exact hf.atO (fun a ha => hX _ (h2.f3 h0 a ha)) h2.falls.cells
/-- the disk while it is played with: so many blocks, so many things done; each block is what was written last -/
structure Play (n k : Nat) (D : Dk) : Prop where
 len : D.bl.length = n
 ch : D.changes ≤ k
 pend : D.pend.length ≤ k
 now : ∀ i, i < n → (bAt D.bl i).1 = lastOf D.pend i (bAt D.bl i).2
theorem play_fresh (n : Nat) : Play n 0 (fresh n) := by
 have h := run_fresh n
 exact ⟨h.len, h.ch, h.pend, h.now⟩
theorem play_mono {n k m : Nat} {D : Dk} (h : Play n k D) (hk : k ≤ m) : Play n m D := ⟨h.len, Nat.le_trans h.ch hk, Nat.le_trans h.pend hk, h.now⟩
theorem play_crash {n k : Nat} {D : Dk} (h : Play n k D) (f : Fall) : Play n k (D.crash f) := by
 unfold Dk.crash
 split
 ·exact h
 ·refine ⟨by simp only [List.length_map, crashL_len']; exact h.len, h.ch, Nat.zero_le _, fun i hi => ?_⟩
  show (bAt (List.map _ _) i).1 = lastOf [] i (bAt (List.map _ _) i).2
  rw [bAt_map (by rw [crashL_len', h.len]; exact hi)]
  rfl
theorem play_tick {n k : Nat} {D : Dk} (h : Play n k D) : Play n (k + 1) (Dk.tick D) := ⟨h.len, by show D.changes + 1 ≤ _; have := h.ch; omega, Nat.le_succ_of_le h.pend, h.now⟩
theorem play_strike {n k : Nat} {D : Dk} (h : Play n k D) : Play n (k + 1) D.strike.1 := by
 cases hf : D.falls.find? (fun f => f.1 == (D.changes : Int)) with
 | none => rw [strike_none hf]; exact play_tick h
 | some f => rw [strike_some hf]; exact play_crash (play_tick h) f
theorem play_put {n k : Nat} {D : Dk} (h : Play n k D) {i : Nat} (hi : i < n) {b : List UInt8} : (D.put i b).bl.length = n ∧ (D.put i b).changes ≤ k ∧ (D.put i b).pend.length ≤ k + 1 ∧ ∀ j, j < n → (bAt (D.put i b).bl j).1 = lastOf (D.put i b).pend j (bAt (D.put i b).bl j).2 := by
 refine ⟨by show (setNow _ _ _).length = n; rw [setNow_len]; exact h.len, h.ch, ?_, ?_⟩
 ·show (D.pend ++ [(i, b)]).length ≤ _
  rw [List.length_append]
  have := h.pend
  simp only [List.length_cons, List.length_nil]
  omega
 ·intro j hj
  show (bAt (setNow D.bl i b) j).1 = lastOf (D.pend ++ [(i, b)]) j (bAt (setNow D.bl i b) j).2
  rw [bAt_setNow _ (by rw [h.len]; exact hj), lastOf_append]
  by_cases he : i = j
  ·simp [he]
  ·simp only [he, if_false]
   exact h.now j hj
theorem play_write {n k : Nat} {D : Dk} (h : Play n k D) (i : Int) (b : List UInt8) : Play n (k + 1) (D.write i b).1 := by
 unfold Dk.write
 split
 ·exact play_mono h (Nat.le_succ _)
 ·rename_i hw
  split
  ·exact play_mono h (Nat.le_succ _)
  ·have hw : D.why i = 0 := by simpa using hw
   obtain ⟨_, h0, h1⟩ := why_zero hw
   obtain ⟨m, rfl⟩ := Int.eq_ofNat_of_zero_le h0
   rw [Int.toNat_natCast]
   have hm : m < n := by rw [← h.len]; omega
   obtain ⟨a1, a2, a3, a4⟩ := play_put h hm (b := b)
   -- what a change adds is counted apart from what is pending
   cases hf : (D.put m b).falls.find? (fun f => f.1 == ((D.put m b).changes : Int)) with
   | none =>
    rw [strike_none hf]
    exact ⟨a1, by show (D.put m b).changes + 1 ≤ _; omega, a3, a4⟩
   | some f =>
    rw [strike_some hf]
    exact play_crash (D := Dk.tick (D.put m b)) ⟨a1, by show (D.put m b).changes + 1 ≤ _; omega, a3, a4⟩ f
theorem play_flush {n k : Nat} {D : Dk} (h : Play n k D) : Play n (k + 1) D.flush.1 := by
 unfold Dk.flush
 split
 ·exact play_mono h (Nat.le_succ _)
 ·have hs := play_strike h
  split
  ·exact hs
  ·refine ⟨by show (flushL _ _).length = n; rw [flushL_len']; exact hs.len, hs.ch, Nat.zero_le _, fun i hi => ?_⟩
   show (bAt (flushL _ _) i).1 = lastOf [] i (bAt (flushL _ _) i).2
   rw [flushL_at _ _ _ (by rw [hs.len]; exact hi), ← hs.now i hi]
   rfl
end Go.Proofs.Ytagkcbbbdlmcjaa
end
section
/- The document's disk beside one that is written: what stays. -/
namespace Go.Proofs.Ytagkcbbbdlmcjaa
open Go.Lift Go.Lift.Disk Go.RowKit
variable {B : Nat → Prop}
theorem Fr.later {X : Nat → Prop} {g : Nat} {w w' w'' : World} (h : Fr X w w') (k : Fr (· = g) w' w'') (hg : w.heap.size ≤ g) : Fr X w w'' :=
 ⟨k.os.trans h.os, k.tape.trans h.tape, k.output.trans h.output, Nat.le_trans h.size k.size, fun i hi hx => (k.block i (Nat.lt_of_lt_of_le hi h.size) (fun e => by have e : i = g := e; omega)).trans (h.block i hi hx)⟩
theorem plan_rat {w : World} {ss sp sf : Sl} {D : Dk} (h : RX w B ss sp sf D) {s : Sl} {l : List Fall} (hs : FallsAt w s l) (hf : Far B s) : RX w B ss sp s (Dk.plan D l) := ⟨h.sure, h.pend, hs, h.f1, h.f2, hf⟩
theorem play_plan {n k : Nat} {D : Dk} (h : Play n k D) (l : List Fall) : Play n k (Dk.plan D l) := ⟨h.len, h.ch, h.pend, h.now⟩
theorem play_up {n k : Nat} {D : Dk} (h : Play n k D) : Play n k D.up := ⟨h.len, h.ch, h.pend, h.now⟩
theorem atO_lt {w : World} {a : Addr} {v : Value} {l : List Value} (h : AtO w (some a) (v :: l)) : a.block < w.heap.size := by
 have := h 0 v rfl
 have e : (a.add 0).block = a.block := add_block a 0
 rw [← e]
 exact World.block_lt_of_cell? w _ this
theorem Far.mono {B B' : Nat → Prop} {w : World} {s : Sl} {cs : List Value} (h : Far B s) (hc : AtO w s.a cs) (hl : s.len ≠ 0 → cs ≠ []) (hm : ∀ k, k < w.heap.size → B k → B' k) : Far B' s := by
 intro h0 a ha
 refine hm _ ?_ (h h0 a ha)
 rw [ha] at hc
 obtain ⟨v, l, e⟩ := List.exists_cons_of_ne_nil (hl h0)
 rw [e] at hc
 exact atO_lt hc
theorem RAt.mono {w : World} {B B' : Nat → Prop} {cs : List Value} {D : Dk} (h : RAt w B cs D) (hm : ∀ k, k < w.heap.size → B k → B' k) : RAt w B' cs D := by
 obtain ⟨ss, sp, sf, h1, h2⟩ := h
 refine ⟨ss, sp, sf, h1, h2.sure, h2.pend, h2.falls, h2.f1.mono h2.sure.cells ?_ hm, h2.f2.mono h2.pend.cells ?_ hm, h2.f3.mono h2.falls.cells ?_ hm⟩
 ·intro h0 e
  have h3 := congrArg List.length e
  have h4 := h2.sure.len
  simp only [List.length_map, List.length_nil] at h3 h4
  omega
 ·intro h0 e
  have h3 := congrArg List.length e
  have h4 := h2.pend.len
  rw [flatMap_len pairC (n := 2) (fun _ => rfl)] at h3
  simp only [List.length_nil] at h3
  omega
 ·intro h0 e
  have h3 := congrArg List.length e
  have h4 := h2.falls.len
  rw [fallC_len] at h3
  simp only [List.length_nil] at h3
  omega
end Go.Proofs.Ytagkcbbbdlmcjaa
end
section
/- The typed readings of the functions, and that the program meets each: written by gen.py (a program of this session). -/
namespace Go.Proofs.Ytagkcbbbdlmcjaa
open Go.Lift
set_option maxRecDepth 100000 in
set_option maxHeartbeats 4000000 in
theorem s16_calls (K : Option Addr × Sl × Int → World → Prop) (p0 : Option Addr) (p1 : Int) (p2 : Int) (w : World) (h : s16 K p0 p1 p2 w) :
  Calls Try.prog 16 #[.pointer p0, .int .i64 p1, .int .i64 p2] w (Ret r16 K) := by
 unfold s16 at h
 refine calls_of_CW (n := 146) Try.func16 rfl rfl rfl ?_
 refine CW.seq ?_
 refine CW.region ?_
 refine RL.opS trivial rfl (OpW.assign (v := .pointer none) rfl ?_)
 refine RL.opS trivial rfl (OpW.assign (v := Sl.v nilSl) rfl ?_)
 refine RL.opS trivial rfl (OpW.assign (v := .int .i64 0) rfl ?_)
 refine RL.nil ?_
 refine CW.seq ?_
 refine CW.seq ?_
 refine CW.region ?_
 refine RL.opS trivial rfl (OpW.move (v := .pointer p0) rfl ?_)
 refine RL.opS trivial rfl (OpW.ptrNil (b := p0.isNone) (p := p0) ptr_31 rfl rfl rfl ?_)
 refine RL.opS trivial rfl (OpW.move (v := .bool (p0.isNone)) rfl ?_)
 refine jn_elim h ?_; clear h; intro k106 hk107 h
 refine RL.joinAt (A := Bool) 3 (fun s3 ρ => ρ 28 = .bool s3 ∧ ρ 0 = .pointer p0 ∧ ρ 1 = .int .i64 p1 ∧ ρ 2 = .int .i64 p2) k106 ?_ ?_
 ·rintro s3 ρ w4 ⟨e5, e6, e7, e8⟩ h
  subst hk107
  dsimp only [List.drop]
  refine RL.opS trivial rfl (OpW.move (v := .bool s3) e5 ?_)
  refine jn_elim h ?_; clear h; intro k104 hk105 h
  refine RL.joinAt (A := Bool) 3 (fun s11 ρ => ρ 32 = .bool s11 ∧ ρ 0 = .pointer p0 ∧ ρ 1 = .int .i64 p1 ∧ ρ 2 = .int .i64 p2) k104 ?_ ?_
  ·rintro s11 ρ w12 ⟨e13, e14, e15, e16⟩ h
   subst hk105
   dsimp only [List.drop]
   refine RL.opS trivial rfl (OpW.move (v := .bool s11) e13 ?_)
   refine jn_elim h ?_; clear h; intro k102 hk103 h
   refine RL.joinAt (A := Bool) 5 (fun s21 ρ => ρ 38 = .bool s21 ∧ ρ 0 = .pointer p0 ∧ ρ 1 = .int .i64 p1 ∧ ρ 2 = .int .i64 p2) k102 ?_ ?_
   ·rintro s21 ρ w22 ⟨e23, e24, e25, e26⟩ h
    subst hk103
    dsimp only [List.drop]
    refine RL.opS trivial rfl (OpW.move (v := .bool s21) e23 ?_)
    refine jn_elim h ?_; clear h; intro k100 hk101 h
    refine RL.joinAt (A := Bool) 7 (fun s31 ρ => ρ 46 = .bool s31 ∧ ρ 0 = .pointer p0 ∧ ρ 1 = .int .i64 p1 ∧ ρ 2 = .int .i64 p2) k100 ?_ ?_
    ·rintro s31 ρ w32 ⟨e33, e34, e35, e36⟩ h
     subst hk101
     dsimp only [List.drop]
     refine RL.nil ?_
     obtain ⟨ha, hc⟩ := h
     refine CW.cond (b := s31) e33 (fun hb37 => ?_) (fun hb37 => ?_)
     ·have h := ha hb37; clear ha hc
      refine CW.seq ?_
      refine CW.region ?_
      refine RL.opS trivial rfl (OpW.assign (v := .pointer none) rfl ?_)
      refine RL.opS trivial rfl (OpW.assign (v := Sl.v nilSl) rfl ?_)
      refine RL.opS trivial rfl (OpW.assign (v := .int .i64 1) rfl ?_)
      refine RL.nil ?_
      refine CW.ret ?_
      exact ret_intro (res3 rfl rfl rfl rfl) ⟨(none, nilSl, 1), rfl, h⟩
     ·have h := hc hb37; clear ha hc
      refine CW.skip ?_
      refine CW.seq ?_
      refine CW.region ?_
      refine RL.opS trivial rfl (OpW.move (v := .pointer p0) e34 ?_)
      refine RL.opS trivial rfl (OpW.move (v := .int .i64 p1) e35 ?_)
      refine RL.opS trivial rfl (OpW.move (v := .int .i64 p2) e36 ?_)
      refine RL.opS trivial rfl (OpW.bin (k := .i64) (a := p2) (b := 2) (v := .int .i64 (IntKind.i64.wrap (p2 - 2))) rfl rfl rfl ?_)
      refine RL.opS trivial rfl (OpW.bin (k := .i64) (a := (IntKind.i64.wrap (p2 - 2))) (b := 512) (v := .int .i64 (IntKind.i64.wrap ((IntKind.i64.wrap (p2 - 2)) * 512))) rfl rfl rfl ?_)
      refine RL.opS trivial rfl (OpW.buildL (vs := [(0, .pointer p0), (1, .int .i64 p1), (2, .int .i64 (IntKind.i64.wrap ((IntKind.i64.wrap (p2 - 2)) * 512)))]) (cs := [.pointer p0, .int .i64 p1, .int .i64 (IntKind.i64.wrap ((IntKind.i64.wrap (p2 - 2)) * 512)), Value.int .u64 0, Value.slice none 0 0, Value.int .i64 0, Value.bool false]) (by rfl) (fun _ => by kernel_rfl) ?_)
      obtain ⟨b38, hb38_⟩ : ∃ b_, b_ = w32.heap.size := ⟨_, rfl⟩
      obtain ⟨w39, hw39_⟩ : ∃ w_, w_ = w32.alloc (.cells (List.toArray [.pointer p0, .int .i64 p1, .int .i64 (IntKind.i64.wrap ((IntKind.i64.wrap (p2 - 2)) * 512)), Value.int .u64 0, Value.slice none 0 0, Value.int .i64 0, Value.bool false]) 95) := ⟨_, rfl⟩
      have h := h b38 w39 hb38_ hw39_
      refine RL.opS trivial rfl (OpW.boxE (cs := [.pointer p0, .int .i64 p1, .int .i64 (IntKind.i64.wrap ((IntKind.i64.wrap (p2 - 2)) * 512)), Value.int .u64 0, Value.slice none 0 0, Value.int .i64 0, Value.bool false]) (rfl) hb38_ hw39_ ?_)
      refine RL.opS trivial rfl (OpW.assign (v := .pointer (some ⟨b38, 0, none⟩)) rfl ?_)
      refine RL.nil ?_
      refine CW.seq ?_
      refine CW.region ?_
      refine RL.opS trivial rfl (OpW.assign (v := .int .i64 0) rfl ?_)
      refine RL.nil ?_
      refine CW.seq ?_
      refine CW.seq ?_
      refine CW.region ?_
      refine RL.opS trivial rfl (OpW.move (v := .int .i64 0) rfl ?_)
      refine RL.nil ?_
      refine CW.block ?_
      obtain ⟨I98, mu99, hI, hs⟩ := h
      refine CW.loop (σ := Int × Int) (fun s40 ρ => ρ 10 = .int .i64 s40.1 ∧ ρ 54 = .int .i64 s40.2 ∧ ρ 0 = .pointer p0 ∧ ρ 1 = .int .i64 p1 ∧ ρ 9 = .pointer (some ⟨b38, 0, none⟩)) I98 mu99 (0, 0) ⟨rfl, rfl, e34, e35, rfl⟩ hI ?_
      rintro s40 ρ w41 ⟨e43, e44, e45, e46, e47⟩ hI
      have h := hs s40 w41 hI
      clear hs hI
      refine CW.seq ?_
      refine CW.region ?_
      refine RL.opS trivial rfl (OpW.bin (k := .i64) (a := s40.2) (b := 2) (v := .bool (decide (s40.2 < 2))) e44 rfl rfl ?_)
      refine RL.nil ?_
      refine CW.seq ?_
      obtain ⟨ha, hc⟩ := h
      refine CW.cond (b := (decide (s40.2 < 2))) rfl (fun hb48 => ?_) (fun hb48 => ?_)
      ·have h := ha hb48; clear ha hc
       refine CW.skip ?_
       refine jn_elim h ?_; clear h; intro k66 hk67 h
       refine CW.seqJ (A := Int) (fun s59 ρ => ρ 10 = .int .i64 s59 ∧ ρ 0 = .pointer p0 ∧ ρ 1 = .int .i64 p1 ∧ ρ 9 = .pointer (some ⟨b38, 0, none⟩) ∧ ρ 54 = .int .i64 s40.2) k66 ?_ ?_
       ·rintro s59 ρ w60 ⟨e61, e62, e63, e64, e65⟩ h
        subst hk67
        refine CW.region ?_
        refine RL.opS trivial rfl (OpW.bin (k := .i64) (a := s40.2) (b := 1) (v := .int .i64 (IntKind.i64.wrap (s40.2 + 1))) e65 rfl rfl ?_)
        refine RL.opS trivial rfl (OpW.move (v := .int .i64 (IntKind.i64.wrap (s40.2 + 1))) rfl ?_)
        refine RL.nil ?_
        exact ⟨(s59, (IntKind.i64.wrap (s40.2 + 1))), ⟨e61, rfl, e62, e63, e64⟩, h⟩
       ·clear hk67
        refine CW.block ?_
        refine CW.seq ?_
        refine CW.region ?_
        refine RL.opS trivial rfl (OpW.move (v := .int .i64 s40.2) e44 ?_)
        refine RL.opS trivial rfl (OpW.assign (v := .int .i64 s40.2) rfl ?_)
        refine RL.nil ?_
        refine CW.seq ?_
        refine CW.region ?_
        refine RL.opS trivial rfl (OpW.move (v := .pointer p0) e45 ?_)
        refine RL.opS trivial rfl (OpW.move (v := .int .i64 p1) e46 ?_)
        refine RL.opS trivial rfl (OpW.move (v := .int .i64 s40.2) rfl ?_)
        refine RL.opS trivial rfl (OpW.bin (k := .i64) (a := p1) (b := s40.2) (v := .int .i64 (IntKind.i64.wrap (p1 + s40.2))) rfl rfl rfl ?_)
        refine RL.opS trivial rfl (OpW.callR (al := [.pointer p0, .int .i64 (IntKind.i64.wrap (p1 + s40.2))]) Try.func28 fb_28 fn_28 rfl h (fun x50 w51 h => ?_))
        refine RL.opS trivial rfl (OpW.move (v := .tuple #[Sl.v x50.1, .int .i64 x50.2]) rfl ?_)
        refine RL.opS trivial rfl (OpW.extract (v := Sl.v x50.1) rfl rfl ?_)
        refine RL.opS trivial rfl (OpW.extract (v := .int .i64 x50.2) rfl rfl ?_)
        refine RL.opS trivial rfl (OpW.assign (v := Sl.v x50.1) rfl ?_)
        refine RL.opS trivial rfl (OpW.assign (v := .int .i64 x50.2) rfl ?_)
        refine RL.nil ?_
        refine CW.seq ?_
        refine CW.seq ?_
        refine CW.region ?_
        refine RL.opS trivial rfl (OpW.move (v := .int .i64 x50.2) rfl ?_)
        refine RL.opS trivial rfl (OpW.bin (k := .i64) (a := x50.2) (b := 0) (v := .bool (!decide (x50.2 = 0))) rfl rfl rfl ?_)
        refine RL.nil ?_
        obtain ⟨ha, hc⟩ := h
        refine CW.cond (b := (!decide (x50.2 = 0))) rfl (fun hb52 => ?_) (fun hb52 => ?_)
        ·have h := ha hb52; clear ha hc
         refine CW.seq ?_
         refine CW.region ?_
         refine RL.opS trivial rfl (OpW.move (v := .int .i64 x50.2) rfl ?_)
         refine RL.opS trivial rfl (OpW.assign (v := .pointer none) rfl ?_)
         refine RL.opS trivial rfl (OpW.assign (v := Sl.v nilSl) rfl ?_)
         refine RL.opS trivial rfl (OpW.assign (v := .int .i64 x50.2) rfl ?_)
         refine RL.nil ?_
         refine CW.ret ?_
         exact ret_intro (res3 rfl rfl rfl rfl) ⟨(none, nilSl, x50.2), rfl, h⟩
        ·have h := hc hb52; clear ha hc
         refine CW.skip ?_
         refine CW.seq ?_
         refine CW.region ?_
         refine RL.opS trivial rfl (OpW.move (v := Sl.v x50.1) rfl ?_)
         refine RL.opS trivial rfl (OpW.move (v := .pointer (some ⟨b38, 0, none⟩)) e47 ?_)
         refine RL.opS trivial rfl (OpW.nilCheck rfl ?_)
         refine RL.opS trivial rfl (OpW.fieldAddr field_95_2 rfl ?_)
         obtain ⟨x53, h1, h⟩ := h
         refine RL.opS trivial rfl (OpW.load1 (v := .int .i64 x53) one_3 rfl h1 ?_)
         refine RL.opS trivial rfl (OpW.callR (al := [Sl.v x50.1, .int .i64 x53]) Try.func47 fb_47 fn_47 rfl h (fun x54 w55 h => ?_))
         refine RL.opS trivial rfl (OpW.move (v := .tuple #[.int .u64 x54.1, .int .i64 x54.2]) rfl ?_)
         refine RL.opS trivial rfl (OpW.extract (v := .int .u64 x54.1) rfl rfl ?_)
         refine RL.opS trivial rfl (OpW.extract (v := .int .i64 x54.2) rfl rfl ?_)
         refine RL.opS trivial rfl (OpW.assign (v := .int .u64 x54.1) rfl ?_)
         refine RL.opS trivial rfl (OpW.assign (v := .int .i64 x54.2) rfl ?_)
         refine RL.nil ?_
         refine CW.seq ?_
         refine CW.region ?_
         refine RL.opS trivial rfl (OpW.move (v := .int .u64 x54.1) rfl ?_)
         refine RL.opS trivial rfl (OpW.move (v := .pointer (some ⟨b38, 0, none⟩)) e47 ?_)
         refine RL.opS trivial rfl (OpW.nilCheck rfl ?_)
         refine RL.opS trivial rfl (OpW.fieldAddr field_95_3 rfl ?_)
         obtain ⟨x56, h1, h⟩ := h
         refine RL.opS trivial rfl (OpW.load1 (v := .int .u64 x56) one_25 rfl h1 ?_)
         refine RL.opS trivial rfl (OpW.bin (k := .u64) (a := x54.1) (b := x56) (v := .bool (decide (x56 < x54.1))) rfl rfl rfl ?_)
         refine RL.nil ?_
         obtain ⟨ha, hc⟩ := h
         refine CW.cond (b := (decide (x56 < x54.1))) rfl (fun hb57 => ?_) (fun hb57 => ?_)
         ·have h := ha hb57; clear ha hc
          refine CW.region ?_
          refine RL.opS trivial rfl (OpW.move (v := .pointer (some ⟨b38, 0, none⟩)) e47 ?_)
          refine RL.opS trivial rfl (OpW.move (v := .int .u64 x54.1) rfl ?_)
          refine RL.opS trivial rfl (OpW.move (v := .int .i64 x54.2) rfl ?_)
          refine RL.opS trivial rfl (OpW.nilCheck rfl ?_)
          refine RL.opS trivial rfl (OpW.fieldAddr field_95_3 rfl ?_)
          obtain ⟨u_, h1, h2, h⟩ := h
          obtain ⟨w58, hw58_⟩ : ∃ w_, w_ = w55.setCell (Addr.add ⟨b38, 0, none⟩ 3) (.int .u64 x54.1) := ⟨_, rfl⟩
          have h := h w58 hw58_
          refine RL.opN trivial (OpW.store1E (v := .int .u64 x54.1) size_25 rfl rfl rfl h1 h2 hw58_ ?_)
          refine RL.opS trivial rfl (OpW.assign (v := .int .i64 x54.2) rfl ?_)
          refine RL.nil ?_
          exact ⟨x54.2, ⟨rfl, e45, e46, e47, e44⟩, h⟩
         ·have h := hc hb57; clear ha hc
          refine CW.skip ?_
          exact ⟨s40.1, ⟨e43, e45, e46, e47, e44⟩, h⟩
      ·have h := hc hb48; clear ha hc
       refine CW.exit ?_
       refine CW.seq ?_
       refine CW.seq ?_
       refine CW.region ?_
       refine RL.opS trivial rfl (OpW.move (v := .pointer (some ⟨b38, 0, none⟩)) e47 ?_)
       refine RL.opS trivial rfl (OpW.nilCheck rfl ?_)
       refine RL.opS trivial rfl (OpW.fieldAddr field_95_3 rfl ?_)
       obtain ⟨x68, h1, h⟩ := h
       refine RL.opS trivial rfl (OpW.load1 (v := .int .u64 x68) one_25 rfl h1 ?_)
       refine RL.opS trivial rfl (OpW.bin (k := .u64) (a := x68) (b := 0) (v := .bool (decide (x68 = 0))) rfl rfl rfl ?_)
       refine RL.nil ?_
       obtain ⟨ha, hc⟩ := h
       refine CW.cond (b := (decide (x68 = 0))) rfl (fun hb69 => ?_) (fun hb69 => ?_)
       ·have h := ha hb69; clear ha hc
        refine CW.seq ?_
        refine CW.seq ?_
        refine CW.region ?_
        refine RL.opS trivial rfl (OpW.move (v := .pointer (some ⟨b38, 0, none⟩)) e47 ?_)
        refine RL.opS trivial rfl (OpW.callR (al := [.pointer (some ⟨b38, 0, none⟩), .int .u64 1, .int .i64 0]) Try.func48 fb_48 fn_48 rfl h (fun x70 w71 h => ?_))
        refine RL.opS trivial rfl (OpW.assign (v := .int .i64 x70) rfl ?_)
        refine RL.nil ?_
        refine CW.seq ?_
        refine CW.region ?_
        refine RL.opS trivial rfl (OpW.move (v := .int .i64 x70) rfl ?_)
        refine RL.opS trivial rfl (OpW.bin (k := .i64) (a := x70) (b := 0) (v := .bool (!decide (x70 = 0))) rfl rfl rfl ?_)
        refine RL.nil ?_
        obtain ⟨ha, hc⟩ := h
        refine CW.cond (b := (!decide (x70 = 0))) rfl (fun hb72 => ?_) (fun hb72 => ?_)
        ·have h := ha hb72; clear ha hc
         refine CW.seq ?_
         refine CW.region ?_
         refine RL.opS trivial rfl (OpW.move (v := .int .i64 x70) rfl ?_)
         refine RL.opS trivial rfl (OpW.assign (v := .pointer none) rfl ?_)
         refine RL.opS trivial rfl (OpW.assign (v := Sl.v nilSl) rfl ?_)
         refine RL.opS trivial rfl (OpW.assign (v := .int .i64 x70) rfl ?_)
         refine RL.nil ?_
         refine CW.ret ?_
         exact ret_intro (res3 rfl rfl rfl rfl) ⟨(none, nilSl, x70), rfl, h⟩
        ·have h := hc hb72; clear ha hc
         refine CW.skip ?_
         refine CW.seq ?_
         refine CW.region ?_
         refine RL.opS trivial rfl (OpW.move (v := .pointer (some ⟨b38, 0, none⟩)) e47 ?_)
         refine RL.opS trivial rfl (OpW.assign (v := .pointer (some ⟨b38, 0, none⟩)) rfl ?_)
         refine RL.opS trivial rfl (OpW.assign (v := Sl.v nilSl) rfl ?_)
         refine RL.opS trivial rfl (OpW.assign (v := .int .i64 0) rfl ?_)
         refine RL.nil ?_
         refine CW.ret ?_
         exact ret_intro (res3 rfl rfl rfl rfl) ⟨(some ⟨b38, 0, none⟩, nilSl, 0), rfl, h⟩
       ·have h := hc hb69; clear ha hc
        refine CW.skip ?_
        refine CW.seq ?_
        refine CW.region ?_
        refine RL.opS trivial rfl (OpW.assign (v := Sl.v nilSl) rfl ?_)
        refine RL.nil ?_
        refine CW.seq ?_
        refine CW.seq ?_
        refine CW.region ?_
        refine RL.opS trivial rfl (OpW.assign (v := .int .i64 0) rfl ?_)
        refine RL.nil ?_
        refine CW.block ?_
        obtain ⟨I96, mu97, hI, hs⟩ := h
        refine CW.loop (σ := Sl × Int) (fun s73 ρ => ρ 17 = Sl.v s73.1 ∧ ρ 18 = .int .i64 s73.2 ∧ ρ 0 = .pointer p0 ∧ ρ 1 = .int .i64 p1 ∧ ρ 9 = .pointer (some ⟨b38, 0, none⟩) ∧ ρ 10 = .int .i64 s40.1) I96 mu97 (nilSl, 0) ⟨rfl, rfl, e45, e46, e47, e43⟩ hI ?_
        rintro s73 ρ w74 ⟨e76, e77, e78, e79, e80, e81⟩ hI
        have h := hs s73 w74 hI
        clear hs hI
        refine CW.seq ?_
        refine CW.seq ?_
        refine CW.region ?_
        refine RL.opS trivial rfl (OpW.move (v := .int .i64 s73.2) e77 ?_)
        refine RL.opS trivial rfl (OpW.move (v := .int .i64 s40.1) e81 ?_)
        refine RL.opS trivial rfl (OpW.bin (k := .i64) (a := s73.2) (b := s40.1) (v := .bool (decide (s73.2 < s40.1))) rfl rfl rfl ?_)
        refine RL.nil ?_
        obtain ⟨ha, hc⟩ := h
        refine CW.cond (b := (decide (s73.2 < s40.1))) rfl (fun hb82 => ?_) (fun hb82 => ?_)
        ·have h := ha hb82; clear ha hc
         refine CW.skip ?_
         refine CW.seq ?_
         refine CW.block ?_
         refine CW.seq ?_
         refine CW.region ?_
         refine RL.opS trivial rfl (OpW.move (v := .pointer p0) e78 ?_)
         refine RL.opS trivial rfl (OpW.move (v := .int .i64 p1) e79 ?_)
         refine RL.opS trivial rfl (OpW.bin (k := .i64) (a := p1) (b := 2) (v := .int .i64 (IntKind.i64.wrap (p1 + 2))) rfl rfl rfl ?_)
         refine RL.opS trivial rfl (OpW.move (v := .int .i64 s73.2) e77 ?_)
         refine RL.opS trivial rfl (OpW.quo (a := s73.2) (b := 512) (v := .int .i64 (IntKind.i64.wrap (Int.tdiv s73.2 512))) rfl rfl (by decide) rfl ?_)
         refine RL.opS trivial rfl (OpW.bin (k := .i64) (a := (IntKind.i64.wrap (p1 + 2))) (b := (IntKind.i64.wrap (Int.tdiv s73.2 512))) (v := .int .i64 (IntKind.i64.wrap ((IntKind.i64.wrap (p1 + 2)) + (IntKind.i64.wrap (Int.tdiv s73.2 512))))) rfl rfl rfl ?_)
         refine RL.opS trivial rfl (OpW.callR (al := [.pointer p0, .int .i64 (IntKind.i64.wrap ((IntKind.i64.wrap (p1 + 2)) + (IntKind.i64.wrap (Int.tdiv s73.2 512))))]) Try.func28 fb_28 fn_28 rfl h (fun x83 w84 h => ?_))
         refine RL.opS trivial rfl (OpW.move (v := .tuple #[Sl.v x83.1, .int .i64 x83.2]) rfl ?_)
         refine RL.opS trivial rfl (OpW.extract (v := Sl.v x83.1) rfl rfl ?_)
         refine RL.opS trivial rfl (OpW.extract (v := .int .i64 x83.2) rfl rfl ?_)
         refine RL.opS trivial rfl (OpW.assign (v := Sl.v x83.1) rfl ?_)
         refine RL.opS trivial rfl (OpW.assign (v := .int .i64 x83.2) rfl ?_)
         refine RL.nil ?_
         refine CW.seq ?_
         refine CW.seq ?_
         refine CW.region ?_
         refine RL.opS trivial rfl (OpW.move (v := .int .i64 x83.2) rfl ?_)
         refine RL.opS trivial rfl (OpW.bin (k := .i64) (a := x83.2) (b := 0) (v := .bool (!decide (x83.2 = 0))) rfl rfl rfl ?_)
         refine RL.nil ?_
         obtain ⟨ha, hc⟩ := h
         refine CW.cond (b := (!decide (x83.2 = 0))) rfl (fun hb85 => ?_) (fun hb85 => ?_)
         ·have h := ha hb85; clear ha hc
          refine CW.seq ?_
          refine CW.region ?_
          refine RL.opS trivial rfl (OpW.move (v := .int .i64 x83.2) rfl ?_)
          refine RL.opS trivial rfl (OpW.assign (v := .pointer none) rfl ?_)
          refine RL.opS trivial rfl (OpW.assign (v := Sl.v nilSl) rfl ?_)
          refine RL.opS trivial rfl (OpW.assign (v := .int .i64 x83.2) rfl ?_)
          refine RL.nil ?_
          refine CW.ret ?_
          exact ret_intro (res3 rfl rfl rfl rfl) ⟨(none, nilSl, x83.2), rfl, h⟩
         ·have h := hc hb85; clear ha hc
          refine CW.skip ?_
          refine CW.region ?_
          refine RL.opS trivial rfl (OpW.move (v := Sl.v s73.1) e76 ?_)
          refine RL.opS trivial rfl (OpW.move (v := Sl.v x83.1) rfl ?_)
          obtain ⟨x86, w87, hr_, h⟩ := h
          refine RL.opS trivial rfl (OpW.appendL (v := Sl.v x86) rfl hr_ ?_)
          refine RL.opS trivial rfl (OpW.assign (v := Sl.v x86) rfl ?_)
          refine RL.nil ?_
          refine CW.region ?_
          refine RL.opS trivial rfl (OpW.move (v := .int .i64 s73.2) e77 ?_)
          refine RL.opS trivial rfl (OpW.bin (k := .i64) (a := s73.2) (b := 512) (v := .int .i64 (IntKind.i64.wrap (s73.2 + 512))) rfl rfl rfl ?_)
          refine RL.opS trivial rfl (OpW.assign (v := .int .i64 (IntKind.i64.wrap (s73.2 + 512))) rfl ?_)
          refine RL.nil ?_
          exact ⟨(x86, (IntKind.i64.wrap (s73.2 + 512))), ⟨rfl, rfl, e78, e79, e80, e81⟩, h⟩
        ·have h := hc hb82; clear ha hc
         refine CW.exit ?_
         refine CW.seq ?_
         refine CW.region ?_
         refine RL.opS trivial rfl (OpW.move (v := .pointer (some ⟨b38, 0, none⟩)) e80 ?_)
         refine RL.opS trivial rfl (OpW.move (v := Sl.v s73.1) e76 ?_)
         refine RL.opS trivial rfl (OpW.move (v := .int .i64 s40.1) e81 ?_)
         obtain ⟨⟨h1, h2, h3⟩, h⟩ := h
         refine RL.opS trivial rfl (OpW.sliceSl (l := 0) (h := s40.1) slice_39 rfl rfl ⟨_, rfl⟩ h1 h2 (.inr h3) ?_)
         refine RL.opS trivial rfl (OpW.callR (al := [Sl.v (s73.1.cut 1 0 s40.1 s73.1.cap)]) Try.func49 fb_49 fn_49 rfl h (fun x88 w89 h => ?_))
         refine RL.opS trivial rfl (OpW.nilCheck rfl ?_)
         refine RL.opS trivial rfl (OpW.fieldAddr field_95_4 rfl ?_)
         obtain ⟨u_, h1, h2, h⟩ := h
         obtain ⟨w90, hw90_⟩ : ∃ w_, w_ = w89.setCell (Addr.add ⟨b38, 0, none⟩ 4) (Sl.v x88) := ⟨_, rfl⟩
         have h := h w90 hw90_
         refine RL.opN trivial (OpW.store1E (v := Sl.v x88) size_39 rfl rfl rfl h1 h2 hw90_ ?_)
         refine RL.nil ?_
         refine CW.seq ?_
         refine CW.region ?_
         refine RL.opS trivial rfl (OpW.move (v := .pointer (some ⟨b38, 0, none⟩)) e80 ?_)
         refine RL.opS trivial rfl (OpW.nilCheck rfl ?_)
         refine RL.opS trivial rfl (OpW.fieldAddr field_95_4 rfl ?_)
         obtain ⟨x91, h1, h⟩ := h
         refine RL.opS trivial rfl (OpW.load1 (v := Sl.v x91) one_39 rfl h1 ?_)
         refine RL.opS trivial rfl (OpW.callR (al := [Sl.v x91]) Try.func50 fb_50 fn_50 rfl h (fun x92 w93 h => ?_))
         refine RL.opS trivial rfl (OpW.move (v := .tuple #[Sl.v x92.1, .int .i64 x92.2]) rfl ?_)
         refine RL.opS trivial rfl (OpW.extract (v := Sl.v x92.1) rfl rfl ?_)
         refine RL.opS trivial rfl (OpW.extract (v := .int .i64 x92.2) rfl rfl ?_)
         refine RL.opS trivial rfl (OpW.assign (v := Sl.v x92.1) rfl ?_)
         refine RL.opS trivial rfl (OpW.assign (v := .int .i64 x92.2) rfl ?_)
         refine RL.nil ?_
         refine CW.seq ?_
         refine CW.seq ?_
         refine CW.region ?_
         refine RL.opS trivial rfl (OpW.move (v := .int .i64 x92.2) rfl ?_)
         refine RL.opS trivial rfl (OpW.bin (k := .i64) (a := x92.2) (b := 0) (v := .bool (!decide (x92.2 = 0))) rfl rfl rfl ?_)
         refine RL.nil ?_
         obtain ⟨ha, hc⟩ := h
         refine CW.cond (b := (!decide (x92.2 = 0))) rfl (fun hb94 => ?_) (fun hb94 => ?_)
         ·have h := ha hb94; clear ha hc
          refine CW.seq ?_
          refine CW.region ?_
          refine RL.opS trivial rfl (OpW.move (v := .int .i64 x92.2) rfl ?_)
          refine RL.opS trivial rfl (OpW.assign (v := .pointer none) rfl ?_)
          refine RL.opS trivial rfl (OpW.assign (v := Sl.v nilSl) rfl ?_)
          refine RL.opS trivial rfl (OpW.assign (v := .int .i64 x92.2) rfl ?_)
          refine RL.nil ?_
          refine CW.ret ?_
          exact ret_intro (res3 rfl rfl rfl rfl) ⟨(none, nilSl, x92.2), rfl, h⟩
         ·have h := hc hb94; clear ha hc
          refine CW.skip ?_
          refine CW.seq ?_
          refine CW.region ?_
          refine RL.opS trivial rfl (OpW.move (v := .pointer (some ⟨b38, 0, none⟩)) e80 ?_)
          refine RL.opS trivial rfl (OpW.move (v := Sl.v x92.1) rfl ?_)
          refine RL.opS trivial rfl (OpW.len (s := x92.1) slice_22 rfl ?_)
          refine RL.opS trivial rfl (OpW.nilCheck rfl ?_)
          refine RL.opS trivial rfl (OpW.fieldAddr field_95_5 rfl ?_)
          obtain ⟨u_, h1, h2, h⟩ := h
          obtain ⟨w95, hw95_⟩ : ∃ w_, w_ = w93.setCell (Addr.add ⟨b38, 0, none⟩ 5) (.int .i64 (x92.1.len : Int)) := ⟨_, rfl⟩
          have h := h w95 hw95_
          refine RL.opN trivial (OpW.store1E (v := .int .i64 (x92.1.len : Int)) size_3 rfl rfl rfl h1 h2 hw95_ ?_)
          refine RL.nil ?_
          refine CW.seq ?_
          refine CW.region ?_
          refine RL.opS trivial rfl (OpW.move (v := .pointer (some ⟨b38, 0, none⟩)) e80 ?_)
          refine RL.opS trivial rfl (OpW.move (v := Sl.v x92.1) rfl ?_)
          refine RL.opS trivial rfl (OpW.assign (v := .pointer (some ⟨b38, 0, none⟩)) rfl ?_)
          refine RL.opS trivial rfl (OpW.assign (v := Sl.v x92.1) rfl ?_)
          refine RL.opS trivial rfl (OpW.assign (v := .int .i64 0) rfl ?_)
          refine RL.nil ?_
          refine CW.ret ?_
          exact ret_intro (res3 rfl rfl rfl rfl) ⟨(some ⟨b38, 0, none⟩, x92.1, 0), rfl, h⟩
    ·clear hk101
     dsimp only [List.take]
     obtain ⟨ha, hc⟩ := h
     rcases Bool.eq_false_or_eq_true s21 with hb27 | hb27
     ·have h := ha hb27; clear ha hc
      refine RL.skipS (notWanted_of rfl rfl hb27) rfl ?_
      refine RL.skipS (notWanted_of rfl rfl hb27) rfl ?_
      refine RL.skipS (notWanted_of rfl rfl hb27) rfl ?_
      refine RL.skipS (notWanted_of rfl rfl hb27) rfl ?_
      refine RL.skipS (notWanted_of rfl rfl hb27) rfl ?_
      refine RL.skipS (notWanted_of rfl rfl hb27) rfl ?_
      refine RL.opS trivial rfl (OpW.pick (b := true) (v := .bool true) (congrArg Value.bool hb27) rfl ?_)
      refine RL.nil ?_
      exact ⟨true, ⟨rfl, e24, e25, e26⟩, h⟩
     ·have h := hc hb27; clear ha hc
      refine RL.opS (wanted_of rfl rfl hb27) rfl (OpW.move (v := .int .i64 p1) e25 ?_)
      refine RL.opS (wanted_of rfl rfl hb27) rfl (OpW.move (v := .pointer p0) e24 ?_)
      refine RL.opS (wanted_of rfl rfl hb27) rfl (OpW.callR (al := [.pointer p0]) Try.func39 fb_39 fn_39 rfl h (fun x29 w30 h => ?_))
      refine RL.opS (wanted_of rfl rfl hb27) rfl (OpW.move (v := .int .i64 p2) e26 ?_)
      refine RL.opS (wanted_of rfl rfl hb27) rfl (OpW.bin (k := .i64) (a := x29) (b := p2) (v := .int .i64 (IntKind.i64.wrap (x29 - p2))) rfl rfl rfl ?_)
      refine RL.opS (wanted_of rfl rfl hb27) rfl (OpW.bin (k := .i64) (a := p1) (b := (IntKind.i64.wrap (x29 - p2))) (v := .bool (decide ((IntKind.i64.wrap (x29 - p2)) < p1))) rfl rfl rfl ?_)
      refine RL.opS trivial rfl (OpW.pick (b := false) (v := .bool (decide ((IntKind.i64.wrap (x29 - p2)) < p1))) (congrArg Value.bool hb27) rfl ?_)
      refine RL.nil ?_
      exact ⟨(decide ((IntKind.i64.wrap (x29 - p2)) < p1)), ⟨rfl, e24, e25, e26⟩, h⟩
   ·clear hk103
    dsimp only [List.take]
    obtain ⟨ha, hc⟩ := h
    rcases Bool.eq_false_or_eq_true s11 with hb17 | hb17
    ·have h := ha hb17; clear ha hc
     refine RL.skipS (notWanted_of rfl rfl hb17) rfl ?_
     refine RL.skipS (notWanted_of rfl rfl hb17) rfl ?_
     refine RL.skipS (notWanted_of rfl rfl hb17) rfl ?_
     refine RL.skipS (notWanted_of rfl rfl hb17) rfl ?_
     refine RL.opS trivial rfl (OpW.pick (b := true) (v := .bool true) (congrArg Value.bool hb17) rfl ?_)
     refine RL.nil ?_
     exact ⟨true, ⟨rfl, e14, e15, e16⟩, h⟩
    ·have h := hc hb17; clear ha hc
     refine RL.opS (wanted_of rfl rfl hb17) rfl (OpW.move (v := .int .i64 p2) e16 ?_)
     refine RL.opS (wanted_of rfl rfl hb17) rfl (OpW.move (v := .pointer p0) e14 ?_)
     refine RL.opS (wanted_of rfl rfl hb17) rfl (OpW.callR (al := [.pointer p0]) Try.func39 fb_39 fn_39 rfl h (fun x19 w20 h => ?_))
     refine RL.opS (wanted_of rfl rfl hb17) rfl (OpW.bin (k := .i64) (a := p2) (b := x19) (v := .bool (decide (x19 < p2))) rfl rfl rfl ?_)
     refine RL.opS trivial rfl (OpW.pick (b := false) (v := .bool (decide (x19 < p2))) (congrArg Value.bool hb17) rfl ?_)
     refine RL.nil ?_
     exact ⟨(decide (x19 < p2)), ⟨rfl, e14, e15, e16⟩, h⟩
  ·clear hk105
   dsimp only [List.take]
   obtain ⟨ha, hc⟩ := h
   rcases Bool.eq_false_or_eq_true s3 with hb9 | hb9
   ·have h := ha hb9; clear ha hc
    refine RL.skipS (notWanted_of rfl rfl hb9) rfl ?_
    refine RL.skipS (notWanted_of rfl rfl hb9) rfl ?_
    refine RL.opS trivial rfl (OpW.pick (b := true) (v := .bool true) (congrArg Value.bool hb9) rfl ?_)
    refine RL.nil ?_
    exact ⟨true, ⟨rfl, e6, e7, e8⟩, h⟩
   ·have h := hc hb9; clear ha hc
    refine RL.opS (wanted_of rfl rfl hb9) rfl (OpW.move (v := .int .i64 p2) e8 ?_)
    refine RL.opS (wanted_of rfl rfl hb9) rfl (OpW.bin (k := .i64) (a := p2) (b := 3) (v := .bool (decide (p2 < 3))) rfl rfl rfl ?_)
    refine RL.opS trivial rfl (OpW.pick (b := false) (v := .bool (decide (p2 < 3))) (congrArg Value.bool hb9) rfl ?_)
    refine RL.nil ?_
    exact ⟨(decide (p2 < 3)), ⟨rfl, e6, e7, e8⟩, h⟩
 ·clear hk107
  dsimp only [List.take]
  obtain ⟨ha, hc⟩ := h
  rcases Bool.eq_false_or_eq_true (p0.isNone) with hb1 | hb1
  ·have h := ha hb1; clear ha hc
   refine RL.skipS (notWanted_of rfl rfl hb1) rfl ?_
   refine RL.skipS (notWanted_of rfl rfl hb1) rfl ?_
   refine RL.opS trivial rfl (OpW.pick (b := true) (v := .bool true) (congrArg Value.bool hb1) rfl ?_)
   refine RL.nil ?_
   exact ⟨true, ⟨rfl, rfl, rfl, rfl⟩, h⟩
  ·have h := hc hb1; clear ha hc
   refine RL.opS (wanted_of rfl rfl hb1) rfl (OpW.move (v := .int .i64 p1) rfl ?_)
   refine RL.opS (wanted_of rfl rfl hb1) rfl (OpW.bin (k := .i64) (a := p1) (b := 0) (v := .bool (decide (p1 < 0))) rfl rfl rfl ?_)
   refine RL.opS trivial rfl (OpW.pick (b := false) (v := .bool (decide (p1 < 0))) (congrArg Value.bool hb1) rfl ?_)
   refine RL.nil ?_
   exact ⟨(decide (p1 < 0)), ⟨rfl, rfl, rfl, rfl⟩, h⟩
end Go.Proofs.Ytagkcbbbdlmcjaa
end
section
/- A journal is found on a part of a disk, or laid there. -/
namespace Go.Proofs.Ytagkcbbbdlmcjaa
open Go.Lift Go.Lift.Disk Go.Lift.Crc Go.Lift.Wal Go.RowKit
theorem read_up2 {w : World} {base : Nat → Prop} {pd bb : Nat} {D : Dk} (h : DAt w base pd bb D) (hd : D.down = false) {i : Nat} (hi : i < D.bl.length) :
  Calls Try.prog 28 #[.pointer (dp pd), .int .i64 (i : Int)] w (Ret r28 fun x w' => Ext w w' ∧ x.2 = 0 ∧ x.1.len ≤ x.1.cap ∧ Bytes w' x.1 (nowAt D i) ∧ (nowAt D i).length = 512) := by
 have hwhy : D.why (i : Int) = 0 := by
  unfold Dk.why
  rw [if_neg (by rw [hd]; simp), if_neg (by omega)]
 refine Ret.mono (read_ok h (i : Int)) ?_
 rintro x w' ⟨hx, hr⟩
 rcases hr with ⟨hr, _⟩ | ⟨_, hr1, hr2⟩
 ·exact absurd hwhy hr
 ·rw [Int.toNat_natCast] at hr2
  exact ⟨hx, hr1, hr2.cap, hr2.bytes, (bAt_len h.wf.bl hi).1⟩
theorem right_le (b : List UInt8) (room : Nat) : (right b room).1 ≤ last ∧ (right b room).2 ≤ room := by
 unfold right
 simp only
 split
 ·rename_i h; exact ⟨h.2.2.2.1, h.2.2.2.2⟩
 ·exact ⟨Nat.zero_le _, Nat.zero_le _⟩
theorem headStep_le {D : Dk} {frm room : Nat} {s : Nat × Nat} {i : Nat} (h : s.1 ≤ last ∧ s.2 ≤ room) : (headStep D frm room s i).1 ≤ last ∧ (headStep D frm room s i).2 ≤ room := by
 unfold headStep
 split
 ·exact right_le _ _
 ·exact h
def heads (D : Dk) (frm room : Nat) : Nat → Nat × Nat
 | 0 => (0, 0)
 | i + 1 => headStep D frm room (heads D frm room i) i
theorem heads_le (D : Dk) (frm room : Nat) : ∀ i, (heads D frm room i).1 ≤ last ∧ (heads D frm room i).2 ≤ room
 | 0 => ⟨Nat.zero_le _, Nat.zero_le _⟩
 | i + 1 => headStep_le (heads_le D frm room i)
theorem heads_two (D : Dk) (frm room : Nat) : heads D frm room 2 = headOf D frm room := rfl
theorem parseF_count : ∀ (f : Nat) (b : List UInt8) (out : List (List UInt8)), (parseF f b out).1.length ≤ out.length + b.length
 | 0, b, out => by show out.length ≤ _; omega
 | f + 1, b, out => by
  rw [parseF]
  split
  ·show out.length ≤ _; omega
  ·split
   ·show 0 ≤ _; omega
   ·rename_i n rest h
    have := takeNum_len h
    split
    ·show 0 ≤ _; omega
    ·split
     ·have h2 := parseF_count f (rest.drop (4 + n)) (out ++ [sliceB rest 4 (4 + n)])
      rw [List.length_append, List.length_singleton, List.length_drop] at h2
      omega
     ·show 0 ≤ _; omega
theorem parse_count (b : List UInt8) : (parse b).1.length ≤ b.length := by
 have := parseF_count b.length b []
 simpa [parse] using this
theorem blocksOf_succ (D : Dk) (frm k : Nat) : blocksOf D frm (k + 1) = blocksOf D frm k ++ nowAt D (frm + 2 + k) := by
 unfold blocksOf
 rw [List.range_succ, List.flatMap_append]
 simp
/-- what an opening answers -/
def OpenR (w w' : World) (lo : Nat → Prop) (pd bb frm room : Nat) (x : Option Addr × Sl × Int) : Dk × Opened → Prop
 | (D', .fails e) => x = (none, nilSl, e) ∧ DAt w' lo pd bb D' ∧ Fr (Foot pd bb) w w'
 | (D', .is L rs) => ∃ pl, x.1 = lp pl ∧ w.heap.size ≤ pl ∧ x.2.2 = 0 ∧ OwnParts w' w.heap.size x.2.1 rs ∧ WAt w' lo pd bb pl frm room D' L ∧ Fr (Foot pd bb) w w'
theorem open_bad (w : World) (p0 : Option Addr) (frm blocks : Int) (h : p0 = none ∨ frm < 0 ∨ blocks < 3) : Calls Try.prog 16 #[.pointer p0, .int .i64 frm, .int .i64 blocks] w (Ret r16 fun x w' => x = (none, nilSl, 1) ∧ w = w') := by
 apply s16_calls
 refine jn_of fun k1 hk1 => ?_
 have key1 : ∀ q : Bool, (q = false → ¬ (p0 = none ∨ frm < 0)) → k1 q w := by
  intro q hq
  rw [hk1]
  refine jn_of fun k2 hk2 => ?_
  have key2 : ∀ q : Bool, (q = false → ¬ ((p0 = none ∨ frm < 0) ∨ blocks < 3)) → k2 q w := by
   intro q hq
   cases q with
   | false => exact absurd (h.elim (fun h => .inl (.inl h)) fun h => h.elim (fun h => .inl (.inr h)) .inr) (hq rfl)
   | true =>
    rw [hk2]
    refine jn_of fun k3 hk3 => ⟨fun _ => ?_, fun h => absurd h (by simp)⟩
    rw [hk3]
    refine jn_of fun k4 hk4 => ⟨fun _ => ?_, fun h => absurd h (by simp)⟩
    rw [hk4]
    exact ⟨fun _ => ⟨rfl, rfl⟩, fun h => absurd h (by simp)⟩
  refine ⟨fun _ => key2 true fun h => absurd h (by simp), fun hf => key2 _ fun hd => ?_⟩
  have hd := of_decide_eq_false hd
  rintro (hh | hh)
  ·exact hq hf hh
  ·exact hd hh
 refine ⟨fun _ => key1 true fun h => absurd h (by simp), fun hf => key1 _ fun hd => ?_⟩
 have hd := of_decide_eq_false hd
 rintro (hh | hh)
 ·rw [hh] at hf; cases hf
 ·exact hd hh
section
variable {w : World} {lo : Nat → Prop} {pd bb : Nat} {D : Dk}
theorem open_out (h : DAt w lo pd bb D) (frm blocks : Int) (h0 : 0 ≤ frm) (h3 : 3 ≤ blocks) (hb63 : blocks ≤ 9223372036854775807) (hbad : (D.bl.length : Int) < blocks ∨ (D.bl.length : Int) - blocks < frm) :
  Calls Try.prog 16 #[.pointer (dp pd), .int .i64 frm, .int .i64 blocks] w (Ret r16 fun x w' => x = (none, nilSl, 1) ∧ w = w') := by
 apply s16_calls
 have hfew := h.wf.few
 refine jn_of fun k1 hk1 => ⟨fun h => absurd h (by simp), fun _ => ?_⟩
 rw [decide_eq_false (show ¬ frm < 0 by omega), hk1]
 refine jn_of fun k2 hk2 => ⟨fun h => absurd h (by simp), fun _ => ?_⟩
 rw [decide_eq_false (show ¬ blocks < 3 by omega), hk2]
 refine jn_of fun k3 hk3 => ⟨fun h => absurd h (by simp), fun _ => ?_⟩
 refine cR_of (blocks_ok h) ?_
 rintro x w' ⟨rfl, rfl⟩
 rw [hk3]
 refine jn_of fun k4 hk4 => ?_
 have fin : k4 true w := by
  rw [hk4]
  exact ⟨fun _ => ⟨rfl, rfl⟩, fun h => absurd h (by simp)⟩
 refine ⟨fun _ => fin, fun hno => ?_⟩
 have hno := of_decide_eq_false hno
 refine cR_of (blocks_ok h) ?_
 rintro x w' ⟨rfl, rfl⟩
 rw [w64_eq (by omega) (by omega), decide_eq_true (show (D.bl.length : Int) - blocks < frm by omega)]
 exact fin
theorem open_ok (h : DAt w lo pd bb D) (hlo : ∀ k, w.heap.size ≤ k → lo k) (frm blocks : Nat) (h3 : 3 ≤ blocks) (hfit : frm + blocks ≤ D.bl.length) (hbd : Bnd D 2) :
  Calls Try.prog 16 #[.pointer (dp pd), .int .i64 (frm : Int), .int .i64 (blocks : Int)] w (Ret r16 fun x w' => OpenR w w' lo pd bb frm (roomOf blocks) x (openD D frm (roomOf blocks))) := by
 apply s16_calls
 have hfew := h.wf.few
 obtain ⟨hpd, hbb, hpdl, hbbl⟩ := h.lt
 refine jn_of fun k1 hk1 => ⟨fun h => absurd h (by simp), fun _ => ?_⟩
 rw [decide_eq_false (show ¬ (frm : Int) < 0 by omega), hk1]
 refine jn_of fun k2 hk2 => ⟨fun h => absurd h (by simp), fun _ => ?_⟩
 rw [decide_eq_false (show ¬ (blocks : Int) < 3 by omega), hk2]
 refine jn_of fun k3 hk3 => ⟨fun h => absurd h (by simp), fun _ => ?_⟩
 refine cR_of (blocks_ok h) ?_
 rintro x w' ⟨rfl, rfl⟩
 rw [decide_eq_false (show ¬ (D.bl.length : Int) < (blocks : Int) by omega), hk3]
 refine jn_of fun k4 hk4 => ⟨fun h => absurd h (by simp), fun _ => ?_⟩
 refine cR_of (blocks_ok h) ?_
 rintro x w' ⟨rfl, rfl⟩
 rw [w64_eq (x := (D.bl.length : Int) - (blocks : Int)) (by omega) (by omega), decide_eq_false (show ¬ (D.bl.length : Int) - (blocks : Int) < (frm : Int) by omega), hk4]
 refine ⟨fun h => absurd h (by simp), fun _ => ?_⟩
 intro b38 w39 hb38 hw39
 have er : IntKind.i64.wrap (IntKind.i64.wrap ((blocks : Int) - 2) * 512) = ((roomOf blocks : Nat) : Int) := by
  rw [w64_eq (x := (blocks : Int) - 2) (by omega) (by omega), w64_eq (by omega) (by omega)]
  show _ = (((blocks - 2) * 512 : Nat) : Int)
  omega
 rw [er] at hw39
 obtain ⟨room, hroom⟩ : ∃ r, r = roomOf blocks := ⟨_, rfl⟩
 have hrl : room ≤ 2097152 ∧ room + 1024 = blocks * 512 := by rw [hroom]; unfold roomOf; omega
 rw [← hroom] at hw39 ⊢
 have hx39 : Ext w w39 := Ext.new hw39
 have hB39 : Blk w39 b38 95 (logC pd frm room 0 nilSl 0 false) := Blk.new hb38 hw39
 have hb38l := hB39.lt
 have h39 : DAt w39 (fun k => lo k ∧ k ≠ b38) pd bb D := (h.mono (base' := fun k => lo k ∧ k ≠ b38) fun k hk hu => ⟨hu, by omega⟩).ext hx39
 have hBn : ∀ {w' : World}, w39.heap.size ≤ w'.heap.size → ∀ k, w'.heap.size ≤ k → (lo k ∧ k ≠ b38) := fun hw k hk => ⟨hlo k (Nat.le_trans hx39.size (Nat.le_trans hw hk)), by omega⟩
 have hxf : ∀ {a b : World}, Fr (· = b38) a b → Ext w a → Ext w b := fun hf ha => hf.ext ha fun k _ e => by rw [e, hb38]; exact Nat.le_refl _
 -- the heads
 refine ⟨fun st w' => ∃ i : Nat, i ≤ 2 ∧ st.2 = (i : Int) ∧ st.1 = ((heads D frm room i).2 : Int) ∧ (i = 0 ∨ D.down = false) ∧ DAt w' (fun k => lo k ∧ k ≠ b38) pd bb D ∧ Blk w' b38 95 (logC pd frm room (heads D frm room i).1 nilSl 0 false) ∧ Ext w w' ∧ w39.heap.size ≤ w'.heap.size,
  fun st _ => 2 - st.2.toNat, ⟨0, by omega, rfl, rfl, .inl rfl, h39, hB39, hx39, Nat.le_refl _⟩, ?_⟩
 rintro ⟨n, i⟩ w41 ⟨i, hi, rfl, rfl, hdn, h41, hB41, hx41, hs41⟩
 refine ⟨fun hlt => ?_, fun hge => ?_⟩
 ·have hlt : i < 2 := by have := of_decide_eq_true hlt; simp only at this; omega
  refine jn_of fun k5 hk5 => ?_
  have ei : IntKind.i64.wrap ((frm : Int) + (i : Int)) = ((frm + i : Nat) : Int) := by rw [w64_eq (by omega) (by omega)]; omega
  simp only
  rw [ei]
  by_cases hd : D.down = true
  ·refine cR_of (read_ok h41 ((frm + i : Nat) : Int)) ?_
   rintro ⟨y, e⟩ w51 ⟨hx51, hr⟩
   have hwhy : D.why ((frm + i : Nat) : Int) = 6 := by unfold Dk.why; rw [if_pos hd]
   rw [hwhy] at hr
   rcases hr with ⟨_, hr⟩ | ⟨hr, _⟩
   ·cases hr
    refine ⟨fun _ => ?_, fun h => absurd h (by simp)⟩
    unfold openD
    rw [if_pos hd]
    exact ⟨rfl, (h41.mono fun k _ hk => hk.1).ext hx51, Fr.of (hx41.trans hx51)⟩
   ·cases hr
  have hd : D.down = false := by simpa using hd
  refine cR_of (read_up2 h41 hd (i := frm + i) (by omega)) ?_
  rintro x50 w51 ⟨hx51, he, hc50, hb50, hl50⟩
  rw [he]
  refine ⟨fun h => absurd h (by simp), fun _ => ?_⟩
  have hB51 := hB41.ext hx51
  refine ⟨(room : Int), by rw [add_plain]; exact hB51.cell rfl, ?_⟩
  refine cR_of (right_ok w51 x50.1 _ hb50 hc50 hl50 room (by omega)) ?_
  rintro x54 w55 ⟨rfl, hx55⟩
  have hB55 := hB51.ext hx55
  have hxx := hx51.trans hx55
  refine ⟨((heads D frm room i).1 : Int), by rw [add_plain]; exact hB55.cell rfl, ?_⟩
  have e1 : IntKind.i64.wrap ((i : Int) + 1) = ((i + 1 : Nat) : Int) := by rw [w64_eq (by omega) (by omega)]; omega
  have hsz : w39.heap.size ≤ w55.heap.size := Nat.le_trans hs41 hxx.size
  refine ⟨fun hlt2 => ?_, fun hge2 => ?_⟩
  ·have hlt2 : (heads D frm room i).1 < (right (nowAt D (frm + i)) room).1 := by have := of_decide_eq_true hlt2; simp only at this; omega
   show st1 _ _ _ _
   rw [add_plain]
   refine st1_blk hB55 (by simp) fun w58 hB58 hf58 => ?_
   rw [hk5]
   simp only
   rw [e1]
   have eh : heads D frm room (i + 1) = right (nowAt D (frm + i)) room := by rw [heads, headStep, if_pos hlt2]
   refine ⟨⟨i + 1, by omega, rfl, by rw [eh], .inr hd, (h41.ext hxx).fr hf58 fun k hk e => hk.2 e, by rw [eh]; exact hB58, hxf hf58 (hx41.trans hxx), Nat.le_trans hsz hf58.size⟩, by omega⟩
  ·have hge2 : ¬ (heads D frm room i).1 < (right (nowAt D (frm + i)) room).1 := by have := of_decide_eq_false hge2; simp only at this; omega
   rw [hk5]
   simp only
   rw [e1]
   have eh : heads D frm room (i + 1) = heads D frm room i := by rw [heads, headStep, if_neg hge2]
   refine ⟨⟨i + 1, by omega, rfl, by rw [eh], .inr hd, h41.ext hxx, by rw [eh]; exact hB55, hx41.trans hxx, hsz⟩, by omega⟩
 ·have hge : i = 2 := by have := of_decide_eq_false hge; simp only at this; omega
  subst hge
  have hd : D.down = false := hdn.resolve_left (by decide)
  have hle := heads_le D frm room 2
  unfold openD
  rw [if_neg (by rw [hd]; simp), ← heads_two]
  obtain ⟨sq, hsq⟩ : ∃ s, s = (heads D frm room 2).1 := ⟨_, rfl⟩
  obtain ⟨n, hn⟩ : ∃ s, s = (heads D frm room 2).2 := ⟨_, rfl⟩
  rw [← hsq] at hB41 hle
  rw [← hn] at hle
  simp only [← hsq, ← hn]
  have hb38n : ¬ Foot pd bb b38 := by rintro (e | e) <;> omega
  refine ⟨(sq : Int), by rw [add_plain]; exact hB41.cell rfl, ?_⟩
  refine ⟨fun h0 => ?_, fun hne => ?_⟩
  ·have h0 : sq = 0 := by have := of_decide_eq_true h0; omega
   rw [if_pos h0]
   refine cR_of (head_ok h41 (fun hk => hk.2 rfl) hB41 (hBn hs41) hbd (by omega) 1 0 (by decide) (by decide)) ?_
   rintro x70 w71 ⟨rfl, h71, hl71, hf71⟩
   have hF : Fr (Foot pd bb) w w71 := by
    refine ⟨hf71.os.trans hx41.os, hf71.tape.trans hx41.tape, hf71.output.trans hx41.output, Nat.le_trans hx41.size hf71.size, fun k hk hx => ?_⟩
    refine (hf71.block k (Nat.lt_of_lt_of_le hk hx41.size) ?_).trans (hx41.block k hk)
    rintro (e | e)
    ·exact hx e
    ·omega
   refine ⟨fun hne => ?_, fun he => ?_⟩
   ·have hne := nd_t hne
    rw [if_neg hne]
    exact ⟨rfl, h71.mono fun k _ hk => hk.1, hF⟩
   ·have he := nd_f he
    rw [if_pos he]
    rw [if_pos he, decide_eq_false (by rw [he]; simp)] at hl71
    refine ⟨b38, rfl, by rw [hb38]; exact Nat.le_refl _, rfl, OwnParts.nil _ _, ?_, hF⟩
    refine ⟨b38, nilSl, h71.mono fun k _ hk => ⟨hk, hk.2⟩, hl71, ⟨rfl, rfl⟩, Nat.le_refl _, fun _ => ⟨rfl, rfl⟩, (fun a ha => by cases ha), hl71.lt, hlo _ (by rw [hb38]; exact Nat.le_refl _), ⟨by omega, hrl.1, by show 1 ≤ last; decide, Nat.zero_le _, Nat.le_refl _⟩⟩
  ·have hne : sq ≠ 0 := by have := of_decide_eq_false hne; omega
   rw [if_neg hne]
   -- the bytes
   refine ⟨fun st w' => ∃ k : Nat, k ≤ (n + 511) / 512 ∧ st.2 = ((512 * k : Nat) : Int) ∧ Own w' w41.heap.size 5 1 st.1 (u8s (blocksOf D frm k)) ∧ (blocksOf D frm k).length = 512 * k ∧ Ext w41 w',
    fun st _ => n - st.2.toNat, ⟨0, Nat.zero_le _, rfl, Own.nil _ _ _ _, rfl, Ext.refl _⟩, ?_⟩
   rintro ⟨s, j⟩ w74 ⟨k, hk, rfl, ho, hbl, hx74⟩
   simp only at ho ⊢
   have h74 := h41.ext hx74
   have hol := ho.length
   rw [u8s_length, hbl] at hol
   refine ⟨fun hlt => ?_, fun hge => ?_⟩
   ·have hlt : 512 * k < n := by have := of_decide_eq_true hlt; omega
    have ei : IntKind.i64.wrap (IntKind.i64.wrap ((frm : Int) + 2) + IntKind.i64.wrap (Int.tdiv ((512 * k : Nat) : Int) 512)) = ((frm + 2 + k : Nat) : Int) := by
     rw [w64_eq (x := (frm : Int) + 2) (by omega) (by omega), Int.tdiv_eq_ediv_of_nonneg (by omega), w64_eq (x := ((512 * k : Nat) : Int) / 512) (by omega) (by omega), w64_eq (by omega) (by omega)]; omega
    rw [ei]
    refine cR_of (read_up2 h74 hd (i := frm + 2 + k) (by omega)) ?_
    rintro x83 w84 ⟨hx84, he, hc83, hb83, hl83⟩
    rw [he]
    refine ⟨fun h => absurd h (by simp), fun _ => ?_⟩
    have hb83l := hb83.1
    refine app_ok (base := w41.heap.size) mk_39 rfl (by decide) (ho.ext hx84) (news := u8s (nowAt D (frm + 2 + k))) (by rw [u8s_length]; omega) hb83.2 (u8s_one _) (by simp only [maxLen]; omega) (by first | omega | (simp only; omega)) (hx74.trans hx84).size ?_
    intro s' w' hl' ho' _ hB'
    have e1 : IntKind.i64.wrap (((512 * k : Nat) : Int) + 512) = ((512 * (k + 1) : Nat) : Int) := by rw [w64_eq (by omega) (by omega)]; omega
    rw [e1]
    refine ⟨⟨k + 1, by omega, rfl, by rw [blocksOf_succ, u8s_append]; exact ho', by rw [blocksOf_succ, List.length_append, hbl, hl83]; omega, hB' _ _ (hx74.trans hx84) (Nat.le_refl _) (hx74.trans hx84).size⟩, by omega⟩
   ·have hge : n ≤ 512 * k := by have := of_decide_eq_false hge; omega
    have hkk : k = (n + 511) / 512 := by omega
    have hda : dataOf D frm n = (blocksOf D frm k).take n := by unfold dataOf; rw [← hkk]
    have hcap := ho.cap
    refine ⟨⟨by omega, by omega, by omega⟩, ?_⟩
    have hcut : Bytes w74 (s.cut 1 ((0 : Nat) : Int) (n : Int) (s.cap : Int)) (((blocksOf D frm k).take n).drop 0) := ho.bytes.cut (Nat.zero_le _) (by omega) (by omega)
    rw [List.drop_zero, ← hda] at hcut
    have hcut0 : Bytes w74 (s.cut 1 0 (n : Int) (s.cap : Int)) (dataOf D frm n) := hcut
    have hdl : (dataOf D frm n).length = n := by rw [hcut.1]; show (n : Int).toNat - 0 = n; omega
    refine cR_of (clip8_ok w74 (s.cut 1 0 (n : Int) (s.cap : Int)) (by show (n : Int).toNat - (0 : Int).toNat ≤ (s.cap : Int).toNat - (0 : Int).toNat; omega)) ?_
    rintro x88 w89 ⟨hx88, rfl⟩
    have hB74 := hB41.ext hx74
    have h88l : x88.len = n := by rw [hx88]; show (n : Int).toNat - 0 = n; omega
    have h88c : x88.cap = x88.len := by rw [hx88]
    have h88a : x88.a = (s.cut 1 0 (n : Int) (s.cap : Int)).a := by rw [hx88]
    have h88b : Bytes w74 x88 (dataOf D frm n) := ⟨by rw [hdl, h88l], by rw [h88a]; exact hcut0.2⟩
    have h88n : x88.a = none → x88.len = 0 := by
     intro hn0
     have := h88b.2
     rw [hn0] at this
     have h5 : u8s (dataOf D frm n) = [] := this
     have := congrArg List.length h5
     rw [u8s_length, hdl] at this
     rw [h88l]; exact this
    -- where it lies
    have h88f : ∀ a, x88.a = some a → w41.heap.size ≤ a.block ∧ a.block < w74.heap.size := by
     intro a ha
     rw [h88a] at ha
     have hsa : ∀ a', s.a = some a' → w41.heap.size ≤ a'.block ∧ a'.block < w74.heap.size := by
      intro a' ha'
      refine World.ownsRow.lt ho a'.block ?_
      obtain ⟨sa, sl, sc⟩ := s
      simp only at ha'
      subst ha'
      rfl
     unfold Sl.cut at ha
     simp only at ha
     split at ha
     ·exact hsa a ha
     ·cases hss : s.a with
      | none => rw [hss] at ha; cases ha
      | some a' =>
       rw [hss] at ha
       simp only [Option.map_some, Option.some.injEq] at ha
       rw [← ha, add_block]
       exact hsa a' hss
    obtain ⟨g, hg1, hg2, hg3⟩ : ∃ g, (∀ a, x88.a = some a → a.block = g ∧ g ≠ b38 ∧ lo g) ∧ g < w74.heap.size ∧ (g = b38 ∨ w41.heap.size ≤ g) := by
     cases hxa : x88.a with
     | none => exact ⟨b38, (fun a ha => by cases ha), hB74.lt, .inl rfl⟩
     | some a =>
      obtain ⟨q1, q2⟩ := h88f a hxa
      refine ⟨a.block, (fun a' ha' => by cases ha'; exact ⟨rfl, by omega, hlo _ (Nat.le_trans hx41.size q1)⟩), q2, .inr q1⟩
    show st1 _ _ _ _
    rw [add_plain]
    refine st1_blk hB74 (by simp) fun w90 hB90 hf90 => ?_
    have h90 : DAt w90 (fun k => (lo k ∧ k ≠ b38) ∧ k ≠ g) pd bb D := by
     refine ((h41.mono (base' := fun k => (lo k ∧ k ≠ b38) ∧ k ≠ g) fun k hk hu => ⟨hu, ?_⟩).ext hx74).fr hf90 fun k hk e => hk.1.2 e
     rcases hg3 with e | e
     ·rw [e]; exact hu.2
     ·omega
    have hb90 : Bytes w90 x88 (dataOf D frm n) := hf90.bytes (fun a ha e => by
     have e : a.block = b38 := e
     obtain ⟨q1, q2, _⟩ := hg1 a ha
     omega) h88b
    have hx90 := hxf hf90 (hx41.trans hx74)
    refine ⟨x88, hB90.cell rfl, ?_⟩
    refine cR_of (parse_ok w90 x88 _ hb90 (by omega) (fun hn0 => ⟨h88n hn0, by rw [h88c]; exact h88n hn0⟩) (by omega)) ?_
    rintro ⟨rs, e⟩ w93 ⟨he, hrs, hx93⟩
    simp only at he hrs
    subst he
    have hx93' := hx90.trans hx93
    refine ⟨fun hne => ?_, fun h0 => ?_⟩
    ·have hne := nd_t hne
     rw [if_neg hne]
     exact ⟨rfl, ((h90.mono fun k _ hk => hk.1.1).ext hx93), Fr.of hx93'⟩
    ·have h0 := nd_f h0
     rw [if_pos h0]
     have hB93 := hB90.ext hx93
     show st1 _ _ _ _
     rw [add_plain]
     refine st1_blk hB93 (by simp) fun w95 hB95 hf95 => ?_
     have hrl2 := hrs.len
     have hx95 := hxf hf95 hx93'
     rw [hrl2] at hB95
     refine ⟨b38, rfl, by rw [hb38]; exact Nat.le_refl _, rfl, ?_, ?_, Fr.of hx95⟩
     ·obtain ⟨ss, q1, q2, q3⟩ := hrs
      have far : ∀ {e : TypeId} {q : Sl} {ys : List Value}, Own w93 w90.heap.size e 1 q ys → Own w95 w.heap.size e 1 q ys := by
       intro e q ys hq
       refine Own.lower (hf95.own (fun b hb e => ?_) hq) hx90.size
       have e : b.block = b38 := e
       have := (World.ownsRow.lt hq b.block (by obtain ⟨sa, sl, sc⟩ := q; simp only at hb; subst hb; rfl)).1
       have := hB90.lt
       omega
      exact ⟨ss, q1, far q2, fun k s b hs hb => far (q3 k s b hs hb)⟩
     ·refine ⟨g, x88, (h90.ext hx93).fr hf95 fun k hk e => hk.1.2 e, hB95, ?_, by omega, (fun hn0 => ⟨h88n hn0, by rw [h88c]; exact h88n hn0⟩), hg1, ?_, hlo _ (by rw [hb38]; exact Nat.le_refl _), ⟨by omega, hrl.1, hle.1, by show (dataOf D frm n).length ≤ room; omega, parse_count _⟩⟩
      ·refine hf95.bytes (fun a ha e => ?_) (hb90.ext hx93)
       have e : a.block = b38 := e
       obtain ⟨q1, q2, _⟩ := hg1 a ha
       omega
      ·have := hf90.size; have := hx93.size; have := hf95.size
       omega
end
end Go.Proofs.Ytagkcbbbdlmcjaa
end
section
/- The typed readings of the functions, and that the program meets each: written by gen.py (a program of this session). -/
namespace Go.Proofs.Ytagkcbbbdlmcjaa
open Go.Lift
set_option maxRecDepth 100000 in
set_option maxHeartbeats 4000000 in
theorem s13_calls (K : Bool → World → Prop)  (w : World) (h : s13 K  w) :
  Calls Try.prog 13 #[] w (Ret r13 K) := by
 unfold s13 at h
 refine calls_of_CW (n := 72) Try.func13 rfl rfl rfl ?_
 refine CW.seq ?_
 refine CW.region ?_
 refine RL.opS trivial rfl (OpW.assign (v := .bool false) rfl ?_)
 refine RL.nil ?_
 refine CW.seq ?_
 refine CW.region ?_
 refine RL.opS trivial rfl (OpW.callR (al := [.int .i64 4]) Try.func15 fb_15 fn_15 rfl h (fun x1 w2 h => ?_))
 refine RL.opS trivial rfl (OpW.move (v := .tuple #[.pointer x1.1, .int .i64 x1.2]) rfl ?_)
 refine RL.opS trivial rfl (OpW.extract (v := .pointer x1.1) rfl rfl ?_)
 refine RL.opS trivial rfl (OpW.extract (v := .int .i64 x1.2) rfl rfl ?_)
 refine RL.opS trivial rfl (OpW.assign (v := .pointer x1.1) rfl ?_)
 refine RL.opS trivial rfl (OpW.assign (v := .int .i64 x1.2) rfl ?_)
 refine RL.nil ?_
 refine CW.seq ?_
 refine CW.region ?_
 refine RL.opS trivial rfl (OpW.move (v := .pointer x1.1) rfl ?_)
 refine RL.opS trivial rfl (OpW.callR (al := [.pointer x1.1, .int .i64 1, .int .i64 3]) Try.func16 fb_16 fn_16 rfl h (fun x3 w4 h => ?_))
 refine RL.opS trivial rfl (OpW.move (v := .tuple #[.pointer x3.1, Sl.v x3.2.1, .int .i64 x3.2.2]) rfl ?_)
 refine RL.opS trivial rfl (OpW.extract (v := .pointer x3.1) rfl rfl ?_)
 refine RL.opS trivial rfl (OpW.extract (v := Sl.v x3.2.1) rfl rfl ?_)
 refine RL.opS trivial rfl (OpW.extract (v := .int .i64 x3.2.2) rfl rfl ?_)
 refine RL.opS trivial rfl (OpW.assign (v := .pointer x3.1) rfl ?_)
 refine RL.opS trivial rfl (OpW.assign (v := Sl.v x3.2.1) rfl ?_)
 refine RL.opS trivial rfl (OpW.assign (v := .int .i64 x3.2.2) rfl ?_)
 refine RL.nil ?_
 refine CW.seq ?_
 refine CW.seq ?_
 refine CW.region ?_
 refine RL.opS trivial rfl (OpW.move (v := .pointer x3.1) rfl ?_)
 refine RL.opS trivial rfl (OpW.ptrNil (b := x3.1.isNone) (p := x3.1) ptr_35 rfl rfl rfl ?_)
 refine RL.opS trivial rfl (OpW.move (v := .bool (x3.1.isNone)) rfl ?_)
 refine jn_elim h ?_; clear h; intro k93 hk94 h
 refine RL.joinAt (A := Bool) 4 (fun s7 ρ => ρ 22 = .bool s7 ∧ ρ 1 = .pointer x1.1 ∧ ρ 3 = .pointer x3.1 ∧ ρ 5 = .int .i64 x3.2.2) k93 ?_ ?_
 ·rintro s7 ρ w8 ⟨e9, e10, e11, e12⟩ h
  subst hk94
  dsimp only [List.drop]
  refine RL.opS trivial rfl (OpW.move (v := .bool s7) e9 ?_)
  refine jn_elim h ?_; clear h; intro k91 hk92 h
  refine RL.joinAt (A := Bool) 3 (fun s15 ρ => ρ 26 = .bool s15 ∧ ρ 1 = .pointer x1.1 ∧ ρ 3 = .pointer x3.1) k91 ?_ ?_
  ·rintro s15 ρ w16 ⟨e17, e18, e19⟩ h
   subst hk92
   dsimp only [List.drop]
   refine RL.opS trivial rfl (OpW.move (v := .bool s15) e17 ?_)
   refine jn_elim h ?_; clear h; intro k89 hk90 h
   refine RL.joinAt (A := Bool) 7 (fun s29 ρ => ρ 34 = .bool s29 ∧ ρ 1 = .pointer x1.1 ∧ ρ 3 = .pointer x3.1) k89 ?_ ?_
   ·rintro s29 ρ w30 ⟨e31, e32, e33⟩ h
    subst hk90
    dsimp only [List.drop]
    refine RL.nil ?_
    obtain ⟨ha, hc⟩ := h
    refine CW.cond (b := s29) e31 (fun hb34 => ?_) (fun hb34 => ?_)
    ·have h := ha hb34; clear ha hc
     refine CW.seq ?_
     refine CW.region ?_
     refine RL.opS trivial rfl (OpW.assign (v := .bool false) rfl ?_)
     refine RL.nil ?_
     refine CW.ret ?_
     exact ret_intro (res1 rfl rfl) ⟨false, rfl, h⟩
    ·have h := hc hb34; clear ha hc
     refine CW.skip ?_
     refine CW.seq ?_
     refine CW.region ?_
     refine RL.opS trivial rfl (OpW.move (v := .pointer x1.1) e32 ?_)
     refine RL.opS trivial rfl (OpW.callR (al := [.pointer x1.1, .int .i64 1, .int .i64 3]) Try.func16 fb_16 fn_16 rfl h (fun x35 w36 h => ?_))
     refine RL.opS trivial rfl (OpW.move (v := .tuple #[.pointer x35.1, Sl.v x35.2.1, .int .i64 x35.2.2]) rfl ?_)
     refine RL.opS trivial rfl (OpW.extract (v := .pointer x35.1) rfl rfl ?_)
     refine RL.opS trivial rfl (OpW.extract (v := Sl.v x35.2.1) rfl rfl ?_)
     refine RL.opS trivial rfl (OpW.extract (v := .int .i64 x35.2.2) rfl rfl ?_)
     refine RL.opS trivial rfl (OpW.assign (v := Sl.v x35.2.1) rfl ?_)
     refine RL.opS trivial rfl (OpW.assign (v := .int .i64 x35.2.2) rfl ?_)
     refine RL.nil ?_
     refine CW.seq ?_
     refine CW.region ?_
     refine RL.opS trivial rfl (OpW.move (v := .int .i64 x35.2.2) rfl ?_)
     refine RL.opS trivial rfl (OpW.bin (k := .i64) (a := x35.2.2) (b := 0) (v := .bool (decide (x35.2.2 = 0))) rfl rfl rfl ?_)
     refine RL.opS trivial rfl (OpW.move (v := .bool (decide (x35.2.2 = 0))) rfl ?_)
     refine jn_elim h ?_; clear h; intro k87 hk88 h
     refine RL.joinAt (A := Bool) 4 (fun s39 ρ => ρ 47 = .bool s39 ∧ ρ 3 = .pointer x3.1 ∧ ρ 4 = Sl.v x35.2.1) k87 ?_ ?_
     ·rintro s39 ρ w40 ⟨e41, e42, e43⟩ h
      subst hk88
      dsimp only [List.drop]
      refine RL.opS trivial rfl (OpW.move (v := .bool s39) e41 ?_)
      refine jn_elim h ?_; clear h; intro k85 hk86 h
      refine RL.joinAt (A := Bool) 6 (fun s50 ρ => ρ 54 = .bool s50 ∧ ρ 3 = .pointer x3.1 ∧ ρ 4 = Sl.v x35.2.1) k85 ?_ ?_
      ·rintro s50 ρ w51 ⟨e52, e53, e54⟩ h
       subst hk86
       dsimp only [List.drop]
       refine RL.opS trivial rfl (OpW.move (v := .bool s50) e52 ?_)
       refine jn_elim h ?_; clear h; intro k83 hk84 h
       refine RL.joinAt (A := Bool) 6 (fun s60 ρ => ρ 61 = .bool s60 ∧ ρ 3 = .pointer x3.1) k83 ?_ ?_
       ·rintro s60 ρ w61 ⟨e62, e63⟩ h
        subst hk84
        dsimp only [List.drop]
        refine RL.opS trivial rfl (OpW.move (v := .bool s60) e62 ?_)
        refine jn_elim h ?_; clear h; intro k81 hk82 h
        refine RL.joinAt (A := Bool) 4 (fun s68 ρ => ρ 66 = .bool s68 ∧ ρ 3 = .pointer x3.1) k81 ?_ ?_
        ·rintro s68 ρ w69 ⟨e70, e71⟩ h
         subst hk82
         dsimp only [List.drop]
         refine RL.opS trivial rfl (OpW.move (v := .bool s68) e70 ?_)
         refine jn_elim h ?_; clear h; intro k79 hk80 h
         refine RL.joinAt (A := Bool) 4 (fun s76 ρ => ρ 71 = .bool s76) k79 ?_ ?_
         ·rintro s76 ρ w77 e78 h
          subst hk80
          dsimp only [List.drop]
          refine RL.opS trivial rfl (OpW.assign (v := .bool s76) e78 ?_)
          refine RL.nil ?_
          refine CW.ret ?_
          exact ret_intro (res1 rfl rfl) ⟨s76, rfl, h⟩
         ·clear hk80
          dsimp only [List.take]
          obtain ⟨ha, hc⟩ := h
          rcases Bool.eq_false_or_eq_true s68 with hb72 | hb72
          ·have h := ha hb72; clear ha hc
           refine RL.opS (wanted_of rfl rfl hb72) rfl (OpW.move (v := .pointer x3.1) e71 ?_)
           refine RL.opS (wanted_of rfl rfl hb72) rfl (OpW.callR (al := [.pointer x3.1]) Try.func22 fb_22 fn_22 rfl h (fun x74 w75 h => ?_))
           refine RL.opS (wanted_of rfl rfl hb72) rfl (OpW.bin (k := .i64) (a := x74) (b := 2) (v := .bool (decide (x74 = 2))) rfl rfl rfl ?_)
           refine RL.opS trivial rfl (OpW.pick (b := true) (v := .bool (decide (x74 = 2))) (congrArg Value.bool hb72) rfl ?_)
           refine RL.nil ?_
           exact ⟨(decide (x74 = 2)), rfl, h⟩
          ·have h := hc hb72; clear ha hc
           refine RL.skipS (notWanted_of rfl rfl hb72) rfl ?_
           refine RL.skipS (notWanted_of rfl rfl hb72) rfl ?_
           refine RL.skipS (notWanted_of rfl rfl hb72) rfl ?_
           refine RL.opS trivial rfl (OpW.pick (b := false) (v := .bool false) (congrArg Value.bool hb72) rfl ?_)
           refine RL.nil ?_
           exact ⟨false, rfl, h⟩
        ·clear hk82
         dsimp only [List.take]
         obtain ⟨ha, hc⟩ := h
         rcases Bool.eq_false_or_eq_true s60 with hb64 | hb64
         ·have h := ha hb64; clear ha hc
          refine RL.opS (wanted_of rfl rfl hb64) rfl (OpW.move (v := .pointer x3.1) e63 ?_)
          refine RL.opS (wanted_of rfl rfl hb64) rfl (OpW.callR (al := [.pointer x3.1]) Try.func17 fb_17 fn_17 rfl h (fun x66 w67 h => ?_))
          refine RL.opS (wanted_of rfl rfl hb64) rfl (OpW.bin (k := .i64) (a := x66) (b := 500) (v := .bool (decide (x66 = 500))) rfl rfl rfl ?_)
          refine RL.opS trivial rfl (OpW.pick (b := true) (v := .bool (decide (x66 = 500))) (congrArg Value.bool hb64) rfl ?_)
          refine RL.nil ?_
          exact ⟨(decide (x66 = 500)), ⟨rfl, e63⟩, h⟩
         ·have h := hc hb64; clear ha hc
          refine RL.skipS (notWanted_of rfl rfl hb64) rfl ?_
          refine RL.skipS (notWanted_of rfl rfl hb64) rfl ?_
          refine RL.skipS (notWanted_of rfl rfl hb64) rfl ?_
          refine RL.opS trivial rfl (OpW.pick (b := false) (v := .bool false) (congrArg Value.bool hb64) rfl ?_)
          refine RL.nil ?_
          exact ⟨false, ⟨rfl, e63⟩, h⟩
       ·clear hk84
        dsimp only [List.take]
        obtain ⟨ha, hc⟩ := h
        rcases Bool.eq_false_or_eq_true s50 with hb55 | hb55
        ·have h := ha hb55; clear ha hc
         refine RL.opS (wanted_of rfl rfl hb55) rfl (OpW.move (v := Sl.v x35.2.1) e54 ?_)
         obtain ⟨a57_, a57, h1, h2, h3, h4, h⟩ := h
         refine RL.opS (wanted_of rfl rfl hb55) rfl (OpW.indexE (a' := a57) slice_22 rfl rfl h1 h2 h3 h4 ?_)
         obtain ⟨x59, h1, h⟩ := h
         refine RL.opS (wanted_of rfl rfl hb55) rfl (OpW.load1 (v := Sl.v x59) one_39 rfl h1 ?_)
         refine RL.opS (wanted_of rfl rfl hb55) rfl (OpW.len (s := x59) slice_39 rfl ?_)
         refine RL.opS (wanted_of rfl rfl hb55) rfl (OpW.bin (k := .i64) (a := (x59.len : Int)) (b := 0) (v := .bool (decide ((x59.len : Int) = 0))) rfl rfl rfl ?_)
         refine RL.opS trivial rfl (OpW.pick (b := true) (v := .bool (decide ((x59.len : Int) = 0))) (congrArg Value.bool hb55) rfl ?_)
         refine RL.nil ?_
         exact ⟨(decide ((x59.len : Int) = 0)), ⟨rfl, e53⟩, h⟩
        ·have h := hc hb55; clear ha hc
         refine RL.skipS (notWanted_of rfl rfl hb55) rfl ?_
         refine RL.skipS (notWanted_of rfl rfl hb55) rfl ?_
         refine RL.skipS (notWanted_of rfl rfl hb55) rfl ?_
         refine RL.skipS (notWanted_of rfl rfl hb55) rfl ?_
         refine RL.skipS (notWanted_of rfl rfl hb55) rfl ?_
         refine RL.opS trivial rfl (OpW.pick (b := false) (v := .bool false) (congrArg Value.bool hb55) rfl ?_)
         refine RL.nil ?_
         exact ⟨false, ⟨rfl, e53⟩, h⟩
      ·clear hk86
       dsimp only [List.take]
       obtain ⟨ha, hc⟩ := h
       rcases Bool.eq_false_or_eq_true s39 with hb44 | hb44
       ·have h := ha hb44; clear ha hc
        refine RL.opS (wanted_of rfl rfl hb44) rfl (OpW.move (v := Sl.v x35.2.1) e43 ?_)
        obtain ⟨a46_, a46, h1, h2, h3, h4, h⟩ := h
        refine RL.opS (wanted_of rfl rfl hb44) rfl (OpW.indexE (a' := a46) slice_22 rfl rfl h1 h2 h3 h4 ?_)
        obtain ⟨x48, h1, h⟩ := h
        refine RL.opS (wanted_of rfl rfl hb44) rfl (OpW.load1 (v := Sl.v x48) one_39 rfl h1 ?_)
        obtain ⟨x49, h1, h2, h⟩ := h
        refine RL.opS (wanted_of rfl rfl hb44) rfl (OpW.b2s bsl_39 str_9 rfl h1 h2 ?_)
        refine RL.opS (wanted_of rfl rfl hb44) rfl (OpW.strCmp (b := decide (x49 = [97, 98])) rfl rfl rfl ?_)
        refine RL.opS trivial rfl (OpW.pick (b := true) (v := .bool (decide (x49 = [97, 98]))) (congrArg Value.bool hb44) rfl ?_)
        refine RL.nil ?_
        exact ⟨(decide (x49 = [97, 98])), ⟨rfl, e42, e43⟩, h⟩
       ·have h := hc hb44; clear ha hc
        refine RL.skipS (notWanted_of rfl rfl hb44) rfl ?_
        refine RL.skipS (notWanted_of rfl rfl hb44) rfl ?_
        refine RL.skipS (notWanted_of rfl rfl hb44) rfl ?_
        refine RL.skipS (notWanted_of rfl rfl hb44) rfl ?_
        refine RL.skipS (notWanted_of rfl rfl hb44) rfl ?_
        refine RL.opS trivial rfl (OpW.pick (b := false) (v := .bool false) (congrArg Value.bool hb44) rfl ?_)
        refine RL.nil ?_
        exact ⟨false, ⟨rfl, e42, e43⟩, h⟩
     ·clear hk88
      dsimp only [List.take]
      obtain ⟨ha, hc⟩ := h
      rcases Bool.eq_false_or_eq_true (decide (x35.2.2 = 0)) with hb37 | hb37
      ·have h := ha hb37; clear ha hc
       refine RL.opS (wanted_of rfl rfl hb37) rfl (OpW.move (v := Sl.v x35.2.1) rfl ?_)
       refine RL.opS (wanted_of rfl rfl hb37) rfl (OpW.len (s := x35.2.1) slice_22 rfl ?_)
       refine RL.opS (wanted_of rfl rfl hb37) rfl (OpW.bin (k := .i64) (a := (x35.2.1.len : Int)) (b := 2) (v := .bool (decide ((x35.2.1.len : Int) = 2))) rfl rfl rfl ?_)
       refine RL.opS trivial rfl (OpW.pick (b := true) (v := .bool (decide ((x35.2.1.len : Int) = 2))) (congrArg Value.bool hb37) rfl ?_)
       refine RL.nil ?_
       exact ⟨(decide ((x35.2.1.len : Int) = 2)), ⟨rfl, e33, rfl⟩, h⟩
      ·have h := hc hb37; clear ha hc
       refine RL.skipS (notWanted_of rfl rfl hb37) rfl ?_
       refine RL.skipS (notWanted_of rfl rfl hb37) rfl ?_
       refine RL.skipS (notWanted_of rfl rfl hb37) rfl ?_
       refine RL.opS trivial rfl (OpW.pick (b := false) (v := .bool false) (congrArg Value.bool hb37) rfl ?_)
       refine RL.nil ?_
       exact ⟨false, ⟨rfl, e33, rfl⟩, h⟩
   ·clear hk90
    dsimp only [List.take]
    obtain ⟨ha, hc⟩ := h
    rcases Bool.eq_false_or_eq_true s15 with hb20 | hb20
    ·have h := ha hb20; clear ha hc
     refine RL.skipS (notWanted_of rfl rfl hb20) rfl ?_
     refine RL.skipS (notWanted_of rfl rfl hb20) rfl ?_
     refine RL.skipS (notWanted_of rfl rfl hb20) rfl ?_
     refine RL.skipS (notWanted_of rfl rfl hb20) rfl ?_
     refine RL.skipS (notWanted_of rfl rfl hb20) rfl ?_
     refine RL.skipS (notWanted_of rfl rfl hb20) rfl ?_
     refine RL.opS trivial rfl (OpW.pick (b := true) (v := .bool true) (congrArg Value.bool hb20) rfl ?_)
     refine RL.nil ?_
     exact ⟨true, ⟨rfl, e18, e19⟩, h⟩
    ·have h := hc hb20; clear ha hc
     refine RL.opS (wanted_of rfl rfl hb20) rfl (OpW.move (v := .pointer x3.1) e19 ?_)
     obtain ⟨b22, hb22_⟩ : ∃ b_, b_ = w16.heap.size := ⟨_, rfl⟩
     obtain ⟨w23, hw23_⟩ : ∃ w_, w_ = w16.alloc (.cells (List.toArray [.int .u8 97, .int .u8 98]) 5) := ⟨_, rfl⟩
     have h := h b22 w23 hb22_ hw23_
     refine RL.opS (wanted_of rfl rfl hb20) rfl (OpW.buildSliceE (vs := [(0, .int .u8 97), (1, .int .u8 98)]) (cs := [.int .u8 97, .int .u8 98]) (by rfl) (by kernel_rfl) hb22_ hw23_ ?_)
     obtain ⟨b_, o_, c_, e_, fr_, h1, h2, h⟩ := h
     obtain ⟨w24, hw24_⟩ : ∃ w_, w_ = w23.freeze ⟨b_, c_.size, none⟩ 1 := ⟨_, rfl⟩
     have h := h w24 hw24_
     refine RL.opS (wanted_of rfl rfl hb20) rfl (OpW.markE bsl_39 rfl h1 h2 hw24_ ?_)
     obtain ⟨b25, hb25_⟩ : ∃ b_, b_ = w24.heap.size := ⟨_, rfl⟩
     obtain ⟨w26, hw26_⟩ : ∃ w_, w_ = w24.alloc (.cells (List.toArray [Sl.v ⟨some ⟨b22, 0, none⟩, 2, 2⟩, Sl.v nilSl]) 39) := ⟨_, rfl⟩
     have h := h b25 w26 hb25_ hw26_
     refine RL.opS (wanted_of rfl rfl hb20) rfl (OpW.buildSliceE (vs := [(0, Sl.v ⟨some ⟨b22, 0, none⟩, 2, 2⟩), (1, Sl.v nilSl)]) (cs := [Sl.v ⟨some ⟨b22, 0, none⟩, 2, 2⟩, Sl.v nilSl]) (by rfl) (by kernel_rfl) hb25_ hw26_ ?_)
     refine RL.opS (wanted_of rfl rfl hb20) rfl (OpW.callR (al := [.pointer x3.1, Sl.v ⟨some ⟨b25, 0, none⟩, 2, 2⟩]) Try.func20 fb_20 fn_20 rfl h (fun x27 w28 h => ?_))
     refine RL.opS (wanted_of rfl rfl hb20) rfl (OpW.bin (k := .i64) (a := x27) (b := 0) (v := .bool (!decide (x27 = 0))) rfl rfl rfl ?_)
     refine RL.opS trivial rfl (OpW.pick (b := false) (v := .bool (!decide (x27 = 0))) (congrArg Value.bool hb20) rfl ?_)
     refine RL.nil ?_
     exact ⟨(!decide (x27 = 0)), ⟨rfl, e18, e19⟩, h⟩
  ·clear hk92
   dsimp only [List.take]
   obtain ⟨ha, hc⟩ := h
   rcases Bool.eq_false_or_eq_true s7 with hb13 | hb13
   ·have h := ha hb13; clear ha hc
    refine RL.skipS (notWanted_of rfl rfl hb13) rfl ?_
    refine RL.skipS (notWanted_of rfl rfl hb13) rfl ?_
    refine RL.opS trivial rfl (OpW.pick (b := true) (v := .bool true) (congrArg Value.bool hb13) rfl ?_)
    refine RL.nil ?_
    exact ⟨true, ⟨rfl, e10, e11⟩, h⟩
   ·have h := hc hb13; clear ha hc
    refine RL.opS (wanted_of rfl rfl hb13) rfl (OpW.move (v := .int .i64 x3.2.2) e12 ?_)
    refine RL.opS (wanted_of rfl rfl hb13) rfl (OpW.bin (k := .i64) (a := x3.2.2) (b := 0) (v := .bool (!decide (x3.2.2 = 0))) rfl rfl rfl ?_)
    refine RL.opS trivial rfl (OpW.pick (b := false) (v := .bool (!decide (x3.2.2 = 0))) (congrArg Value.bool hb13) rfl ?_)
    refine RL.nil ?_
    exact ⟨(!decide (x3.2.2 = 0)), ⟨rfl, e10, e11⟩, h⟩
 ·clear hk94
  dsimp only [List.take]
  obtain ⟨ha, hc⟩ := h
  rcases Bool.eq_false_or_eq_true (x3.1.isNone) with hb5 | hb5
  ·have h := ha hb5; clear ha hc
   refine RL.skipS (notWanted_of rfl rfl hb5) rfl ?_
   refine RL.skipS (notWanted_of rfl rfl hb5) rfl ?_
   refine RL.skipS (notWanted_of rfl rfl hb5) rfl ?_
   refine RL.opS trivial rfl (OpW.pick (b := true) (v := .bool true) (congrArg Value.bool hb5) rfl ?_)
   refine RL.nil ?_
   exact ⟨true, ⟨rfl, rfl, rfl, rfl⟩, h⟩
  ·have h := hc hb5; clear ha hc
   refine RL.opS (wanted_of rfl rfl hb5) rfl (OpW.move (v := Sl.v x3.2.1) rfl ?_)
   refine RL.opS (wanted_of rfl rfl hb5) rfl (OpW.len (s := x3.2.1) slice_22 rfl ?_)
   refine RL.opS (wanted_of rfl rfl hb5) rfl (OpW.bin (k := .i64) (a := (x3.2.1.len : Int)) (b := 0) (v := .bool (!decide ((x3.2.1.len : Int) = 0))) rfl rfl rfl ?_)
   refine RL.opS trivial rfl (OpW.pick (b := false) (v := .bool (!decide ((x3.2.1.len : Int) = 0))) (congrArg Value.bool hb5) rfl ?_)
   refine RL.nil ?_
   exact ⟨(!decide ((x3.2.1.len : Int) = 0)), ⟨rfl, rfl, rfl, rfl⟩, h⟩
end Go.Proofs.Ytagkcbbbdlmcjaa
end
section
/- The typed readings of the functions, and that the program meets each: written by gen.py (a program of this session). -/
namespace Go.Proofs.Ytagkcbbbdlmcjaa
open Go.Lift
set_option maxRecDepth 100000 in
set_option maxHeartbeats 4000000 in
theorem s14_calls (K : Bool → World → Prop) (p0 : Int) (p1 : Sl) (w : World) (h : s14 K p0 p1 w) :
  Calls Try.prog 14 #[.int .i64 p0, Sl.v p1] w (Ret r14 K) := by
 unfold s14 at h
 refine calls_of_CW (n := 42) Try.func14 rfl rfl rfl ?_
 refine CW.seq ?_
 refine CW.region ?_
 refine RL.opS trivial rfl (OpW.assign (v := .bool false) rfl ?_)
 refine RL.nil ?_
 refine CW.seq ?_
 refine CW.seq ?_
 refine CW.region ?_
 refine RL.opS trivial rfl (OpW.move (v := .int .i64 p0) rfl ?_)
 refine RL.opS trivial rfl (OpW.bin (k := .i64) (a := p0) (b := 3) (v := .bool (decide (p0 < 3))) rfl rfl rfl ?_)
 refine RL.opS trivial rfl (OpW.move (v := .bool (decide (p0 < 3))) rfl ?_)
 refine jn_elim h ?_; clear h; intro k49 hk50 h
 refine RL.joinAt (A := Bool) 3 (fun s3 ρ => ρ 14 = .bool s3 ∧ ρ 1 = Sl.v p1) k49 ?_ ?_
 ·rintro s3 ρ w4 ⟨e5, e6⟩ h
  subst hk50
  dsimp only [List.drop]
  refine RL.opS trivial rfl (OpW.move (v := .bool s3) e5 ?_)
  refine jn_elim h ?_; clear h; intro k47 hk48 h
  refine RL.joinAt (A := Bool) 4 (fun s9 ρ => ρ 19 = .bool s9 ∧ ρ 1 = Sl.v p1) k47 ?_ ?_
  ·rintro s9 ρ w10 ⟨e11, e12⟩ h
   subst hk48
   dsimp only [List.drop]
   refine RL.nil ?_
   obtain ⟨ha, hc⟩ := h
   refine CW.cond (b := s9) e11 (fun hb13 => ?_) (fun hb13 => ?_)
   ·have h := ha hb13; clear ha hc
    refine CW.seq ?_
    refine CW.region ?_
    refine RL.opS trivial rfl (OpW.assign (v := .bool false) rfl ?_)
    refine RL.nil ?_
    refine CW.ret ?_
    exact ret_intro (res1 rfl rfl) ⟨false, rfl, h⟩
   ·have h := hc hb13; clear ha hc
    refine CW.skip ?_
    refine CW.seq ?_
    refine CW.seq ?_
    refine CW.region ?_
    refine RL.opS trivial rfl (OpW.move (v := Sl.v p1) e12 ?_)
    refine RL.opS trivial rfl (OpW.len (s := p1) slice_30 rfl ?_)
    refine RL.opS trivial rfl (OpW.move (v := .int .i64 0) rfl ?_)
    refine RL.nil ?_
    refine CW.block ?_
    obtain ⟨I45, mu46, hI, hs⟩ := h
    refine CW.loop (σ := Int) (fun s14 ρ => ρ 22 = .int .i64 s14 ∧ ρ 20 = Sl.v p1 ∧ ρ 21 = .int .i64 (p1.len : Int)) I45 mu46 0 ⟨rfl, rfl, rfl⟩ hI ?_
    rintro s14 ρ w15 ⟨e17, e18, e19⟩ hI
    have h := hs s14 w15 hI
    clear hs hI
    refine CW.seq ?_
    refine CW.region ?_
    refine RL.opS trivial rfl (OpW.bin (k := .i64) (a := s14) (b := (p1.len : Int)) (v := .bool (decide (s14 < (p1.len : Int)))) e17 e19 rfl ?_)
    refine RL.nil ?_
    refine CW.seq ?_
    obtain ⟨ha, hc⟩ := h
    refine CW.cond (b := (decide (s14 < (p1.len : Int)))) rfl (fun hb20 => ?_) (fun hb20 => ?_)
    ·have h := ha hb20; clear ha hc
     refine CW.skip ?_
     refine CW.seq ?_
     refine CW.block ?_
     refine CW.seq ?_
     refine CW.region ?_
     obtain ⟨a21_, a21, h1, h2, h3, h4, h⟩ := h
     refine RL.opS trivial rfl (OpW.indexE (a' := a21) slice_30 e18 e17 h1 h2 h3 h4 ?_)
     obtain ⟨x23, h1, h2, h⟩ := h
     refine RL.opS trivial rfl (OpW.loadA agg_29 rfl h1 h2 ?_)
     obtain ⟨hl_b24, ho_b24, h⟩ := h
     obtain ⟨b24, hb24_⟩ : ∃ b_, b_ = w15.heap.size := ⟨_, rfl⟩
     obtain ⟨w25, hw25_⟩ : ∃ w_, w_ = w15.alloc (.cells (List.toArray x23) 29) := ⟨_, rfl⟩
     have h := h b24 w25 hb24_ hw25_
     refine RL.opS trivial rfl (OpW.allocZ (b := b24) zero_29 hb24_ ?_)
     refine RL.opN trivial (OpW.storeF (zs := [Value.int .i64 0, Value.slice none 0 0, Value.int .i64 0, Value.int .u64 0, Value.int .i64 0]) (cs := x23) size_29 rfl rfl hl_b24 (by decide) ho_b24 hb24_ hw25_ ?_)
     refine RL.nil ?_
     refine CW.seq ?_
     refine CW.seq ?_
     refine CW.region ?_
     refine RL.opS trivial rfl (OpW.fieldAddr field_29_1 rfl ?_)
     obtain ⟨x26, h1, h⟩ := h
     refine RL.opS trivial rfl (OpW.load1 (v := Sl.v x26) one_22 rfl h1 ?_)
     refine RL.opS trivial rfl (OpW.len (s := x26) slice_22 rfl ?_)
     refine RL.opS trivial rfl (OpW.bin (k := .i64) (a := (x26.len : Int)) (b := 6) (v := .bool (decide (6 < (x26.len : Int)))) rfl rfl rfl ?_)
     refine RL.nil ?_
     obtain ⟨ha, hc⟩ := h
     refine CW.cond (b := (decide (6 < (x26.len : Int)))) rfl (fun hb27 => ?_) (fun hb27 => ?_)
     ·have h := ha hb27; clear ha hc
      refine CW.seq ?_
      refine CW.region ?_
      refine RL.opS trivial rfl (OpW.assign (v := .bool false) rfl ?_)
      refine RL.nil ?_
      refine CW.ret ?_
      exact ret_intro (res1 rfl rfl) ⟨false, rfl, h⟩
     ·have h := hc hb27; clear ha hc
      refine CW.skip ?_
      refine CW.seq ?_
      refine CW.region ?_
      refine RL.opS trivial rfl (OpW.fieldAddr field_29_1 rfl ?_)
      obtain ⟨x28, h1, h⟩ := h
      refine RL.opS trivial rfl (OpW.load1 (v := Sl.v x28) one_22 rfl h1 ?_)
      refine RL.opS trivial rfl (OpW.len (s := x28) slice_22 rfl ?_)
      refine RL.opS trivial rfl (OpW.move (v := .int .i64 0) rfl ?_)
      refine RL.nil ?_
      refine CW.block ?_
      obtain ⟨I43, mu44, hI, hs⟩ := h
      refine CW.loop (σ := Int) (fun s29 ρ => ρ 33 = .int .i64 s29 ∧ ρ 20 = Sl.v p1 ∧ ρ 21 = .int .i64 (p1.len : Int) ∧ ρ 22 = .int .i64 s14 ∧ ρ 31 = Sl.v x28 ∧ ρ 32 = .int .i64 (x28.len : Int)) I43 mu44 0 ⟨rfl, e18, e19, e17, rfl, rfl⟩ hI ?_
      rintro s29 ρ w30 ⟨e32, e33, e34, e35, e36, e37⟩ hI
      have h := hs s29 w30 hI
      clear hs hI
      refine CW.seq ?_
      refine CW.region ?_
      refine RL.opS trivial rfl (OpW.bin (k := .i64) (a := s29) (b := (x28.len : Int)) (v := .bool (decide (s29 < (x28.len : Int)))) e32 e37 rfl ?_)
      refine RL.nil ?_
      refine CW.seq ?_
      obtain ⟨ha, hc⟩ := h
      refine CW.cond (b := (decide (s29 < (x28.len : Int)))) rfl (fun hb38 => ?_) (fun hb38 => ?_)
      ·have h := ha hb38; clear ha hc
       refine CW.skip ?_
       refine CW.seq ?_
       refine CW.block ?_
       refine CW.seq ?_
       refine CW.region ?_
       obtain ⟨a39_, a39, h1, h2, h3, h4, h⟩ := h
       refine RL.opS trivial rfl (OpW.indexE (a' := a39) slice_22 e36 e32 h1 h2 h3 h4 ?_)
       obtain ⟨x41, h1, h⟩ := h
       refine RL.opS trivial rfl (OpW.load1 (v := Sl.v x41) one_39 rfl h1 ?_)
       refine RL.opS trivial rfl (OpW.assign (v := Sl.v x41) rfl ?_)
       refine RL.nil ?_
       refine CW.seq ?_
       refine CW.region ?_
       refine RL.opS trivial rfl (OpW.move (v := Sl.v x41) rfl ?_)
       refine RL.opS trivial rfl (OpW.len (s := x41) slice_39 rfl ?_)
       refine RL.opS trivial rfl (OpW.bin (k := .i64) (a := (x41.len : Int)) (b := 3000) (v := .bool (decide (3000 < (x41.len : Int)))) rfl rfl rfl ?_)
       refine RL.nil ?_
       obtain ⟨ha, hc⟩ := h
       refine CW.cond (b := (decide (3000 < (x41.len : Int)))) rfl (fun hb42 => ?_) (fun hb42 => ?_)
       ·have h := ha hb42; clear ha hc
        refine CW.seq ?_
        refine CW.region ?_
        refine RL.opS trivial rfl (OpW.assign (v := .bool false) rfl ?_)
        refine RL.nil ?_
        refine CW.ret ?_
        exact ret_intro (res1 rfl rfl) ⟨false, rfl, h⟩
       ·have h := hc hb42; clear ha hc
        refine CW.skip ?_
        refine CW.region ?_
        refine RL.opS trivial rfl (OpW.bin (k := .i64) (a := s29) (b := 1) (v := .int .i64 (IntKind.i64.wrap (s29 + 1))) e32 rfl rfl ?_)
        refine RL.opS trivial rfl (OpW.move (v := .int .i64 (IntKind.i64.wrap (s29 + 1))) rfl ?_)
        refine RL.nil ?_
        exact ⟨(IntKind.i64.wrap (s29 + 1)), ⟨rfl, e33, e34, e35, e36, e37⟩, h⟩
      ·have h := hc hb38; clear ha hc
       refine CW.exit ?_
       refine CW.region ?_
       refine RL.opS trivial rfl (OpW.bin (k := .i64) (a := s14) (b := 1) (v := .int .i64 (IntKind.i64.wrap (s14 + 1))) e35 rfl rfl ?_)
       refine RL.opS trivial rfl (OpW.move (v := .int .i64 (IntKind.i64.wrap (s14 + 1))) rfl ?_)
       refine RL.nil ?_
       exact ⟨(IntKind.i64.wrap (s14 + 1)), ⟨rfl, e33, e34⟩, h⟩
    ·have h := hc hb20; clear ha hc
     refine CW.exit ?_
     refine CW.seq ?_
     refine CW.region ?_
     refine RL.opS trivial rfl (OpW.assign (v := .bool true) rfl ?_)
     refine RL.nil ?_
     refine CW.ret ?_
     exact ret_intro (res1 rfl rfl) ⟨true, rfl, h⟩
  ·clear hk48
   dsimp only [List.take]
   obtain ⟨ha, hc⟩ := h
   rcases Bool.eq_false_or_eq_true s3 with hb7 | hb7
   ·have h := ha hb7; clear ha hc
    refine RL.skipS (notWanted_of rfl rfl hb7) rfl ?_
    refine RL.skipS (notWanted_of rfl rfl hb7) rfl ?_
    refine RL.skipS (notWanted_of rfl rfl hb7) rfl ?_
    refine RL.opS trivial rfl (OpW.pick (b := true) (v := .bool true) (congrArg Value.bool hb7) rfl ?_)
    refine RL.nil ?_
    exact ⟨true, ⟨rfl, e6⟩, h⟩
   ·have h := hc hb7; clear ha hc
    refine RL.opS (wanted_of rfl rfl hb7) rfl (OpW.move (v := Sl.v p1) e6 ?_)
    refine RL.opS (wanted_of rfl rfl hb7) rfl (OpW.len (s := p1) slice_30 rfl ?_)
    refine RL.opS (wanted_of rfl rfl hb7) rfl (OpW.bin (k := .i64) (a := (p1.len : Int)) (b := 30) (v := .bool (decide (30 < (p1.len : Int)))) rfl rfl rfl ?_)
    refine RL.opS trivial rfl (OpW.pick (b := false) (v := .bool (decide (30 < (p1.len : Int)))) (congrArg Value.bool hb7) rfl ?_)
    refine RL.nil ?_
    exact ⟨(decide (30 < (p1.len : Int))), ⟨rfl, e6⟩, h⟩
 ·clear hk50
  dsimp only [List.take]
  obtain ⟨ha, hc⟩ := h
  rcases Bool.eq_false_or_eq_true (decide (p0 < 3)) with hb1 | hb1
  ·have h := ha hb1; clear ha hc
   refine RL.skipS (notWanted_of rfl rfl hb1) rfl ?_
   refine RL.skipS (notWanted_of rfl rfl hb1) rfl ?_
   refine RL.opS trivial rfl (OpW.pick (b := true) (v := .bool true) (congrArg Value.bool hb1) rfl ?_)
   refine RL.nil ?_
   exact ⟨true, ⟨rfl, rfl⟩, h⟩
  ·have h := hc hb1; clear ha hc
   refine RL.opS (wanted_of rfl rfl hb1) rfl (OpW.move (v := .int .i64 p0) rfl ?_)
   refine RL.opS (wanted_of rfl rfl hb1) rfl (OpW.bin (k := .i64) (a := p0) (b := 7) (v := .bool (decide (7 < p0))) rfl rfl rfl ?_)
   refine RL.opS trivial rfl (OpW.pick (b := false) (v := .bool (decide (7 < p0))) (congrArg Value.bool hb1) rfl ?_)
   refine RL.nil ?_
   exact ⟨(decide (7 < p0)), ⟨rfl, rfl⟩, h⟩
end Go.Proofs.Ytagkcbbbdlmcjaa
end
section
/- The journal's own trial at the head of each law; scripts of a size. -/
namespace Go.Proofs.Ytagkcbbbdlmcjaa
open Go.Lift Go.Lift.Disk Go.Lift.Crc Go.Lift.Wal Go.RowKit
/-- a journal's struct, whatever its disk does -/
def LogAt (w : World) (pd pl frm room : Nat) (L : Lg) : Prop := ∃ sd : Sl, Blk w pl 95 (logC pd frm room L.seq sd L.count L.broken) ∧ sd.len = L.data.length ∧ LgWf L frm room
section
variable {w w' : World} {lo : Nat → Prop} {pd bb pl frm room : Nat} {D : Dk} {L : Lg}
theorem WAt.log (h : WAt w lo pd bb pl frm room D L) : LogAt w pd pl frm room L := by
 obtain ⟨g, sd, h⟩ := h
 exact ⟨sd, h.log, h.data.1.symm, h.wf⟩
theorem LogAt.fr {X : Nat → Prop} (h : LogAt w pd pl frm room L) (hf : Fr X w w') (hX : ¬ X pl) : LogAt w' pd pl frm room L := by
 obtain ⟨sd, h1, h2⟩ := h
 exact ⟨sd, h1.fr hf hX, h2⟩
theorem LogAt.ext (h : LogAt w pd pl frm room L) (hx : Ext w w') : LogAt w' pd pl frm room L := h.fr (X := fun _ => False) (Fr.of hx) fun h => h
theorem room_ok2 (h : LogAt w pd pl frm room L) : Calls Try.prog 17 #[.pointer (lp pl)] w (Ret r17 fun x w' => x = (room : Int) - (L.data.length : Int) ∧ Ext w w') := by
 obtain ⟨sd, h1, h2, h3⟩ := h
 apply s17_calls
 refine ⟨fun h => absurd h (by simp), fun _ => ?_⟩
 intro w2 hw2
 have hx2 : Ext w w2 := by subst hw2; exact Ext.drew _
 refine ⟨_, rfl, (room : Int), by rw [add_plain]; exact h1.cell rfl, _, rfl, sd, by rw [add_plain]; exact h1.cell rfl, ?_, hx2⟩
 have h4 := h3.hroom
 have h5 := h3.hdata
 rw [w64_eq (by omega) (by omega)]
 omega
theorem len_ok2 (h : LogAt w pd pl frm room L) : Calls Try.prog 22 #[.pointer (lp pl)] w (Ret r22 fun x w' => x = (L.count : Int) ∧ w = w') := by
 obtain ⟨sd, h1, h2, h3⟩ := h
 apply s22_calls
 refine ⟨fun h => absurd h (by simp), fun _ => ?_⟩
 exact ⟨_, rfl, (L.count : Int), by rw [add_plain]; exact h1.cell rfl, rfl, rfl⟩
theorem broken_ok2 (h : LogAt w pd pl frm room L) : Calls Try.prog 46 #[.pointer (lp pl)] w (Ret r46 fun x w' => x = L.broken ∧ w = w') := by
 obtain ⟨sd, h1, h2, h3⟩ := h
 apply s46_calls
 refine jn_of fun k hk => ⟨fun h => absurd h (by simp), fun _ => ?_⟩
 refine ⟨_, rfl, L.broken, by rw [add_plain]; exact h1.cell rfl, ?_⟩
 rw [hk]
 exact ⟨rfl, rfl⟩
theorem wfootExt {w0 : World} (hf : Fr (WFoot pd bb pl) w w') (hx : Ext w0 w) (h1 : w0.heap.size ≤ pd) (h2 : w0.heap.size ≤ bb) (h3 : w0.heap.size ≤ pl) : Ext w0 w' :=
 hf.ext hx fun k _ hk => by
  rcases hk with (e | e) | e <;> rw [e] <;> assumption
end
theorem open_fresh {D : Dk} {frm room : Nat} (h0 : D.down = false) (h1 : (headOf D frm room).1 = 0) (h2 : (headW D frm 1 0).2 = 0) : openD D frm room = ((headW D frm 1 0).1, .is ⟨1, [], 0, false⟩ []) := by
 unfold openD
 rw [if_neg (by rw [h0]; simp), if_pos h1, if_pos h2]
theorem open_found {D : Dk} {frm room sq n : Nat} {A : List UInt8} {rs : List (List UInt8)} (h0 : D.down = false) (h1 : headOf D frm room = (sq, n)) (hs : sq ≠ 0) (h2 : dataOf D frm n = A) (h3 : parse A = (rs, 0)) : openD D frm room = (D, .is ⟨sq, A, rs.length, false⟩ rs) := by
 unfold openD
 rw [if_neg (by rw [h0]; simp), h1]
 simp only
 rw [if_neg hs, h2, h3]
 rfl
theorem add_done {D : Dk} {L : Lg} {frm room : Nat} {l : List (List UInt8)} {A : List UInt8} (hb : L.broken = false) (hl : l ≠ []) (hg : gather l room L.data = some A) (hs : L.seq ≠ last)
  (he : (addHead (layF (A.length / 512 + 1) D frm A (L.data.length / 512)) frm (L.seq + 1) A.length).2 = 0) :
  addD D L frm room l = ((addHead (layF (A.length / 512 + 1) D frm A (L.data.length / 512)) frm (L.seq + 1) A.length).1, ⟨L.seq + 1, A, L.count + l.length, false⟩, 0) := by
 unfold addD
 rw [if_neg (by rw [hb]; simp), if_neg hl, hg]
 simp only
 rw [if_neg hs, if_pos he]
def wvA : List UInt8 := frameB [97, 98] ++ frameB []
theorem wv_gather : gather [[97, 98], []] 512 [] = some wvA := by decide +kernel
def wvD1 : Dk := (headW (fresh 4) 1 1 0).1
theorem wv_head0 : (headOf (fresh 4) 1 512).1 = 0 := by decide +kernel
theorem wv_e1 : (headW (fresh 4) 1 1 0).2 = 0 := by decide +kernel
def wvR : Dk × Int := addHead (layF (wvA.length / 512 + 1) wvD1 1 wvA 0) 1 2 wvA.length
theorem wv_e2 : wvR.2 = 0 := by decide +kernel
theorem wv_down : wvR.1.down = false := by decide +kernel
theorem wv_head : headOf wvR.1 1 512 = (2, 12) := by decide +kernel
theorem wv_data : dataOf wvR.1 1 12 = wvA := by decide +kernel
theorem wv_parse : parse wvA = ([[97, 98], []], 0) := by decide +kernel
theorem wv_len : wvA.length = 12 := by decide +kernel
theorem wv_b0 : Bnd (fresh 4) 2 := by unfold Bnd; decide +kernel
theorem wv_b1 : Bnd wvD1 5000 := by unfold Bnd; decide +kernel
theorem wv_b2 : Bnd wvR.1 2 := by unfold Bnd; decide +kernel
theorem wv_open1 : openD (fresh 4) 1 (roomOf 3) = (wvD1, .is ⟨1, [], 0, false⟩ []) := open_fresh rfl wv_head0 wv_e1
theorem wv_add : addD wvD1 ⟨1, [], 0, false⟩ 1 (roomOf 3) [[97, 98], []] = (wvR.1, ⟨2, wvA, 2, false⟩, 0) := add_done rfl (by simp) wv_gather (by decide) wv_e2
theorem wv_open2 : openD wvR.1 1 (roomOf 3) = (wvR.1, .is ⟨2, wvA, 2, false⟩ [[97, 98], []]) := open_found wv_down wv_head (by decide) wv_data wv_parse
theorem addD_bl (D : Dk) : wvR.1.bl.length = 4 := by decide +kernel
theorem lives4_ok (w : World) : Calls Try.prog 13 #[] w (Ret r13 fun x w' => x = true ∧ Ext w w') := by
 apply s13_calls
 refine cR_of (new_ok w 4 (by decide) (by decide)) ?_
 rintro x1 w2 ⟨pd, bb, rfl, h2, hx2⟩
 obtain ⟨hpd, hbb, _, _⟩ := h2.lt
 have hpd : w.heap.size ≤ pd := hpd
 have hbb : w.heap.size ≤ bb := hbb
 have ho := open_ok h2 (upB hx2.size) 1 3 (by decide) (by simp [fresh]) wv_b0
 rw [wv_open1] at ho
 refine cR_of ho ?_
 rintro ⟨x3a, x3b, x3c⟩ w4 ⟨pl, e1, hpl, e2, hrs, hW, hf4⟩
 simp only at e1 e2 hrs
 subst e1; subst e2
 have hx4 := footExt hf4 hx2 hpd hbb
 have hplw : w.heap.size ≤ pl := Nat.le_trans hx2.size hpl
 have hrl := hrs.len
 have hrl : x3b.len = 0 := hrl
 refine jn_of fun k1 hk1 => ⟨fun h => absurd h (by simp), fun _ => ?_⟩
 simp only
 rw [hrl, hk1]
 refine jn_of fun k2 hk2 => ⟨fun h => absurd h (by simp), fun _ => ?_⟩
 rw [hk2]
 refine jn_of fun k3 hk3 => ⟨fun h => absurd h (by simp), fun _ => ?_⟩
 intro b22 w23 hb22 hw23
 refine ⟨b22, 0, _, 5, (0, 0), rfl, by rw [hb22, hw23]; exact heap_new _ _, ?_⟩
 intro w24 hw24
 obtain ⟨hA, hx24⟩ := at_frozen_new hb22 hw23 hw24
 intro b25 w26 hb25 hw26
 have hx26 : Ext w24 w26 := Ext.new hw26
 have hx26' := hx24.trans hx26
 have hp : Parts w26 ⟨some ⟨b25, 0, none⟩, 2, 2⟩ [[97, 98], []] := by
  refine ⟨[⟨some ⟨b22, 0, none⟩, 2, 2⟩, nilSl], rfl, rfl, At.new hb25 hw26, ?_⟩
  intro k s c hs hc
  rcases k with _ | _ | k
  ·simp at hs hc
   subst hs; subst hc
   exact ⟨rfl, hx26.at hA⟩
  ·simp at hs hc
   subst hs; subst hc
   exact ⟨rfl, rfl⟩
  ·simp at hs
 have ha := add_ok (hW.ext hx26') (upB (hx4.trans hx26').size) wv_b1 _ _ hp (by decide) (by decide)
 rw [wv_add] at ha
 refine cR_of ha ?_
 rintro x27 w28 ⟨rfl, hW28, hf28⟩
 have hx28 := wfootExt hf28 (hx4.trans hx26') hpd hbb hplw
 rw [hk3]
 refine ⟨fun h => absurd h (by simp), fun _ => ?_⟩
 have ho2 := open_ok hW28.disk (upB hx28.size) 1 3 (by decide) (by show 1 + 3 ≤ wvR.1.bl.length; rw [addD_bl wvD1]; decide) wv_b2
 have e3 : openD (wvR.1, (⟨2, wvA, 2, false⟩ : Lg), (0 : Int)).1 1 (roomOf 3) = (wvR.1, .is ⟨2, wvA, 2, false⟩ [[97, 98], []]) := wv_open2
 rw [e3] at ho2
 obtain ⟨_, _, _, hpll, hpdl, hbbl⟩ := hW28.lt
 have hLog := hW28.log
 have hpln : ¬ Foot pd bb pl := by
  obtain ⟨g, sd, hX⟩ := hW28
  exact hX.lt.2.2.2.1
 refine cR_of ho2 ?_
 rintro ⟨x35a, x35b, x35c⟩ w36 ⟨pl2, e1, hpl2, e2, hrs2, hW2, hf36⟩
 simp only at e1 e2 hrs2
 subst e1; subst e2
 have hx36 := footExt hf36 hx28 hpd hbb
 have hLog36 := hLog.fr hf36 hpln
 have hp2 := hrs2.parts
 have hrl2 := hrs2.len
 have hrl2 : x35b.len = 2 := hrl2
 refine jn_of fun k4 hk4 => ⟨fun _ => ?_, fun h => absurd h (by simp)⟩
 simp only
 rw [hrl2, hk4]
 refine jn_of fun k5 hk5 => ⟨fun _ => ?_, fun h => absurd h (by simp)⟩
 obtain ⟨a, s, ha', hc, hb⟩ := hp2.get (k := 0) (by decide)
 refine ⟨a, _, ha', by decide, by simp only; omega, rfl, s, hc, _, hb.1, hb.2, ?_⟩
 rw [hk5]
 refine jn_of fun k6 hk6 => ⟨fun _ => ?_, fun h => absurd h (by simp)⟩
 obtain ⟨a, s, ha', hc, hb⟩ := hp2.get (k := 1) (by decide)
 have hsl : s.len = 0 := hb.1.symm
 refine ⟨a, _, ha', by decide, by simp only; omega, rfl, s, hc, ?_⟩
 show k6 _ _
 rw [hsl, hk6]
 refine jn_of fun k7 hk7 => ⟨fun _ => ?_, fun h => absurd h (by simp)⟩
 refine cR_of (room_ok2 hLog36) ?_
 rintro x66 w67 ⟨rfl, hx67⟩
 have e5 : ((roomOf 3 : Nat) : Int) - (((wvR.1, (⟨2, wvA, 2, false⟩ : Lg), (0 : Int)).2.1.data.length : Nat) : Int) = 500 := by
  show ((512 : Nat) : Int) - ((wvA.length : Nat) : Int) = 500
  rw [wv_len]; rfl
 rw [e5, hk7]
 refine jn_of fun k8 hk8 => ⟨fun _ => ?_, fun h => absurd h (by simp)⟩
 refine cR_of (len_ok2 (hLog36.ext hx67)) ?_
 rintro x74 w75 ⟨rfl, rfl⟩
 rw [hk8]
 exact ⟨rfl, hx36.trans hx67⟩

/-! ### scripts -/
structure OpJ where
 kind : Int
 ts : Sl
 texts : List (List UInt8)
 fall : Fall
def OpJ.cells (o : OpJ) : List Value := [.int .i64 o.kind, o.ts.v, .int .i64 o.fall.1, .int .u64 o.fall.2.1, .int .i64 o.fall.2.2]
structure OpJ.Ok (w : World) (o : OpJ) : Prop where
 texts : Parts w o.ts o.texts
 keep : 0 ≤ o.fall.2.1 ∧ o.fall.2.1 < 18446744073709551616
structure OpsJ (w : World) (s : Sl) (l : List OpJ) : Prop where
 len : s.len = l.length
 cells : AtO w s.a (l.flatMap OpJ.cells)
 ok : ∀ o ∈ l, o.Ok w
theorem OpJ.Ok.ext {w w' : World} {o : OpJ} (h : o.Ok w) (hx : Ext w w') : o.Ok w' := ⟨h.texts.ext hx, h.keep⟩
theorem OpsJ.ext {w w' : World} {s : Sl} {l : List OpJ} (h : OpsJ w s l) (hx : Ext w w') : OpsJ w' s l := ⟨h.len, Ext.atO hx h.cells, fun o ho => (h.ok o ho).ext hx⟩
theorem OpsJ.get {w : World} {s : Sl} {l : List OpJ} (h : OpsJ w s l) {k : Nat} (hk : k < l.length) : ∃ a, s.a = some a ∧ At w (a.add (k * 5)) l[k].cells := by
 have e := flatMap_at OpJ.cells (n := 5) (fun _ => rfl) l k hk
 have hl : k * 5 < (l.flatMap OpJ.cells).length := by
  rw [flatMap_len OpJ.cells (n := 5) (fun _ => rfl)]; omega
 obtain ⟨a, ha, _⟩ := h.cells.some_of (List.getElem?_eq_getElem hl)
 have hc := h.cells
 rw [ha] at hc
 refine ⟨a, ha, ?_⟩
 rw [← e]
 exact At.sub hc _ _
theorem opj_one (o : OpJ) : ∀ v ∈ o.cells, v.oneCell' = true := by
 intro v hv
 simp only [OpJ.cells, List.mem_cons, List.not_mem_nil, or_false] at hv
 rcases hv with rfl | rfl | rfl | rfl | rfl <;> rfl
def FitsJ (n : Int) (l : List OpJ) : Prop := 3 ≤ n ∧ n ≤ 7 ∧ l.length ≤ 30 ∧ ∀ o ∈ l, o.texts.length ≤ 6 ∧ ∀ s ∈ o.texts, s.length ≤ 3000
theorem fits4_ok (w : World) (n : Int) (p : Sl) (l : List OpJ) (h : OpsJ w p l) : Calls Try.prog 14 #[.int .i64 n, p.v] w (Ret r14 fun x w' => (x = true → FitsJ n l) ∧ Ext w w') := by
 apply s14_calls
 have hpl := h.len
 refine jn_of fun k1 hk1 => ?_
 have key1 : ∀ b : Bool, (b = false → 3 ≤ n ∧ n ≤ 7) → k1 b w := by
  intro b hb
  rw [hk1]
  refine jn_of fun k2 hk2 => ?_
  have key2 : ∀ b2 : Bool, (b2 = false → 3 ≤ n ∧ n ≤ 7 ∧ l.length ≤ 30) → k2 b2 w := by
   intro b2 hb2
   rw [hk2]
   refine ⟨fun _ => ⟨fun h => absurd h (by decide), Ext.refl _⟩, fun hf => ?_⟩
   obtain ⟨h1, h2, h3⟩ := hb2 hf
   refine ⟨fun st w' => ∃ k : Nat, k ≤ l.length ∧ st = (k : Int) ∧ Ext w w' ∧ ∀ o ∈ l.take k, o.texts.length ≤ 6 ∧ ∀ s ∈ o.texts, s.length ≤ 3000, fun st _ => l.length - st.toNat, ⟨0, Nat.zero_le _, rfl, Ext.refl _, by simp⟩, ?_⟩
   rintro st w15 ⟨k, hk, rfl, hx, hall⟩
   refine ⟨fun hlt => ?_, fun hge => ?_⟩
   ·have hkl : k < l.length := by have := of_decide_eq_true hlt; omega
    obtain ⟨a, ha, hat⟩ := (h.ext hx).get hkl
    refine ⟨a, _, ha, by omega, by omega, rfl, ?_⟩
    rw [Int.toNat_natCast]
    refine ⟨_, rfl, hat, rfl, opj_one _, fun b24 w25 hb24 hw25 => ?_⟩
    have hx25 : Ext w15 w25 := Ext.new hw25
    have hB : Blk w25 b24 29 l[k].cells := Blk.new hb24 hw25
    have hp := ((h.ext (hx.trans hx25)).ok _ (List.getElem_mem hkl)).texts
    have htl := hp.len
    refine ⟨l[k].ts, by rw [add_plain]; exact hB.cell rfl, ?_⟩
    refine ⟨fun _ => ⟨fun h => absurd h (by decide), hx.trans hx25⟩, fun h6 => ?_⟩
    have h6 := of_decide_eq_false h6
    refine ⟨l[k].ts, by rw [add_plain]; exact hB.cell rfl, ?_⟩
    refine ⟨fun st w' => ∃ j : Nat, j ≤ l[k].texts.length ∧ st = (j : Int) ∧ w25 = w' ∧ ∀ s ∈ l[k].texts.take j, s.length ≤ 3000, fun st _ => l[k].texts.length - st.toNat, ⟨0, Nat.zero_le _, rfl, rfl, by simp⟩, ?_⟩
    rintro st w30 ⟨j, hj, rfl, rfl, hall2⟩
    refine ⟨fun hlt2 => ?_, fun hge2 => ?_⟩
    ·have hjl : j < l[k].texts.length := by have := of_decide_eq_true hlt2; omega
     obtain ⟨a2, s2, ha2, hc2, hb2⟩ := hp.get hjl
     have hsl := hb2.1
     refine ⟨a2, _, ha2, by omega, by omega, rfl, s2, by rw [Int.toNat_natCast, Nat.mul_one]; exact hc2, ?_⟩
     refine ⟨fun _ => ⟨fun h => absurd h (by decide), hx.trans hx25⟩, fun h30 => ?_⟩
     have h30 := of_decide_eq_false h30
     rw [w64_eq (by omega) (by omega)]
     refine ⟨⟨j + 1, by omega, by omega, rfl, ?_⟩, by simp only; omega⟩
     intro s hs
     rw [List.take_succ_eq_append_getElem hjl, List.mem_append] at hs
     rcases hs with hs | hs
     ·exact hall2 s hs
     ·rw [List.mem_singleton.1 hs]; omega
    ·have hje : j = l[k].texts.length := by have := of_decide_eq_false hge2; omega
     subst hje
     rw [List.take_length] at hall2
     rw [w64_eq (by omega) (by omega)]
     refine ⟨⟨k + 1, by omega, by omega, hx.trans hx25, ?_⟩, by simp only; omega⟩
     intro o ho
     rw [List.take_succ_eq_append_getElem hkl, List.mem_append] at ho
     rcases ho with ho | ho
     ·exact hall o ho
     ·rw [List.mem_singleton.1 ho]; exact ⟨by omega, hall2⟩
   ·have hge : k = l.length := by have := of_decide_eq_false hge; omega
    subst hge
    rw [List.take_length] at hall
    exact ⟨fun _ => ⟨h1, h2, h3, hall⟩, hx⟩
  refine ⟨fun h => key2 true fun h => absurd h (by decide), fun h => key2 _ fun h6 => ?_⟩
  have := of_decide_eq_false h6
  obtain ⟨h1, h2⟩ := hb h
  exact ⟨h1, h2, by omega⟩
 refine ⟨fun h => key1 true fun h => absurd h (by decide), fun h => key1 _ fun h2 => ?_⟩
 have := of_decide_eq_false h
 have := of_decide_eq_false h2
 omega
end Go.Proofs.Ytagkcbbbdlmcjaa
end
section
/- A journal that is laid on a new disk. -/
namespace Go.Proofs.Ytagkcbbbdlmcjaa
open Go.Lift Go.Lift.Disk Go.Lift.Crc Go.Lift.Wal Go.RowKit
theorem lowB_zeros (n : Nat) : lowB (List.replicate n 0) = 0 := by
 unfold lowB
 induction n with
 | zero => rfl
 | succ n ih => rw [List.replicate_succ, List.foldl_cons]; exact ih
theorem right_zero {b : List UInt8} {room : Nat} (h : lowB (sliceB b 8 16) = 0) : right b room = (0, 0) := by
 unfold right
 simp only [h]
 rw [if_neg]
 rintro ⟨_, _, h1, _⟩
 omega
theorem right_zeros (n room : Nat) : right (List.replicate n 0) room = (0, 0) := by
 refine right_zero ?_
 unfold sliceB
 rw [List.take_replicate, List.drop_replicate]
 exact lowB_zeros _
theorem nowAt_fresh (m i : Nat) : ∃ n, nowAt (fresh m) i = List.replicate n 0 := by
 unfold nowAt
 rcases Nat.lt_or_ge i m with h | h
 ·refine ⟨512, ?_⟩
  have e : (fresh m).bl[i]? = some (zero512, zero512) := by simp [fresh, h]
  have e2 : bAt (fresh m).bl i = (zero512, zero512) := by simp [bAt, List.getD, e]
  rw [e2]
  rfl
 ·refine ⟨0, ?_⟩
  have e : (fresh m).bl[i]? = none := List.getElem?_eq_none (by simp [fresh]; exact h)
  simp [bAt, List.getD, e]
theorem head_fresh (m frm room : Nat) : headOf (fresh m) frm room = (0, 0) := by
 have hs : ∀ i, headStep (fresh m) frm room (0, 0) i = (0, 0) := by
  intro i
  unfold headStep
  obtain ⟨n, e⟩ := nowAt_fresh m (frm + i)
  rw [e, right_zeros]
  rfl
 unfold headOf
 rw [hs, hs]
/-- a disk of which no fall is planned -/
theorem write_free {D : Dk} (hd : D.down = false) (hf : D.falls = []) {i : Nat} (hi : i < D.bl.length) {b : List UInt8} (hb : b.length = 512) : D.write (i : Int) b = (Dk.tick (D.put i b), 0) := by
 have hw : D.why (i : Int) = 0 := by unfold Dk.why; rw [if_neg (by rw [hd]; simp), if_neg (by omega)]
 have hs : (D.put i b).falls.find? (fun f => f.1 == ((D.put i b).changes : Int)) = none := by
  show D.falls.find? _ = none
  rw [hf]; rfl
 unfold Dk.write
 rw [if_neg (by rw [hw]; simp), if_neg (by omega), Int.toNat_natCast, strike_none hs]
def flushed (D : Dk) : Dk := { D with bl := flushL D.bl D.pend, pend := [], changes := D.changes + 1 }
theorem flush_free {D : Dk} (hd : D.down = false) (hf : D.falls = []) : D.flush = (flushed D, 0) := by
 have hs : D.falls.find? (fun f => f.1 == (D.changes : Int)) = none := by rw [hf]; rfl
 unfold Dk.flush
 rw [if_neg (by rw [hd]; simp), strike_none hs]
 simp only [ne_eq, not_true, if_false]
 rfl
/-- what is written of a disk and made sure, without a fall -/
def headed (D : Dk) (frm seq n : Nat) : Dk := flushed (Dk.tick (D.put (frm + seq % 2) (headB seq n)))
theorem headW_free {D : Dk} (hd : D.down = false) (hf : D.falls = []) {frm seq n : Nat} (hi : frm + 1 < D.bl.length) : headW D frm seq n = (headed D frm seq n, 0) := by
 have hw := write_free hd hf (i := frm + seq % 2) (by omega) (headB_len seq n)
 unfold headW
 rw [hw]
 simp only [if_true]
 exact flush_free hd hf
structure Free (n c : Nat) (D : Dk) : Prop where
 down : D.down = false
 falls : D.falls = []
 len : D.bl.length = n
 ch : D.changes = c
theorem free_fresh (n : Nat) : Free n 0 (fresh n) := ⟨rfl, rfl, by simp [fresh], rfl⟩
theorem Free.put {n c : Nat} {D : Dk} (h : Free n c D) (i : Nat) (b : List UInt8) : Free n (c + 1) (Dk.tick (D.put i b)) :=
 ⟨h.down, h.falls, (setNow_len _ _ _).trans h.len, by show D.changes + 1 = _; rw [h.ch]⟩
theorem Free.flushed {n c : Nat} {D : Dk} (h : Free n c D) : Free n (c + 1) (flushed D) :=
 ⟨h.down, h.falls, (flushL_len' _ _).trans h.len, by show D.changes + 1 = _; rw [h.ch]⟩
theorem Free.headed {n c : Nat} {D : Dk} (h : Free n c D) (frm seq k : Nat) : Free n (c + 2) (headed D frm seq k) := (h.put _ _).flushed
theorem fresh_bnd (m k : Nat) (hk : k < 1000000) : Bnd (fresh m) k := ⟨by show 0 + k < _; omega, by show 0 + k < _; omega⟩
theorem open_new (m frm room : Nat) (h : frm + 1 < m) : openD (fresh m) frm room = (headed (fresh m) frm 1 0, .is ⟨1, [], 0, false⟩ []) := by
 have hf := free_fresh m
 have hw : headW (fresh m) frm 1 0 = (headed (fresh m) frm 1 0, 0) := headW_free hf.down hf.falls (by rw [hf.len]; exact h)
 have := open_fresh (D := fresh m) (frm := frm) (room := room) rfl (by rw [head_fresh]) (by rw [hw])
 rw [hw] at this
 exact this
/-- an opening of a new disk, whatever part of it is asked for -/
theorem open_any {w : World} {lo : Nat → Prop} {pd bb m : Nat} (h : DAt w lo pd bb (fresh m)) (hlo : ∀ k, w.heap.size ≤ k → lo k) (f b : Int) (hf : f ≤ 9223372036854775807) (hb : b ≤ 9223372036854775807) :
  Calls Try.prog 16 #[.pointer (dp pd), .int .i64 f, .int .i64 b] w (Ret r16 fun x w' => Fr (Foot pd bb) w w' ∧ x.2.1.len = 0 ∧
   (((f < 0 ∨ b < 3 ∨ (m : Int) < b ∨ (m : Int) - b < f) ∧ x = (none, nilSl, 1) ∧ DAt w' lo pd bb (fresh m)) ∨
    ∃ (frm blocks : Nat), f = (frm : Int) ∧ b = (blocks : Int) ∧ 3 ≤ blocks ∧ frm + blocks ≤ m ∧ ∃ pl, x.1 = lp pl ∧ w.heap.size ≤ pl ∧ x.2.2 = 0 ∧ WAt w' lo pd bb pl frm (roomOf blocks) (headed (fresh m) frm 1 0) ⟨1, [], 0, false⟩)) := by
 have hfl : (fresh m).bl.length = m := by simp [fresh]
 by_cases h1 : f < 0 ∨ b < 3
 ·refine Ret.mono (open_bad w (dp pd) f b (.inr h1)) ?_
  rintro x w' ⟨rfl, rfl⟩
  refine ⟨Fr.refl _, rfl, .inl ⟨?_, rfl, h⟩⟩
  rcases h1 with h1 | h1
  ·exact .inl h1
  ·exact .inr (.inl h1)
 by_cases h2 : (m : Int) < b ∨ (m : Int) - b < f
 ·refine Ret.mono (open_out h f b (by omega) (by omega) hb (by rw [hfl]; exact h2)) ?_
  rintro x w' ⟨rfl, rfl⟩
  exact ⟨Fr.refl _, rfl, .inl ⟨.inr (.inr h2), rfl, h⟩⟩
 obtain ⟨frm, rfl⟩ := Int.eq_ofNat_of_zero_le (show 0 ≤ f by omega)
 obtain ⟨blocks, rfl⟩ := Int.eq_ofNat_of_zero_le (show 0 ≤ b by omega)
 have ho := open_ok h hlo frm blocks (by omega) (by omega) (fresh_bnd m 2 (by decide))
 rw [open_new m frm (roomOf blocks) (by omega)] at ho
 refine Ret.mono ho ?_
 rintro x w' ⟨pl, e1, hpl, e2, hrs, hW, hF⟩
 exact ⟨hF, hrs.len, .inr ⟨frm, blocks, rfl, rfl, by omega, by omega, pl, e1, hpl, e2, hW⟩⟩
theorem WX.setDisk {w w' : World} {lo : Nat → Prop} {pd bb pl frm room g : Nat} {sd : Sl} {D D' : Dk} {L : Lg} (h : WX w lo pd bb pl frm room g sd D L) (hd : DAt w' (fun k => (lo k ∧ k ≠ pl) ∧ k ≠ g) pd bb D') (hf : Fr (Foot pd bb) w w') :
  WX w' lo pd bb pl frm room g sd D' L := by
 obtain ⟨_, _, _, h1, h2⟩ := h.lt
 exact ⟨hd, h.log.fr hf h1, hf.bytes (fun a ha => by rw [(h.row a ha).1]; exact h2) h.data, h.cap, h.nil, h.row, Nat.lt_of_lt_of_le h.glt hf.size, h.lopl, h.wf⟩
end Go.Proofs.Ytagkcbbbdlmcjaa
end
