/- From a row's reading of the scripts to facts on their cells. -/
import Derived.Test.YtagkcbbbdlmcjaaLawRow
import Derived.Test.YtagkcbbbdlmcjaaDiskCrash
set_option linter.unusedVariables false
set_option linter.unusedSimpArgs false
namespace Go.Proofs.Ytagkcbbbdlmcjaa
open Go.Lift Go.Lift.Disk Go.RowKit Go.ChangeShapes Go.WideShapes Go.ChangeAt Go.Deep
/-- falls somewhere -/
structure FallsAt (w : World) (s : Sl) (l : List Fall) : Prop where
  len : s.len = l.length
  cap : s.len ≤ s.cap
  cells : AtO w s.a (fallC l)
  nil : s.a = none → s = nilSl
  keep : ∀ f ∈ l, 0 ≤ f.2.1 ∧ f.2.1 < 18446744073709551616
theorem FallsAt.ext {w w' : World} {s : Sl} {l : List Fall} (h : FallsAt w s l) (hx : Ext w w') : FallsAt w' s l := ⟨h.len, h.cap, Ext.atO hx h.cells, h.nil, h.keep⟩
structure OpA where
  kind : Int
  at_ : Int
  c : UInt8
  s : List UInt8
  long : Bool
  fall : Fall
  fs : Sl
  falls : List Fall
def OpA.cells (o : OpA) : List Value := [.int .i64 o.kind, .int .i64 o.at_, .int .u8 (o.c.toNat : Int), str o.s, .bool o.long, .int .i64 o.fall.1, .int .u64 o.fall.2.1, .int .i64 o.fall.2.2, o.fs.v]
structure OpA.Ok (w : World) (o : OpA) : Prop where
  falls : FallsAt w o.fs o.falls
  keep : 0 ≤ o.fall.2.1 ∧ o.fall.2.1 < 18446744073709551616
  at_ : -9223372036854775808 ≤ o.at_ ∧ o.at_ ≤ 9223372036854775807
structure OpsAt (w : World) (s : Sl) (l : List OpA) : Prop where
  len : s.len = l.length
  cells : AtO w s.a (l.flatMap OpA.cells)
  ok : ∀ o ∈ l, o.Ok w
theorem OpsAt.ext {w w' : World} {s : Sl} {l : List OpA} (h : OpsAt w s l) (hx : Ext w w') : OpsAt w' s l :=
  ⟨h.len, Ext.atO hx h.cells, fun o ho => ⟨(h.ok o ho).falls.ext hx, (h.ok o ho).keep, (h.ok o ho).at_⟩⟩
theorem flatMap_at {α : Type} {n : Nat} (g : α → List Value) (hg : ∀ a, (g a).length = n) : ∀ (l : List α) (k : Nat) (hk : k < l.length), ((l.flatMap g).drop (k * n)).take n = g l[k]
  | a :: l, 0, _ => by
    rw [Nat.zero_mul, List.drop_zero, List.flatMap_cons, List.take_left' (hg a)]
    rfl
  | a :: l, k + 1, hk => by
    have := flatMap_at g hg l k (by simpa using hk)
    rw [List.getElem_cons_succ, ← this, List.flatMap_cons, Nat.succ_mul, Nat.add_comm, ← List.drop_drop, List.drop_left' (hg a)]
theorem flatMap_len {α : Type} {n : Nat} (g : α → List Value) (hg : ∀ a, (g a).length = n) : ∀ l : List α, (l.flatMap g).length = l.length * n
  | [] => by simp
  | a :: l => by rw [List.flatMap_cons, List.length_append, hg, flatMap_len g hg l, List.length_cons, Nat.succ_mul, Nat.add_comm]
theorem OpsAt.get {w : World} {s : Sl} {l : List OpA} (h : OpsAt w s l) {k : Nat} (hk : k < l.length) : ∃ a, s.a = some a ∧ At w (a.add (k * 9)) l[k].cells := by
  have e := flatMap_at OpA.cells (n := 9) (fun _ => rfl) l k hk
  have hl : k * 9 < (l.flatMap OpA.cells).length := by
    rw [flatMap_len OpA.cells (n := 9) (fun _ => rfl)]; omega
  obtain ⟨a, ha, _⟩ := h.cells.some_of (List.getElem?_eq_getElem hl)
  have hc := h.cells
  rw [ha] at hc
  refine ⟨a, ha, ?_⟩
  rw [← e]
  exact At.sub hc _ _
theorem at_rows {w : World} {a : Addr} {n : Nat} (g : Nat → List Value) (hg : ∀ i, (g i).length = n) : ∀ m : Nat, (∀ i, i < m → At w (a.add (i * n)) (g i)) → At w a ((List.range m).flatMap g)
  | 0, _ => fun j v hj => by simp at hj
  | m + 1, h => by
    rw [List.range_succ, List.flatMap_append]
    refine At.app (at_rows g hg m fun i hi => h i (by omega)) ?_
    rw [flatMap_len g hg, List.length_range]
    simpa using h m (by omega)
theorem at_cells {w : World} {base n : Nat} {a : Addr} {cs : List Value} (h : w.cells? base a n = some cs) : At w a cs ∧ cs.length = n := by
  obtain ⟨_, hl, hc⟩ := World.cells?_some h
  refine ⟨fun j v hj => ?_, hl⟩
  have hj2 : j < n := by rw [← hl]; exact (List.getElem?_eq_some_iff.1 hj).1
  rw [hc j hj2]; exact hj
instance : Inhabited Fall := ⟨(0, 0, 0)⟩
instance : Inhabited OpA := ⟨⟨0, 0, 0, [], false, default, nilSl, []⟩⟩
section
variable {H : Type} {enc : TypeId × Value → H} {w : World} {base : Nat} {held : Bool}
theorem int_wf64 {n : Int} (h : (Lit.int .i64 n).wf = true) : -9223372036854775808 ≤ n ∧ n ≤ 9223372036854775807 := by simpa [Lit.wf, IntKind.min, IntKind.max, IntKind.signed, IntKind.bits] using h
theorem int_wfu64 {n : Int} (h : (Lit.int .u64 n).wf = true) : 0 ≤ n ∧ n < 18446744073709551616 := by
  have : 0 ≤ n ∧ n ≤ 18446744073709551615 := by simpa [Lit.wf, IntKind.min, IntKind.max, IntKind.signed, IntKind.bits] using h
  omega
theorem int_wfu8 {n : Int} (h : (Lit.int .u8 n).wf = true) : ∃ c : UInt8, n = (c.toNat : Int) := by
  have : 0 ≤ n ∧ n ≤ 255 := by simpa [Lit.wf, IntKind.min, IntKind.max, IntKind.signed, IntKind.bits] using h
  refine ⟨UInt8.ofNat n.toNat, ?_⟩
  simp
  omega
set_option maxRecDepth 100000 in
theorem open_fall {fuel : Nat} {cs : List Value} {x : DataW H × List MemPlace} (hl : cs.length = 3) (h : DataW.trod enc Try.prog w base (fun _ => true) held fuel 27 cs = some x) : ∃ f : Fall, cs = fallOf f ∧ 0 ≤ f.2.1 ∧ f.2.1 < 18446744073709551616 := by
  obtain ⟨xs, n, _, _, _, hxl, hf⟩ := DataW.trod_struct Try.underlying27 h
  match cs, hl with
  | [c0, c1, c2], _ =>
    have f0 := hf 0 _ rfl
    have f1 := hf 1 _ rfl
    have f2 := hf 2 _ rfl
    rw [List.getElem?_eq_getElem (by rw [hxl]; decide)] at f0 f1 f2
    obtain ⟨n0, e0, _, w0⟩ := DataW.trod_int Try.underlying3 f0
    obtain ⟨n1, e1, _, w1⟩ := DataW.trod_int Try.underlying25 f1
    obtain ⟨n2, e2, _, w2⟩ := DataW.trod_int Try.underlying3 f2
    have c3 : Try.prog.cellsOf 3 = 1 := by kernel_rfl
    have c25 : Try.prog.cellsOf 25 = 1 := by kernel_rfl
    have g0 : ([c0, c1, c2].drop 0).take (Try.prog.cellsOf 3) = _ := e0; clear e0
    have g1 : ([c0, c1, c2].drop 1).take (Try.prog.cellsOf 25) = _ := e1; clear e1
    have g2 : ([c0, c1, c2].drop 2).take (Try.prog.cellsOf 3) = _ := e2; clear e2
    rw [c3] at g0 g2
    rw [c25] at g1
    simp only [List.drop_zero, List.drop_succ_cons, List.take_succ_cons, List.take_zero, List.cons.injEq, and_true] at g0 g1 g2
    subst g0; subst g1; subst g2
    exact ⟨(n0, n1, n2), rfl, int_wfu64 w1⟩
theorem open_falls {fuel : Nat} {cs : List Value} {x : DataW H × List MemPlace} (h : DataW.trod enc Try.prog w base (fun _ => true) held fuel 47 cs = some x) : ∃ s l, cs = [s.v] ∧ FallsAt w s l := by
  have cF : Try.prog.cellsOf 27 = 3 := by kernel_rfl
  rcases open_slice Try.underlying47 h with ⟨rfl, _⟩ | ⟨a, len, cap, m, n, D, Pl, rfl, _, hl, hm, hmm, _, hx⟩
  · exact ⟨nilSl, [], rfl, rfl, Nat.le_refl _, rfl, fun _ => rfl, by simp⟩
  · have hmc : m = cap := by simpa using hmm
    obtain ⟨f, hf⟩ := choose_fn (p := fun i (f : Fall) => At w (a.add (i * 3)) (fallOf f) ∧ 0 ≤ f.2.1 ∧ f.2.1 < 18446744073709551616) (q := fun i => i < len) (fun i hi => by
      obtain ⟨cs', h1, h2⟩ := hx i (by omega)
      rw [cF] at h1
      obtain ⟨h3, h4⟩ := at_cells h1
      obtain ⟨f, rfl, hk⟩ := open_fall h4 h2
      exact ⟨f, h3, hk⟩)
    refine ⟨⟨some a, len, cap⟩, (List.range len).map f, rfl, by simp, hl, ?_, (fun h => absurd h (by simp)), ?_⟩
    · have := at_rows (w := w) (a := a) (n := 3) (fun i => fallOf (f i)) (fun _ => rfl) len fun i hi => (hf i hi).1
      show At w a _
      unfold fallC
      rw [List.flatMap_map]
      exact this
    · intro g hg
      obtain ⟨i, hi, rfl⟩ := List.mem_map.1 hg
      exact (hf i (List.mem_range.1 hi)).2
set_option maxRecDepth 100000 in
theorem open_op {fuel : Nat} {cs : List Value} {x : DataW H × List MemPlace} (hl : cs.length = 9) (h : DataW.trod enc Try.prog w base (fun _ => true) held fuel 65 cs = some x) : ∃ o : OpA, cs = o.cells ∧ o.Ok w := by
  obtain ⟨xs, n, _, _, _, hxl, hf⟩ := DataW.trod_struct Try.underlying65 h
  match cs, hl with
  | [c0, c1, c2, c3, c4, c5, c6, c7, c8], _ =>
    have f0 := hf 0 _ rfl
    have f1 := hf 1 _ rfl
    have f2 := hf 2 _ rfl
    have f3 := hf 3 _ rfl
    have f4 := hf 4 _ rfl
    have f5 := hf 5 _ rfl
    have f6 := hf 6 _ rfl
    rw [List.getElem?_eq_getElem (by rw [hxl]; decide)] at f0 f1 f2 f3 f4 f5 f6
    obtain ⟨n0, e0, _, w0⟩ := DataW.trod_int Try.underlying3 f0
    obtain ⟨n1, e1, _, w1⟩ := DataW.trod_int Try.underlying3 f1
    obtain ⟨n2, e2, _, w2⟩ := DataW.trod_int Try.underlying5 f2
    obtain ⟨n3, e3, _, w3⟩ := DataW.trod_string Try.underlying9 f3
    obtain ⟨n4, e4, _⟩ := DataW.trod_bool Try.underlying4 f4
    have k3 : Try.prog.cellsOf 3 = 1 := by kernel_rfl
    have k5 : Try.prog.cellsOf 5 = 1 := by kernel_rfl
    have k9 : Try.prog.cellsOf 9 = 1 := by kernel_rfl
    have k4 : Try.prog.cellsOf 4 = 1 := by kernel_rfl
    have k27 : Try.prog.cellsOf 27 = 3 := by kernel_rfl
    have k47 : Try.prog.cellsOf 47 = 1 := by kernel_rfl
    have hl5 : (([c0, c1, c2, c3, c4, c5, c6, c7, c8].drop 5).take (Try.prog.cellsOf 27)).length = 3 := by rw [k27]; rfl
    obtain ⟨fl, e5, hk⟩ := open_fall hl5 f5
    obtain ⟨sf, lf, e6, hfs⟩ := open_falls f6
    have g0 : ([c0, c1, c2, c3, c4, c5, c6, c7, c8].drop 0).take (Try.prog.cellsOf 3) = _ := e0; clear e0
    have g1 : ([c0, c1, c2, c3, c4, c5, c6, c7, c8].drop 1).take (Try.prog.cellsOf 3) = _ := e1; clear e1
    have g2 : ([c0, c1, c2, c3, c4, c5, c6, c7, c8].drop 2).take (Try.prog.cellsOf 5) = _ := e2; clear e2
    have g3 : ([c0, c1, c2, c3, c4, c5, c6, c7, c8].drop 3).take (Try.prog.cellsOf 9) = _ := e3; clear e3
    have g4 : ([c0, c1, c2, c3, c4, c5, c6, c7, c8].drop 4).take (Try.prog.cellsOf 4) = _ := e4; clear e4
    have g5 : ([c0, c1, c2, c3, c4, c5, c6, c7, c8].drop 5).take (Try.prog.cellsOf 27) = _ := e5; clear e5
    have g6 : ([c0, c1, c2, c3, c4, c5, c6, c7, c8].drop 8).take (Try.prog.cellsOf 47) = _ := e6; clear e6
    rw [k3] at g0 g1
    rw [k5] at g2
    rw [k9] at g3
    rw [k4] at g4
    rw [k27] at g5
    rw [k47] at g6
    simp only [List.drop_zero, List.drop_succ_cons, List.take_succ_cons, List.take_zero, List.cons.injEq, and_true] at g0 g1 g2 g3 g4 g6
    simp only [fallOf, List.drop_zero, List.drop_succ_cons, List.take_succ_cons, List.take_zero, List.cons.injEq, and_true] at g5
    obtain ⟨g5, g5b, g5c⟩ := g5
    subst g0; subst g1; subst g2; subst g3; subst g4; subst g5; subst g5b; subst g5c; subst g6
    obtain ⟨c, rfl⟩ := int_wfu8 w2
    refine ⟨⟨n0, n1, c, n3.data.toList, n4, fl, sf, lf⟩, ?_, hfs, hk, int_wf64 w1⟩
    simp [OpA.cells]
theorem open_61 {fuel : Nat} {cs : List Value} {x : DataW H × List MemPlace} (h : DataW.trod enc Try.prog w base (fun _ => true) held fuel 61 cs = some x) : ∃ s : Sl, cs = [s.v] ∧ s.len ≤ s.cap ∧ s.cap ≤ maxLen ∧ ∃ l, OpsAt w s l := by
  have cO : Try.prog.cellsOf 65 = 9 := by kernel_rfl
  rcases open_slice Try.underlying61 h with ⟨rfl, _⟩ | ⟨a, len, cap, m, n, D, Pl, rfl, _, hl, hm, hmm, _, hx⟩
  · exact ⟨nilSl, rfl, Nat.le_refl _, Nat.zero_le _, [], rfl, rfl, by simp⟩
  · have hmc : m = cap := by simpa using hmm
    obtain ⟨f, hf⟩ := choose_fn (p := fun i (o : OpA) => At w (a.add (i * 9)) o.cells ∧ o.Ok w) (q := fun i => i < len) (fun i hi => by
      obtain ⟨cs', h1, h2⟩ := hx i (by omega)
      rw [cO] at h1
      obtain ⟨h3, h4⟩ := at_cells h1
      obtain ⟨f, rfl, hk⟩ := open_op h4 h2
      exact ⟨f, h3, hk⟩)
    refine ⟨⟨some a, len, cap⟩, rfl, hl, hm, (List.range len).map f, by simp, ?_, ?_⟩
    · have := at_rows (w := w) (a := a) (n := 9) (fun i => (f i).cells) (fun _ => rfl) len fun i hi => (hf i hi).1
      show At w a _
      rw [List.flatMap_map]
      exact this
    · intro g hg
      obtain ⟨i, hi, rfl⟩ := List.mem_map.1 hg
      exact (hf i (List.mem_range.1 hi)).2
set_option maxRecDepth 100000 in
theorem open_27 {r : Reach} {b0 : Nat} {v : Value} {d : DataW H} {ps : List MemPlace} (hval : Value.okWide Try.prog w r b0 27 v) (h : DataW.Trod enc Try.prog w base (fun _ => true) held 27 v d ps) :
    ∃ f : Fall, v = aggv (fallOf f) ∧ 0 ≤ f.2.1 ∧ f.2.1 < 18446744073709551616 := by
  obtain ⟨cs, rfl, hsz⟩ := okWide_struct Try.underlying27 hval
  obtain ⟨fuel, hf⟩ := h
  have cF : Try.prog.cellsOf 27 = 3 := by kernel_rfl
  have hf' : DataW.trod enc Try.prog w base (fun _ => true) held fuel 27 cs.toList = some (d, ps) := hf
  have hl3 : cs.toList.length = 3 := by rw [Array.length_toList, hsz]; exact cF
  obtain ⟨f, hcs, hk⟩ := open_fall hl3 hf'
  exact ⟨f, by unfold aggv; rw [← hcs], hk⟩
end
end Go.Proofs.Ytagkcbbbdlmcjaa
