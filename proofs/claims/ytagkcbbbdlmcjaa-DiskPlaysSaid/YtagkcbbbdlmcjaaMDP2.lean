/- Parts of a proof, one behind the other: readings of functions, what they do, and what follows. -/
import Derived.Test.YtagkcbbbdlmcjaaMDP1
section
/- From a row's reading of the scripts to facts on their cells. -/
set_option linter.unusedVariables false
set_option linter.unusedSimpArgs false
namespace Go.Proofs.Ytagkcbbbdlmcjaa
open Go.Lift Go.Lift.Disk Go.RowKit Go.ChangeShapes Go.WideShapes Go.ChangeAt Go.Deep
/-- falls somewhere -/
structure FallsAt (w : World) (s : Sl) (l : List Fall) : Prop where
  len : s.len = l.length
  cap : s.len ≤ s.cap
  cells : AtO w s.a (fallC l)
  nil : s.a = none → s = nilSl
  keep : ∀ f ∈ l, 0 ≤ f.2.1 ∧ f.2.1 < 18446744073709551616
theorem FallsAt.ext {w w' : World} {s : Sl} {l : List Fall} (h : FallsAt w s l) (hx : Ext w w') : FallsAt w' s l := ⟨h.len, h.cap, Ext.atO hx h.cells, h.nil, h.keep⟩
structure OpA where
  kind : Int
  at_ : Int
  c : UInt8
  s : List UInt8
  long : Bool
  fall : Fall
  fs : Sl
  falls : List Fall
def OpA.cells (o : OpA) : List Value := [.int .i64 o.kind, .int .i64 o.at_, .int .u8 (o.c.toNat : Int), str o.s, .bool o.long, .int .i64 o.fall.1, .int .u64 o.fall.2.1, .int .i64 o.fall.2.2, o.fs.v]
structure OpA.Ok (w : World) (o : OpA) : Prop where
  falls : FallsAt w o.fs o.falls
  keep : 0 ≤ o.fall.2.1 ∧ o.fall.2.1 < 18446744073709551616
  at_ : -9223372036854775808 ≤ o.at_ ∧ o.at_ ≤ 9223372036854775807
structure OpsAt (w : World) (s : Sl) (l : List OpA) : Prop where
  len : s.len = l.length
  cells : AtO w s.a (l.flatMap OpA.cells)
  ok : ∀ o ∈ l, o.Ok w
theorem OpsAt.ext {w w' : World} {s : Sl} {l : List OpA} (h : OpsAt w s l) (hx : Ext w w') : OpsAt w' s l :=
  ⟨h.len, Ext.atO hx h.cells, fun o ho => ⟨(h.ok o ho).falls.ext hx, (h.ok o ho).keep, (h.ok o ho).at_⟩⟩
theorem flatMap_at {α : Type} {n : Nat} (g : α → List Value) (hg : ∀ a, (g a).length = n) : ∀ (l : List α) (k : Nat) (hk : k < l.length), ((l.flatMap g).drop (k * n)).take n = g l[k]
  | a :: l, 0, _ => by
    rw [Nat.zero_mul, List.drop_zero, List.flatMap_cons, List.take_left' (hg a)]
    rfl
  | a :: l, k + 1, hk => by
    have := flatMap_at g hg l k (by simpa using hk)
    rw [List.getElem_cons_succ, ← this, List.flatMap_cons, Nat.succ_mul, Nat.add_comm, ← List.drop_drop, List.drop_left' (hg a)]
theorem flatMap_len {α : Type} {n : Nat} (g : α → List Value) (hg : ∀ a, (g a).length = n) : ∀ l : List α, (l.flatMap g).length = l.length * n
  | [] => by simp
  | a :: l => by rw [List.flatMap_cons, List.length_append, hg, flatMap_len g hg l, List.length_cons, Nat.succ_mul, Nat.add_comm]
theorem OpsAt.get {w : World} {s : Sl} {l : List OpA} (h : OpsAt w s l) {k : Nat} (hk : k < l.length) : ∃ a, s.a = some a ∧ At w (a.add (k * 9)) l[k].cells := by
  have e := flatMap_at OpA.cells (n := 9) (fun _ => rfl) l k hk
  have hl : k * 9 < (l.flatMap OpA.cells).length := by
    rw [flatMap_len OpA.cells (n := 9) (fun _ => rfl)]; omega
  obtain ⟨a, ha, _⟩ := h.cells.some_of (List.getElem?_eq_getElem hl)
  have hc := h.cells
  rw [ha] at hc
  refine ⟨a, ha, ?_⟩
  rw [← e]
  exact At.sub hc _ _
theorem at_rows {w : World} {a : Addr} {n : Nat} (g : Nat → List Value) (hg : ∀ i, (g i).length = n) : ∀ m : Nat, (∀ i, i < m → At w (a.add (i * n)) (g i)) → At w a ((List.range m).flatMap g)
  | 0, _ => fun j v hj => by simp at hj
  | m + 1, h => by
    rw [List.range_succ, List.flatMap_append]
    refine At.app (at_rows g hg m fun i hi => h i (by omega)) ?_
    rw [flatMap_len g hg, List.length_range]
    simpa using h m (by omega)
theorem at_cells {w : World} {base n : Nat} {a : Addr} {cs : List Value} (h : w.cells? base a n = some cs) : At w a cs ∧ cs.length = n := by
  obtain ⟨_, hl, hc⟩ := World.cells?_some h
  refine ⟨fun j v hj => ?_, hl⟩
  have hj2 : j < n := by rw [← hl]; exact (List.getElem?_eq_some_iff.1 hj).1
  rw [hc j hj2]; exact hj
instance : Inhabited Fall := ⟨(0, 0, 0)⟩
instance : Inhabited OpA := ⟨⟨0, 0, 0, [], false, default, nilSl, []⟩⟩
section
variable {H : Type} {enc : TypeId × Value → H} {w : World} {base : Nat} {held : Bool}
theorem int_wf64 {n : Int} (h : (Lit.int .i64 n).wf = true) : -9223372036854775808 ≤ n ∧ n ≤ 9223372036854775807 := by simpa [Lit.wf, IntKind.min, IntKind.max, IntKind.signed, IntKind.bits] using h
theorem int_wfu64 {n : Int} (h : (Lit.int .u64 n).wf = true) : 0 ≤ n ∧ n < 18446744073709551616 := by
  have : 0 ≤ n ∧ n ≤ 18446744073709551615 := by simpa [Lit.wf, IntKind.min, IntKind.max, IntKind.signed, IntKind.bits] using h
  omega
theorem int_wfu8 {n : Int} (h : (Lit.int .u8 n).wf = true) : ∃ c : UInt8, n = (c.toNat : Int) := by
  have : 0 ≤ n ∧ n ≤ 255 := by simpa [Lit.wf, IntKind.min, IntKind.max, IntKind.signed, IntKind.bits] using h
  refine ⟨UInt8.ofNat n.toNat, ?_⟩
  simp
  omega
set_option maxRecDepth 100000 in
theorem open_fall {fuel : Nat} {cs : List Value} {x : DataW H × List MemPlace} (hl : cs.length = 3) (h : DataW.trod enc Try.prog w base (fun _ => true) held fuel 27 cs = some x) : ∃ f : Fall, cs = fallOf f ∧ 0 ≤ f.2.1 ∧ f.2.1 < 18446744073709551616 := by
  obtain ⟨xs, n, _, _, _, hxl, hf⟩ := DataW.trod_struct Try.underlying27 h
  match cs, hl with
  | [c0, c1, c2], _ =>
    have f0 := hf 0 _ rfl
    have f1 := hf 1 _ rfl
    have f2 := hf 2 _ rfl
    rw [List.getElem?_eq_getElem (by rw [hxl]; decide)] at f0 f1 f2
    obtain ⟨n0, e0, _, w0⟩ := DataW.trod_int Try.underlying3 f0
    obtain ⟨n1, e1, _, w1⟩ := DataW.trod_int Try.underlying25 f1
    obtain ⟨n2, e2, _, w2⟩ := DataW.trod_int Try.underlying3 f2
    have c3 : Try.prog.cellsOf 3 = 1 := by kernel_rfl
    have c25 : Try.prog.cellsOf 25 = 1 := by kernel_rfl
    have g0 : ([c0, c1, c2].drop 0).take (Try.prog.cellsOf 3) = _ := e0; clear e0
    have g1 : ([c0, c1, c2].drop 1).take (Try.prog.cellsOf 25) = _ := e1; clear e1
    have g2 : ([c0, c1, c2].drop 2).take (Try.prog.cellsOf 3) = _ := e2; clear e2
    rw [c3] at g0 g2
    rw [c25] at g1
    simp only [List.drop_zero, List.drop_succ_cons, List.take_succ_cons, List.take_zero, List.cons.injEq, and_true] at g0 g1 g2
    subst g0; subst g1; subst g2
    exact ⟨(n0, n1, n2), rfl, int_wfu64 w1⟩
theorem open_falls {fuel : Nat} {cs : List Value} {x : DataW H × List MemPlace} (h : DataW.trod enc Try.prog w base (fun _ => true) held fuel 47 cs = some x) : ∃ s l, cs = [s.v] ∧ FallsAt w s l := by
  have cF : Try.prog.cellsOf 27 = 3 := by kernel_rfl
  rcases open_slice Try.underlying47 h with ⟨rfl, _⟩ | ⟨a, len, cap, m, n, D, Pl, rfl, _, hl, hm, hmm, _, hx⟩
  · exact ⟨nilSl, [], rfl, rfl, Nat.le_refl _, rfl, fun _ => rfl, by simp⟩
  · have hmc : m = cap := by simpa using hmm
    obtain ⟨f, hf⟩ := choose_fn (p := fun i (f : Fall) => At w (a.add (i * 3)) (fallOf f) ∧ 0 ≤ f.2.1 ∧ f.2.1 < 18446744073709551616) (q := fun i => i < len) (fun i hi => by
      obtain ⟨cs', h1, h2⟩ := hx i (by omega)
      rw [cF] at h1
      obtain ⟨h3, h4⟩ := at_cells h1
      obtain ⟨f, rfl, hk⟩ := open_fall h4 h2
      exact ⟨f, h3, hk⟩)
    refine ⟨⟨some a, len, cap⟩, (List.range len).map f, rfl, by simp, hl, ?_, (fun h => absurd h (by simp)), ?_⟩
    · have := at_rows (w := w) (a := a) (n := 3) (fun i => fallOf (f i)) (fun _ => rfl) len fun i hi => (hf i hi).1
      show At w a _
      unfold fallC
      rw [List.flatMap_map]
      exact this
    · intro g hg
      obtain ⟨i, hi, rfl⟩ := List.mem_map.1 hg
      exact (hf i (List.mem_range.1 hi)).2
set_option maxRecDepth 100000 in
theorem open_op {fuel : Nat} {cs : List Value} {x : DataW H × List MemPlace} (hl : cs.length = 9) (h : DataW.trod enc Try.prog w base (fun _ => true) held fuel 65 cs = some x) : ∃ o : OpA, cs = o.cells ∧ o.Ok w := by
  obtain ⟨xs, n, _, _, _, hxl, hf⟩ := DataW.trod_struct Try.underlying65 h
  match cs, hl with
  | [c0, c1, c2, c3, c4, c5, c6, c7, c8], _ =>
    have f0 := hf 0 _ rfl
    have f1 := hf 1 _ rfl
    have f2 := hf 2 _ rfl
    have f3 := hf 3 _ rfl
    have f4 := hf 4 _ rfl
    have f5 := hf 5 _ rfl
    have f6 := hf 6 _ rfl
    rw [List.getElem?_eq_getElem (by rw [hxl]; decide)] at f0 f1 f2 f3 f4 f5 f6
    obtain ⟨n0, e0, _, w0⟩ := DataW.trod_int Try.underlying3 f0
    obtain ⟨n1, e1, _, w1⟩ := DataW.trod_int Try.underlying3 f1
    obtain ⟨n2, e2, _, w2⟩ := DataW.trod_int Try.underlying5 f2
    obtain ⟨n3, e3, _, w3⟩ := DataW.trod_string Try.underlying9 f3
    obtain ⟨n4, e4, _⟩ := DataW.trod_bool Try.underlying4 f4
    have k3 : Try.prog.cellsOf 3 = 1 := by kernel_rfl
    have k5 : Try.prog.cellsOf 5 = 1 := by kernel_rfl
    have k9 : Try.prog.cellsOf 9 = 1 := by kernel_rfl
    have k4 : Try.prog.cellsOf 4 = 1 := by kernel_rfl
    have k27 : Try.prog.cellsOf 27 = 3 := by kernel_rfl
    have k47 : Try.prog.cellsOf 47 = 1 := by kernel_rfl
    have hl5 : (([c0, c1, c2, c3, c4, c5, c6, c7, c8].drop 5).take (Try.prog.cellsOf 27)).length = 3 := by rw [k27]; rfl
    obtain ⟨fl, e5, hk⟩ := open_fall hl5 f5
    obtain ⟨sf, lf, e6, hfs⟩ := open_falls f6
    have g0 : ([c0, c1, c2, c3, c4, c5, c6, c7, c8].drop 0).take (Try.prog.cellsOf 3) = _ := e0; clear e0
    have g1 : ([c0, c1, c2, c3, c4, c5, c6, c7, c8].drop 1).take (Try.prog.cellsOf 3) = _ := e1; clear e1
    have g2 : ([c0, c1, c2, c3, c4, c5, c6, c7, c8].drop 2).take (Try.prog.cellsOf 5) = _ := e2; clear e2
    have g3 : ([c0, c1, c2, c3, c4, c5, c6, c7, c8].drop 3).take (Try.prog.cellsOf 9) = _ := e3; clear e3
    have g4 : ([c0, c1, c2, c3, c4, c5, c6, c7, c8].drop 4).take (Try.prog.cellsOf 4) = _ := e4; clear e4
    have g5 : ([c0, c1, c2, c3, c4, c5, c6, c7, c8].drop 5).take (Try.prog.cellsOf 27) = _ := e5; clear e5
    have g6 : ([c0, c1, c2, c3, c4, c5, c6, c7, c8].drop 8).take (Try.prog.cellsOf 47) = _ := e6; clear e6
    rw [k3] at g0 g1
    rw [k5] at g2
    rw [k9] at g3
    rw [k4] at g4
    rw [k27] at g5
    rw [k47] at g6
    simp only [List.drop_zero, List.drop_succ_cons, List.take_succ_cons, List.take_zero, List.cons.injEq, and_true] at g0 g1 g2 g3 g4 g6
    simp only [fallOf, List.drop_zero, List.drop_succ_cons, List.take_succ_cons, List.take_zero, List.cons.injEq, and_true] at g5
    obtain ⟨g5, g5b, g5c⟩ := g5
    subst g0; subst g1; subst g2; subst g3; subst g4; subst g5; subst g5b; subst g5c; subst g6
    obtain ⟨c, rfl⟩ := int_wfu8 w2
    refine ⟨⟨n0, n1, c, n3.data.toList, n4, fl, sf, lf⟩, ?_, hfs, hk, int_wf64 w1⟩
    simp [OpA.cells]
theorem open_61 {fuel : Nat} {cs : List Value} {x : DataW H × List MemPlace} (h : DataW.trod enc Try.prog w base (fun _ => true) held fuel 61 cs = some x) : ∃ s : Sl, cs = [s.v] ∧ s.len ≤ s.cap ∧ s.cap ≤ maxLen ∧ ∃ l, OpsAt w s l := by
  have cO : Try.prog.cellsOf 65 = 9 := by kernel_rfl
  rcases open_slice Try.underlying61 h with ⟨rfl, _⟩ | ⟨a, len, cap, m, n, D, Pl, rfl, _, hl, hm, hmm, _, hx⟩
  · exact ⟨nilSl, rfl, Nat.le_refl _, Nat.zero_le _, [], rfl, rfl, by simp⟩
  · have hmc : m = cap := by simpa using hmm
    obtain ⟨f, hf⟩ := choose_fn (p := fun i (o : OpA) => At w (a.add (i * 9)) o.cells ∧ o.Ok w) (q := fun i => i < len) (fun i hi => by
      obtain ⟨cs', h1, h2⟩ := hx i (by omega)
      rw [cO] at h1
      obtain ⟨h3, h4⟩ := at_cells h1
      obtain ⟨f, rfl, hk⟩ := open_op h4 h2
      exact ⟨f, h3, hk⟩)
    refine ⟨⟨some a, len, cap⟩, rfl, hl, hm, (List.range len).map f, by simp, ?_, ?_⟩
    · have := at_rows (w := w) (a := a) (n := 9) (fun i => (f i).cells) (fun _ => rfl) len fun i hi => (hf i hi).1
      show At w a _
      rw [List.flatMap_map]
      exact this
    · intro g hg
      obtain ⟨i, hi, rfl⟩ := List.mem_map.1 hg
      exact (hf i (List.mem_range.1 hi)).2
set_option maxRecDepth 100000 in
theorem open_27 {r : Reach} {b0 : Nat} {v : Value} {d : DataW H} {ps : List MemPlace} (hval : Value.okWide Try.prog w r b0 27 v) (h : DataW.Trod enc Try.prog w base (fun _ => true) held 27 v d ps) :
    ∃ f : Fall, v = aggv (fallOf f) ∧ 0 ≤ f.2.1 ∧ f.2.1 < 18446744073709551616 := by
  obtain ⟨cs, rfl, hsz⟩ := okWide_struct Try.underlying27 hval
  obtain ⟨fuel, hf⟩ := h
  have cF : Try.prog.cellsOf 27 = 3 := by kernel_rfl
  have hf' : DataW.trod enc Try.prog w base (fun _ => true) held fuel 27 cs.toList = some (d, ps) := hf
  have hl3 : cs.toList.length = 3 := by rw [Array.length_toList, hsz]; exact cF
  obtain ⟨f, hcs, hk⟩ := open_fall hl3 hf'
  exact ⟨f, by unfold aggv; rw [← hcs], hk⟩
end
end Go.Proofs.Ytagkcbbbdlmcjaa
end
section
/- The typed readings of the functions, and that the program meets each: written by gen.py (a program of this session). -/
set_option linter.unusedVariables false
set_option linter.unusedSimpArgs false
namespace Go.Proofs.Ytagkcbbbdlmcjaa
open Go.Lift
set_option maxRecDepth 100000 in
set_option maxHeartbeats 4000000 in
theorem s33_calls (K : Int → World → Prop) (p0 : Option Addr) (p1 : Int) (p2 : Sl) (w : World) (h : s33 K p0 p1 p2 w) :
    Calls Try.prog 33 #[.pointer p0, .int .i64 p1, Sl.v p2] w (Ret r33 K) := by
  unfold s33 at h
  refine calls_of_CW (n := 46) Try.func33 rfl rfl rfl ?_
  refine CW.seq ?_
  refine CW.region ?_
  refine RL.opS trivial rfl (OpW.assign (v := .int .i64 0) rfl ?_)
  refine RL.nil ?_
  refine CW.seq ?_
  refine CW.seq ?_
  refine CW.region ?_
  refine RL.opS trivial rfl (OpW.move (v := .pointer p0) rfl ?_)
  refine RL.opS trivial rfl (OpW.move (v := .int .i64 p1) rfl ?_)
  refine RL.opS trivial rfl (OpW.callR (al := [.pointer p0, .int .i64 p1]) Try.func59 fb_59 fn_59 rfl h (fun x1 w2 h => ?_))
  refine RL.opS trivial rfl (OpW.assign (v := .int .i64 x1) rfl ?_)
  refine RL.nil ?_
  refine CW.seq ?_
  refine CW.region ?_
  refine RL.opS trivial rfl (OpW.move (v := .int .i64 x1) rfl ?_)
  refine RL.opS trivial rfl (OpW.bin (k := .i64) (a := x1) (b := 0) (v := .bool (!decide (x1 = 0))) rfl rfl rfl ?_)
  refine RL.nil ?_
  obtain ⟨ha, hc⟩ := h
  refine CW.cond (b := (!decide (x1 = 0))) rfl (fun hb3 => ?_) (fun hb3 => ?_)
  · have h := ha hb3; clear ha hc
    refine CW.seq ?_
    refine CW.region ?_
    refine RL.opS trivial rfl (OpW.move (v := .int .i64 x1) rfl ?_)
    refine RL.opS trivial rfl (OpW.assign (v := .int .i64 x1) rfl ?_)
    refine RL.nil ?_
    refine CW.ret ?_
    exact ret_intro (res1 rfl rfl) ⟨x1, rfl, h⟩
  · have h := hc hb3; clear ha hc
    refine CW.skip ?_
    refine CW.seq ?_
    refine CW.seq ?_
    refine CW.region ?_
    refine RL.opS trivial rfl (OpW.move (v := Sl.v p2) rfl ?_)
    refine RL.opS trivial rfl (OpW.len (s := p2) slice_39 rfl ?_)
    refine RL.opS trivial rfl (OpW.bin (k := .i64) (a := (p2.len : Int)) (b := 512) (v := .bool (!decide ((p2.len : Int) = 512))) rfl rfl rfl ?_)
    refine RL.nil ?_
    obtain ⟨ha, hc⟩ := h
    refine CW.cond (b := (!decide ((p2.len : Int) = 512))) rfl (fun hb4 => ?_) (fun hb4 => ?_)
    · have h := ha hb4; clear ha hc
      refine CW.seq ?_
      refine CW.region ?_
      refine RL.opS trivial rfl (OpW.assign (v := .int .i64 1) rfl ?_)
      refine RL.nil ?_
      refine CW.ret ?_
      exact ret_intro (res1 rfl rfl) ⟨1, rfl, h⟩
    · have h := hc hb4; clear ha hc
      refine CW.skip ?_
      refine CW.seq ?_
      refine CW.region ?_
      refine RL.opS trivial rfl (OpW.move (v := .int .i64 p1) rfl ?_)
      refine RL.opS trivial rfl (OpW.buildL (vs := [(0, .int .i64 p1)]) (cs := ([.int .i64 p1] ++ List.replicate 512 (Value.int .u8 0))) (by rfl) (fun _ => by kernel_rfl) ?_)
      obtain ⟨hl_b5, ho_b5, h⟩ := h
      obtain ⟨b5, hb5_⟩ : ∃ b_, b_ = w2.heap.size := ⟨_, rfl⟩
      obtain ⟨w6, hw6_⟩ : ∃ w_, w_ = w2.alloc (.cells (List.toArray ([.int .i64 p1] ++ List.replicate 512 (Value.int .u8 0))) 116) := ⟨_, rfl⟩
      have h := h b5 w6 hb5_ hw6_
      refine RL.opS trivial rfl (OpW.allocZ (b := b5) zero_116 hb5_ ?_)
      refine RL.opN trivial (OpW.storeF (zs := ([Value.int .i64 0] ++ List.replicate 512 (Value.int .u8 0))) (cs := ([.int .i64 p1] ++ List.replicate 512 (Value.int .u8 0))) size_116 rfl rfl hl_b5 (by decide) ho_b5 hb5_ hw6_ ?_)
      refine RL.nil ?_
      refine CW.seq ?_
      refine CW.region ?_
      refine RL.opS trivial rfl (OpW.fieldAddr field_116_1 rfl ?_)
      refine RL.opS trivial rfl (OpW.sliceArr (l := 0) (h := 512) arr_110 rfl rfl rfl (by decide) (by decide) (by decide) ?_)
      refine RL.opS trivial rfl (OpW.move (v := Sl.v p2) rfl ?_)
      obtain ⟨x7, w8, hr_, h⟩ := h
      refine RL.opS trivial rfl (OpW.copyL (v := .int .i64 x7) rfl hr_ ?_)
      refine RL.nil ?_
      refine CW.seq ?_
      obtain ⟨w9, hw9_⟩ : ∃ w_, w_ = w8.drew := ⟨_, rfl⟩
      have h := h w9 hw9_
      have hx10 : Ext w8 w9 := by rw [hw9_]; exact Ext.drew _
      refine CW.draws (m := 10) (listed := #[false, false, false, false, false, false, false, false, false, false]) mixed [0, 1, 2, 3, 4, 5, 6, 7, 8] (Ext w8) rfl rfl ?_
      rw [← hw9_]
      refine DL.takeP (listed' := #[true, false, false, false, false, false, false, false, false, false]) (v := .pointer p0) 0 rfl rfl (by kernel_rfl) rfl trivial rfl (fun w_ K_ h_ => OpW.move (v := .pointer p0) rfl h_) ?_
      obtain ⟨a11, ha12, h⟩ := h
      refine DL.takeP (listed' := #[true, true, false, false, false, false, false, false, false, false]) (v := .pointer (some a11)) 1 rfl rfl (by kernel_rfl) rfl trivial rfl (fun w_ K_ h_ => OpW.nilCheck (a := a11) (congrArg Value.pointer ha12) h_) ?_
      refine DL.takeP (listed' := #[true, true, true, false, false, false, false, false, false, false]) (v := .pointer (some (Addr.add a11 0))) 2 rfl rfl (by kernel_rfl) rfl trivial rfl (fun w_ K_ h_ => OpW.fieldAddr (off := 0) field_93_0 rfl h_) ?_
      obtain ⟨x13, h1, h⟩ := h
      refine DL.takeK (listed' := #[true, true, true, true, false, false, false, false, false, false]) (v := Sl.v x13) 3 rfl rfl (by kernel_rfl) (by kernel_rfl) rfl trivial rfl hx10 (fun w_ hS_ K_ h_ => OpW.load1 (v := Sl.v x13) one_90 rfl (hS_.cell h1) h_) ?_
      refine DL.takeP (listed' := #[true, true, true, true, true, false, false, false, false, false]) (v := .int .i64 p1) 4 rfl rfl (by kernel_rfl) rfl trivial rfl (fun w_ K_ h_ => OpW.move (v := .int .i64 p1) rfl h_) ?_
      refine DL.takeP (listed' := #[true, true, true, true, true, true, false, false, false, false]) (v := .pointer (some (Addr.add ⟨b5, 0, none⟩ 1))) 5 rfl rfl (by kernel_rfl) rfl trivial rfl (fun w_ K_ h_ => OpW.fieldAddr field_116_1 rfl h_) ?_
      obtain ⟨x14, h1, h2, h⟩ := h
      refine DL.takeK (listed' := #[true, true, true, true, true, true, true, false, false, false]) (v := aggv x14) 6 rfl rfl (by kernel_rfl) (by kernel_rfl) rfl trivial rfl hx10 (fun w_ hS_ K_ h_ => OpW.loadA agg_110 rfl h1 (hS_.at h2) h_) ?_
      obtain ⟨a15_, a15, h1, h2, h3, h4, h⟩ := h
      refine DL.takeP (listed' := #[true, true, true, true, true, true, true, true, false, false]) (v := .pointer (some a15)) 7 rfl rfl (by kernel_rfl) rfl trivial rfl (fun w_ K_ h_ => OpW.indexE (a' := a15) slice_90 rfl rfl h1 h2 h3 h4 h_) ?_
      refine DL.takeP (listed' := #[true, true, true, true, true, true, true, true, true, false]) (v := .pointer (some (Addr.add a15 0))) 8 rfl rfl (by kernel_rfl) rfl trivial rfl (fun w_ K_ h_ => OpW.fieldAddr (off := 0) field_112_0 rfl h_) ?_
      obtain ⟨g_, o_, e_, cur_, ha_, h1, h2, h3, h4, h⟩ := h
      obtain ⟨w17, hw17_⟩ : ∃ w_, w_ = w9.setRow g_ (cur_.toList.take o_ ++ x14 ++ cur_.toList.drop (o_ + List.length x14)).toArray := ⟨_, rfl⟩
      have h := h w17 hw17_
      refine DL.execN (listed' := #[true, true, true, true, true, true, true, true, true, true]) 9 rfl (by kernel_rfl) rfl trivial (OpW.storeAE (cs := x14) size_110 rfl rfl ha_ h1 h2 h3 h4 hw17_ ?_)
      refine ⟨(fun h_ => absurd h_ (by decide)), ?_⟩
      refine DL.done (by kernel_rfl) ?_
      refine CW.seq ?_
      obtain ⟨w18, hw18_⟩ : ∃ w_, w_ = w17.drew := ⟨_, rfl⟩
      have h := h w18 hw18_
      have hx19 : Ext w17 w18 := by rw [hw18_]; exact Ext.drew _
      refine CW.draws (m := 12) (listed := #[false, false, false, false, false, false, false, false, false, false, false, false]) mixed [0, 1, 2, 3, 4, 5, 6, 7, 9, 10] (Ext w17) rfl rfl ?_
      rw [← hw18_]
      refine DL.takeP (listed' := #[true, false, false, false, false, false, false, false, false, false, false, false]) (v := .pointer p0) 0 rfl rfl (by kernel_rfl) rfl trivial rfl (fun w_ K_ h_ => OpW.move (v := .pointer p0) rfl h_) ?_
      refine DL.takeP (listed' := #[true, true, false, false, false, false, false, false, false, false, false, false]) (v := .pointer p0) 1 rfl rfl (by kernel_rfl) rfl trivial rfl (fun w_ K_ h_ => OpW.move (v := .pointer p0) rfl h_) ?_
      obtain ⟨a20, ha21, h⟩ := h
      refine DL.takeP (listed' := #[true, true, true, false, false, false, false, false, false, false, false, false]) (v := .pointer (some a20)) 2 rfl rfl (by kernel_rfl) rfl trivial rfl (fun w_ K_ h_ => OpW.nilCheck (a := a20) (congrArg Value.pointer ha21) h_) ?_
      refine DL.takeP (listed' := #[true, true, true, true, false, false, false, false, false, false, false, false]) (v := .pointer (some (Addr.add a20 1))) 3 rfl rfl (by kernel_rfl) rfl trivial rfl (fun w_ K_ h_ => OpW.fieldAddr field_93_1 rfl h_) ?_
      obtain ⟨x22, h1, h⟩ := h
      refine DL.takeK (listed' := #[true, true, true, true, true, false, false, false, false, false, false, false]) (v := Sl.v x22) 4 rfl rfl (by kernel_rfl) (by kernel_rfl) rfl trivial rfl hx19 (fun w_ hS_ K_ h_ => OpW.load1 (v := Sl.v x22) one_91 rfl (hS_.cell h1) h_) ?_
      obtain ⟨x23, h1, h2, h⟩ := h
      refine DL.takeK (listed' := #[true, true, true, true, true, false, true, false, false, false, false, false]) (v := aggv x23) 6 rfl rfl (by kernel_rfl) (by kernel_rfl) rfl trivial rfl hx19 (fun w_ hS_ K_ h_ => OpW.loadA agg_116 rfl h1 (hS_.at h2) h_) ?_
      obtain ⟨F29, st_5, run_5, h⟩ := h
      obtain ⟨F35, st_7, run_7, h⟩ := h
      refine DL.state (fun ρ_ w38 => ∃ (x24 : Sl) (x25 : Sl), Ext w18 w38 ∧ F29 () x24 w38 ∧ F35 () x25 w38 ∧ ρ_ 0 = .pointer p0 ∧ ρ_ 33 = .pointer p0 ∧ ρ_ 38 = Sl.v x24 ∧ ρ_ 40 = Sl.v x25) 4 #[true, true, true, true, true, true, true, true, false, false, false, false] ?_ ?_
      · rintro ρ_ w38 ⟨x24, x25, hx_1, f_5, f_7, e_0, e_33, e_38, e_40⟩
        have h := h x24 x25 w38 hx_1 f_5 f_7
        have hx39 := Ext.trans hx19 hx_1
        obtain ⟨x40, w41, hr_, h⟩ := h
        refine DL.execS (listed' := #[true, true, true, true, true, true, true, true, true, false, false, false]) 8 rfl (by kernel_rfl) rfl trivial rfl (OpW.appendL (v := Sl.v x40) (by simp only [List.map_cons, List.map_nil, ev, upd, Nat.beq, cond_false, cond_true, e_38, e_40]) hr_ ?_)
        refine ⟨(fun h_ => absurd h_ (by decide)), ?_⟩
        obtain ⟨a42, ha43, h⟩ := h
        refine DL.takeP (listed' := #[true, true, true, true, true, true, true, true, true, true, false, false]) (v := .pointer (some a42)) 9 rfl rfl (by kernel_rfl) rfl trivial rfl (fun w_ K_ h_ => OpW.nilCheck (a := a42) (e_33.trans (congrArg Value.pointer ha43)) h_) ?_
        refine DL.takeP (listed' := #[true, true, true, true, true, true, true, true, true, true, true, false]) (v := .pointer (some (Addr.add a42 1))) 10 rfl rfl (by kernel_rfl) rfl trivial rfl (fun w_ K_ h_ => OpW.fieldAddr field_93_1 rfl h_) ?_
        obtain ⟨u_, h1, h2, h⟩ := h
        obtain ⟨w44, hw44_⟩ : ∃ w_, w_ = w41.setCell (Addr.add a42 1) (Sl.v x40) := ⟨_, rfl⟩
        have h := h w44 hw44_
        refine DL.execN (listed' := #[true, true, true, true, true, true, true, true, true, true, true, true]) 11 rfl (by kernel_rfl) rfl trivial (OpW.store1E (v := Sl.v x40) size_91 rfl rfl rfl h1 h2 hw44_ ?_)
        refine ⟨(fun h_ => absurd h_ (by decide)), ?_⟩
        refine DL.done (by kernel_rfl) ?_
        refine CW.seq ?_
        refine CW.region ?_
        refine RL.opS trivial rfl (OpW.move (v := .pointer p0) e_0 ?_)
        refine RL.opS trivial rfl (OpW.callR (al := [.pointer p0]) Try.func61 fb_61 fn_61 rfl h (fun x45 w46 h => ?_))
        refine RL.opS trivial rfl (OpW.assign (v := .int .i64 x45) rfl ?_)
        refine RL.nil ?_
        refine CW.ret ?_
        exact ret_intro (res1 rfl rfl) ⟨x45, rfl, h⟩
      intro hD_5_7
      refine DL.state (fun ρ_ w47 => ∃ (x24 : Sl), Ext w18 w47 ∧ F29 () x24 w47 ∧ ρ_ 0 = .pointer p0 ∧ ρ_ 33 = .pointer p0 ∧ ρ_ 38 = Sl.v x24 ∧ ρ_ 39 = aggv x23) 5 #[true, true, true, true, true, true, true, false, false, false, false, false] ?_ ?_
      · rintro ρ_ w47 ⟨x24, hx_1, f_5, e_0, e_33, e_38, e_39⟩
        refine DL.branch [7] (by kernel_rfl) rfl ?_
        refine all_cons ?_ (all_nil)
        · clear h
          have h := run_7 () w47 hx_1 trivial
          obtain ⟨hl_, ho_, h⟩ := h
          obtain ⟨b48, hb48_⟩ : ∃ b_, b_ = w47.heap.size := ⟨_, rfl⟩
          obtain ⟨w49, hw49_⟩ : ∃ w_, w_ = w47.alloc (.cells (List.toArray x23) 116) := ⟨_, rfl⟩
          have h := h b48 w49 hb48_ hw49_
          refine DLop.execS (listed' := #[true, true, true, true, true, true, true, true, false, false, false, false]) rfl rfl trivial rfl (OpW.buildSliceE (vs := [(0, aggv x23)]) (cs := x23) (by simp only [List.map_cons, List.map_nil, ev, upd, Nat.beq, cond_false, cond_true, e_39]) (fillOne mkz_91 (by simp) (by decide) (by decide) hl_) hb48_ hw49_ ?_)
          obtain ⟨hx50, f51⟩ := h
          refine ⟨(fun _ hS_ => Ext.trans hS_ hx50), ?_⟩
          exact hD_5_7 _ _ ⟨x24, ⟨some ⟨b48, 0, none⟩, 1, 1⟩, Ext.trans hx_1 hx50, st_5 _ _ _ _ hx50 f_5, f51, e_0, e_33, e_38, rfl⟩

      intro hD_5
      refine DL.state (fun ρ_ w52 => ∃ (x25 : Sl), Ext w18 w52 ∧ F35 () x25 w52 ∧ ρ_ 0 = .pointer p0 ∧ ρ_ 33 = .pointer p0 ∧ ρ_ 37 = Sl.v x22 ∧ ρ_ 40 = Sl.v x25) 5 #[true, true, true, true, true, false, true, true, false, false, false, false] ?_ ?_
      · rintro ρ_ w52 ⟨x25, hx_1, f_7, e_0, e_33, e_37, e_40⟩
        refine DL.branch [5] (by kernel_rfl) rfl ?_
        refine all_cons ?_ (all_nil)
        · clear h
          have h := run_5 () w52 hx_1 trivial
          refine DLop.execS (listed' := #[true, true, true, true, true, true, true, true, false, false, false, false]) rfl rfl trivial rfl (OpW.callR (al := [Sl.v x22]) Try.func60 fb_60 fn_60 (by simp only [List.map_cons, List.map_nil, ev, upd, Nat.beq, cond_false, cond_true, e_37]) h (fun x53 w54 h => ?_))
          obtain ⟨hx55, f56⟩ := h
          refine ⟨(fun _ hS_ => Ext.trans hS_ hx55), ?_⟩
          exact hD_5_7 _ _ ⟨x53, x25, Ext.trans hx_1 hx55, f56, st_7 _ _ _ _ hx55 f_7, e_0, e_33, rfl, e_40⟩

      intro hD_7
      have hx_0 : Ext w18 w18 := Ext.refl _
      refine DL.branch [5, 7] (by kernel_rfl) rfl ?_
      refine all_cons ?_ (all_cons ?_ (all_nil))
      · clear h
        have h := run_5 () w18 hx_0 trivial
        refine DLop.execS (listed' := #[true, true, true, true, true, true, true, false, false, false, false, false]) rfl rfl trivial rfl (OpW.callR (al := [Sl.v x22]) Try.func60 fb_60 fn_60 rfl h (fun x57 w58 h => ?_))
        obtain ⟨hx59, f60⟩ := h
        refine ⟨(fun _ hS_ => Ext.trans hS_ hx59), ?_⟩
        exact hD_5 _ _ ⟨x57, Ext.trans hx_0 hx59, f60, rfl, rfl, rfl, rfl⟩
      · clear h
        have h := run_7 () w18 hx_0 trivial
        obtain ⟨hl_, ho_, h⟩ := h
        obtain ⟨b61, hb61_⟩ : ∃ b_, b_ = w18.heap.size := ⟨_, rfl⟩
        obtain ⟨w62, hw62_⟩ : ∃ w_, w_ = w18.alloc (.cells (List.toArray x23) 116) := ⟨_, rfl⟩
        have h := h b61 w62 hb61_ hw62_
        refine DLop.execS (listed' := #[true, true, true, true, true, false, true, true, false, false, false, false]) rfl rfl trivial rfl (OpW.buildSliceE (vs := [(0, aggv x23)]) (cs := x23) (by rfl) (fillOne mkz_91 (by simp) (by decide) (by decide) hl_) hb61_ hw62_ ?_)
        obtain ⟨hx63, f64⟩ := h
        refine ⟨(fun _ hS_ => Ext.trans hS_ hx63), ?_⟩
        exact hD_7 _ _ ⟨⟨some ⟨b61, 0, none⟩, 1, 1⟩, Ext.trans hx_0 hx63, f64, rfl, rfl, rfl, rfl⟩

end Go.Proofs.Ytagkcbbbdlmcjaa
end
section
/- The typed readings of the functions, and that the program meets each: written by gen.py (a program of this session). -/
set_option linter.unusedVariables false
set_option linter.unusedSimpArgs false
namespace Go.Proofs.Ytagkcbbbdlmcjaa
open Go.Lift
set_option maxRecDepth 100000 in
set_option maxHeartbeats 4000000 in
theorem s34_calls (K : Int → World → Prop) (p0 : Option Addr) (w : World) (h : s34 K p0 w) :
    Calls Try.prog 34 #[.pointer p0] w (Ret r34 K) := by
  unfold s34 at h
  refine calls_of_CW (n := 36) Try.func34 rfl rfl rfl ?_
  refine CW.seq ?_
  refine CW.region ?_
  refine RL.opS trivial rfl (OpW.assign (v := .int .i64 0) rfl ?_)
  refine RL.nil ?_
  refine CW.seq ?_
  refine CW.seq ?_
  refine CW.region ?_
  refine RL.opS trivial rfl (OpW.move (v := .pointer p0) rfl ?_)
  refine RL.opS trivial rfl (OpW.callR (al := [.pointer p0]) Try.func38 fb_38 fn_38 rfl h (fun x1 w2 h => ?_))
  refine RL.nil ?_
  obtain ⟨ha, hc⟩ := h
  refine CW.cond (b := x1) rfl (fun hb3 => ?_) (fun hb3 => ?_)
  · have h := ha hb3; clear ha hc
    refine CW.seq ?_
    refine CW.region ?_
    refine RL.opS trivial rfl (OpW.assign (v := .int .i64 6) rfl ?_)
    refine RL.nil ?_
    refine CW.ret ?_
    exact ret_intro (res1 rfl rfl) ⟨6, rfl, h⟩
  · have h := hc hb3; clear ha hc
    refine CW.skip ?_
    refine CW.seq ?_
    refine CW.seq ?_
    refine CW.region ?_
    refine RL.opS trivial rfl (OpW.move (v := .pointer p0) rfl ?_)
    refine RL.opS trivial rfl (OpW.callR (al := [.pointer p0]) Try.func61 fb_61 fn_61 rfl h (fun x4 w5 h => ?_))
    refine RL.opS trivial rfl (OpW.assign (v := .int .i64 x4) rfl ?_)
    refine RL.nil ?_
    refine CW.seq ?_
    refine CW.region ?_
    refine RL.opS trivial rfl (OpW.move (v := .int .i64 x4) rfl ?_)
    refine RL.opS trivial rfl (OpW.bin (k := .i64) (a := x4) (b := 0) (v := .bool (!decide (x4 = 0))) rfl rfl rfl ?_)
    refine RL.nil ?_
    obtain ⟨ha, hc⟩ := h
    refine CW.cond (b := (!decide (x4 = 0))) rfl (fun hb6 => ?_) (fun hb6 => ?_)
    · have h := ha hb6; clear ha hc
      refine CW.seq ?_
      refine CW.region ?_
      refine RL.opS trivial rfl (OpW.move (v := .int .i64 x4) rfl ?_)
      refine RL.opS trivial rfl (OpW.assign (v := .int .i64 x4) rfl ?_)
      refine RL.nil ?_
      refine CW.ret ?_
      exact ret_intro (res1 rfl rfl) ⟨x4, rfl, h⟩
    · have h := hc hb6; clear ha hc
      refine CW.skip ?_
      refine CW.seq ?_
      refine CW.seq ?_
      refine CW.region ?_
      refine RL.opS trivial rfl (OpW.move (v := .pointer p0) rfl ?_)
      obtain ⟨a7, ha8, h⟩ := h
      refine RL.opS trivial rfl (OpW.nilCheck (a := a7) (congrArg Value.pointer ha8) ?_)
      refine RL.opS trivial rfl (OpW.fieldAddr field_93_1 rfl ?_)
      obtain ⟨x9, h1, h⟩ := h
      refine RL.opS trivial rfl (OpW.load1 (v := Sl.v x9) one_91 rfl h1 ?_)
      refine RL.opS trivial rfl (OpW.len (s := x9) slice_91 rfl ?_)
      refine RL.opS trivial rfl (OpW.move (v := .int .i64 0) rfl ?_)
      refine RL.nil ?_
      refine CW.block ?_
      obtain ⟨I36, mu37, hI, hs⟩ := h
      refine CW.loop (σ := Int) (fun s10 ρ => ρ 18 = .int .i64 s10 ∧ ρ 0 = .pointer p0 ∧ ρ 16 = Sl.v x9 ∧ ρ 17 = .int .i64 (x9.len : Int)) I36 mu37 0 ⟨rfl, rfl, rfl, rfl⟩ hI ?_
      rintro s10 ρ w11 ⟨e13, e14, e15, e16⟩ hI
      have h := hs s10 w11 hI
      clear hs hI
      refine CW.seq ?_
      refine CW.region ?_
      refine RL.opS trivial rfl (OpW.bin (k := .i64) (a := s10) (b := (x9.len : Int)) (v := .bool (decide (s10 < (x9.len : Int)))) e13 e16 rfl ?_)
      refine RL.nil ?_
      refine CW.seq ?_
      obtain ⟨ha, hc⟩ := h
      refine CW.cond (b := (decide (s10 < (x9.len : Int)))) rfl (fun hb17 => ?_) (fun hb17 => ?_)
      · have h := ha hb17; clear ha hc
        refine CW.skip ?_
        refine CW.seq ?_
        refine CW.block ?_
        refine CW.seq ?_
        refine CW.region ?_
        obtain ⟨a18_, a18, h1, h2, h3, h4, h⟩ := h
        refine RL.opS trivial rfl (OpW.indexE (a' := a18) slice_91 e15 e13 h1 h2 h3 h4 ?_)
        obtain ⟨x20, h1, h2, h⟩ := h
        refine RL.opS trivial rfl (OpW.loadA agg_116 rfl h1 h2 ?_)
        obtain ⟨hl_b21, ho_b21, h⟩ := h
        obtain ⟨b21, hb21_⟩ : ∃ b_, b_ = w11.heap.size := ⟨_, rfl⟩
        obtain ⟨w22, hw22_⟩ : ∃ w_, w_ = w11.alloc (.cells (List.toArray x20) 116) := ⟨_, rfl⟩
        have h := h b21 w22 hb21_ hw22_
        refine RL.opS trivial rfl (OpW.allocZ (b := b21) zero_116 hb21_ ?_)
        refine RL.opN trivial (OpW.storeF (zs := ([Value.int .i64 0] ++ List.replicate 512 (Value.int .u8 0))) (cs := x20) size_116 rfl rfl hl_b21 (by decide) ho_b21 hb21_ hw22_ ?_)
        refine RL.nil ?_
        obtain ⟨w23, hw23_⟩ : ∃ w_, w_ = w22.drew := ⟨_, rfl⟩
        have h := h w23 hw23_
        have hx24 : Ext w22 w23 := by rw [hw23_]; exact Ext.drew _
        refine CW.draws (m := 11) (listed := #[false, false, false, false, false, false, false, false, false, false, false]) mixed [0, 1, 2, 3, 4, 5, 6, 7, 8, 9] (Ext w22) rfl rfl ?_
        rw [← hw23_]
        refine DL.takeP (listed' := #[true, false, false, false, false, false, false, false, false, false, false]) (v := .pointer p0) 0 rfl rfl (by kernel_rfl) rfl trivial rfl (fun w_ K_ h_ => OpW.move (v := .pointer p0) e14 h_) ?_
        obtain ⟨a25, ha26, h⟩ := h
        refine DL.takeP (listed' := #[true, true, false, false, false, false, false, false, false, false, false]) (v := .pointer (some a25)) 1 rfl rfl (by kernel_rfl) rfl trivial rfl (fun w_ K_ h_ => OpW.nilCheck (a := a25) (congrArg Value.pointer ha26) h_) ?_
        refine DL.takeP (listed' := #[true, true, true, false, false, false, false, false, false, false, false]) (v := .pointer (some (Addr.add a25 0))) 2 rfl rfl (by kernel_rfl) rfl trivial rfl (fun w_ K_ h_ => OpW.fieldAddr (off := 0) field_93_0 rfl h_) ?_
        obtain ⟨x27, h1, h⟩ := h
        refine DL.takeK (listed' := #[true, true, true, true, false, false, false, false, false, false, false]) (v := Sl.v x27) 3 rfl rfl (by kernel_rfl) (by kernel_rfl) rfl trivial rfl hx24 (fun w_ hS_ K_ h_ => OpW.load1 (v := Sl.v x27) one_90 rfl (hS_.cell h1) h_) ?_
        refine DL.takeP (listed' := #[true, true, true, true, true, false, false, false, false, false, false]) (v := .pointer (some (Addr.add ⟨b21, 0, none⟩ 0))) 4 rfl rfl (by kernel_rfl) rfl trivial rfl (fun w_ K_ h_ => OpW.fieldAddr (off := 0) field_116_0 rfl h_) ?_
        obtain ⟨x28, h1, h⟩ := h
        refine DL.takeK (listed' := #[true, true, true, true, true, true, false, false, false, false, false]) (v := .int .i64 x28) 5 rfl rfl (by kernel_rfl) (by kernel_rfl) rfl trivial rfl hx24 (fun w_ hS_ K_ h_ => OpW.load1 (v := .int .i64 x28) one_3 rfl (hS_.cell h1) h_) ?_
        refine DL.takeP (listed' := #[true, true, true, true, true, true, true, false, false, false, false]) (v := .pointer (some (Addr.add ⟨b21, 0, none⟩ 1))) 6 rfl rfl (by kernel_rfl) rfl trivial rfl (fun w_ K_ h_ => OpW.fieldAddr field_116_1 rfl h_) ?_
        obtain ⟨x29, h1, h2, h⟩ := h
        refine DL.takeK (listed' := #[true, true, true, true, true, true, true, true, false, false, false]) (v := aggv x29) 7 rfl rfl (by kernel_rfl) (by kernel_rfl) rfl trivial rfl hx24 (fun w_ hS_ K_ h_ => OpW.loadA agg_110 rfl h1 (hS_.at h2) h_) ?_
        obtain ⟨a30_, a30, h1, h2, h3, h4, h⟩ := h
        refine DL.takeP (listed' := #[true, true, true, true, true, true, true, true, true, false, false]) (v := .pointer (some a30)) 8 rfl rfl (by kernel_rfl) rfl trivial rfl (fun w_ K_ h_ => OpW.indexE (a' := a30) slice_90 rfl rfl h1 h2 h3 h4 h_) ?_
        refine DL.takeP (listed' := #[true, true, true, true, true, true, true, true, true, true, false]) (v := .pointer (some (Addr.add a30 512))) 9 rfl rfl (by kernel_rfl) rfl trivial rfl (fun w_ K_ h_ => OpW.fieldAddr field_112_1 rfl h_) ?_
        obtain ⟨g_, o_, e_, cur_, ha_, h1, h2, h3, h4, h⟩ := h
        obtain ⟨w32, hw32_⟩ : ∃ w_, w_ = w23.setRow g_ (cur_.toList.take o_ ++ x29 ++ cur_.toList.drop (o_ + List.length x29)).toArray := ⟨_, rfl⟩
        have h := h w32 hw32_
        refine DL.execN (listed' := #[true, true, true, true, true, true, true, true, true, true, true]) 10 rfl (by kernel_rfl) rfl trivial (OpW.storeAE (cs := x29) size_110 rfl rfl ha_ h1 h2 h3 h4 hw32_ ?_)
        refine ⟨(fun h_ => absurd h_ (by decide)), ?_⟩
        refine DL.done (by kernel_rfl) ?_
        refine CW.region ?_
        refine RL.opS trivial rfl (OpW.bin (k := .i64) (a := s10) (b := 1) (v := .int .i64 (IntKind.i64.wrap (s10 + 1))) e13 rfl rfl ?_)
        refine RL.opS trivial rfl (OpW.move (v := .int .i64 (IntKind.i64.wrap (s10 + 1))) rfl ?_)
        refine RL.nil ?_
        exact ⟨(IntKind.i64.wrap (s10 + 1)), ⟨rfl, e14, e15, e16⟩, h⟩
      · have h := hc hb17; clear ha hc
        refine CW.exit ?_
        refine CW.seq ?_
        refine CW.region ?_
        refine RL.opS trivial rfl (OpW.move (v := .pointer p0) e14 ?_)
        obtain ⟨a33, ha34, h⟩ := h
        refine RL.opS trivial rfl (OpW.nilCheck (a := a33) (congrArg Value.pointer ha34) ?_)
        refine RL.opS trivial rfl (OpW.fieldAddr field_93_1 rfl ?_)
        obtain ⟨u_, h1, h2, h⟩ := h
        obtain ⟨w35, hw35_⟩ : ∃ w_, w_ = w11.setCell (Addr.add a33 1) (Sl.v nilSl) := ⟨_, rfl⟩
        have h := h w35 hw35_
        refine RL.opN trivial (OpW.store1E (v := Sl.v nilSl) size_91 rfl rfl rfl h1 h2 hw35_ ?_)
        refine RL.nil ?_
        refine CW.seq ?_
        refine CW.region ?_
        refine RL.opS trivial rfl (OpW.assign (v := .int .i64 0) rfl ?_)
        refine RL.nil ?_
        refine CW.ret ?_
        exact ret_intro (res1 rfl rfl) ⟨0, rfl, h⟩
end Go.Proofs.Ytagkcbbbdlmcjaa
end
section
/- The typed readings of the functions, and that the program meets each: written by gen.py (a program of this session). -/
set_option linter.unusedVariables false
set_option linter.unusedSimpArgs false
namespace Go.Proofs.Ytagkcbbbdlmcjaa
open Go.Lift
set_option maxRecDepth 100000 in
set_option maxHeartbeats 4000000 in
theorem s36_calls (K : Option Addr → World → Prop) (p0 : Option Addr) (w : World) (h : s36 K p0 w) :
    Calls Try.prog 36 #[.pointer p0] w (Ret r36 K) := by
  unfold s36 at h
  refine calls_of_CW (n := 22) Try.func36 rfl rfl rfl ?_
  refine CW.seq ?_
  refine CW.region ?_
  refine RL.opS trivial rfl (OpW.assign (v := .pointer none) rfl ?_)
  refine RL.nil ?_
  refine CW.seq ?_
  refine CW.seq ?_
  refine CW.region ?_
  refine RL.opS trivial rfl (OpW.move (v := .pointer p0) rfl ?_)
  refine RL.opS trivial rfl (OpW.ptrNil (b := p0.isNone) (p := p0) ptr_31 rfl rfl rfl ?_)
  refine RL.nil ?_
  obtain ⟨ha, hc⟩ := h
  refine CW.cond (b := (p0.isNone)) rfl (fun hb1 => ?_) (fun hb1 => ?_)
  · have h := ha hb1; clear ha hc
    refine CW.seq ?_
    refine CW.region ?_
    refine RL.opS trivial rfl (OpW.assign (v := .pointer none) rfl ?_)
    refine RL.nil ?_
    refine CW.ret ?_
    exact ret_intro (res1 rfl rfl) ⟨none, rfl, h⟩
  · have h := hc hb1; clear ha hc
    refine CW.skip ?_
    refine CW.seq ?_
    refine CW.region ?_
    refine RL.opS trivial rfl (OpW.move (v := .pointer p0) rfl ?_)
    obtain ⟨a2, ha3, h⟩ := h
    refine RL.opS trivial rfl (OpW.nilCheck (a := a2) (congrArg Value.pointer ha3) ?_)
    obtain ⟨x4, h1, h2, h⟩ := h
    refine RL.opS trivial rfl (OpW.loadA agg_93 rfl h1 h2 ?_)
    obtain ⟨hl_b5, ho_b5, h⟩ := h
    obtain ⟨b5, hb5_⟩ : ∃ b_, b_ = w.heap.size := ⟨_, rfl⟩
    obtain ⟨w6, hw6_⟩ : ∃ w_, w_ = w.alloc (.cells (List.toArray x4) 93) := ⟨_, rfl⟩
    have h := h b5 w6 hb5_ hw6_
    refine RL.opS trivial rfl (OpW.allocZ (b := b5) zero_93 hb5_ ?_)
    refine RL.opN trivial (OpW.storeF (zs := [Value.slice none 0 0, Value.slice none 0 0, Value.slice none 0 0, Value.int .i64 0, Value.bool false]) (cs := x4) size_93 rfl rfl hl_b5 (by decide) ho_b5 hb5_ hw6_ ?_)
    refine RL.nil ?_
    refine CW.seq ?_
    obtain ⟨w7, hw7_⟩ : ∃ w_, w_ = w6.drew := ⟨_, rfl⟩
    have h := h w7 hw7_
    have hx8 : Ext w6 w7 := by rw [hw7_]; exact Ext.drew _
    refine CW.draws (m := 16) (listed := #[false, false, false, false, false, false, false, false, false, false, false, false, false, false, false, false]) mixed [0, 1, 2, 3, 4, 5, 6, 7, 8, 10, 12, 14] (Ext w6) rfl rfl ?_
    rw [← hw7_]
    refine DL.takeP (listed' := #[true, false, false, false, false, false, false, false, false, false, false, false, false, false, false, false]) (v := .pointer p0) 0 rfl rfl (by kernel_rfl) rfl trivial rfl (fun w_ K_ h_ => OpW.move (v := .pointer p0) rfl h_) ?_
    obtain ⟨a9, ha10, h⟩ := h
    refine DL.takeP (listed' := #[true, true, false, false, false, false, false, false, false, false, false, false, false, false, false, false]) (v := .pointer (some a9)) 1 rfl rfl (by kernel_rfl) rfl trivial rfl (fun w_ K_ h_ => OpW.nilCheck (a := a9) (congrArg Value.pointer ha10) h_) ?_
    refine DL.takeP (listed' := #[true, true, true, false, false, false, false, false, false, false, false, false, false, false, false, false]) (v := .pointer (some (Addr.add a9 0))) 2 rfl rfl (by kernel_rfl) rfl trivial rfl (fun w_ K_ h_ => OpW.fieldAddr (off := 0) field_93_0 rfl h_) ?_
    obtain ⟨x11, h1, h⟩ := h
    refine DL.takeK (listed' := #[true, true, true, true, false, false, false, false, false, false, false, false, false, false, false, false]) (v := Sl.v x11) 3 rfl rfl (by kernel_rfl) (by kernel_rfl) rfl trivial rfl hx8 (fun w_ hS_ K_ h_ => OpW.load1 (v := Sl.v x11) one_90 rfl (hS_.cell h1) h_) ?_
    refine DL.takeP (listed' := #[true, true, true, true, false, true, false, false, false, false, false, false, false, false, false, false]) (v := .pointer p0) 5 rfl rfl (by kernel_rfl) rfl trivial rfl (fun w_ K_ h_ => OpW.move (v := .pointer p0) rfl h_) ?_
    obtain ⟨a12, ha13, h⟩ := h
    refine DL.takeP (listed' := #[true, true, true, true, false, true, true, false, false, false, false, false, false, false, false, false]) (v := .pointer (some a12)) 6 rfl rfl (by kernel_rfl) rfl trivial rfl (fun w_ K_ h_ => OpW.nilCheck (a := a12) (congrArg Value.pointer ha13) h_) ?_
    refine DL.takeP (listed' := #[true, true, true, true, false, true, true, true, false, false, false, false, false, false, false, false]) (v := .pointer (some (Addr.add a12 1))) 7 rfl rfl (by kernel_rfl) rfl trivial rfl (fun w_ K_ h_ => OpW.fieldAddr field_93_1 rfl h_) ?_
    obtain ⟨x14, h1, h⟩ := h
    refine DL.takeK (listed' := #[true, true, true, true, false, true, true, true, true, false, false, false, false, false, false, false]) (v := Sl.v x14) 8 rfl rfl (by kernel_rfl) (by kernel_rfl) rfl trivial rfl hx8 (fun w_ hS_ K_ h_ => OpW.load1 (v := Sl.v x14) one_91 rfl (hS_.cell h1) h_) ?_
    refine DL.execS (listed' := #[true, true, true, true, true, true, true, true, true, false, false, false, false, false, false, false]) 4 rfl (by kernel_rfl) rfl trivial rfl (OpW.callR (al := [Sl.v x11]) Try.func62 fb_62 fn_62 rfl h (fun x15 w16 h => ?_))
    obtain ⟨hx17, h⟩ := h
    refine ⟨(fun _ _ => hx17), ?_⟩
    refine DL.execS (listed' := #[true, true, true, true, true, true, true, true, true, true, false, false, false, false, false, false]) 9 rfl (by kernel_rfl) rfl trivial rfl (OpW.callR (al := [Sl.v x14]) Try.func63 fb_63 fn_63 rfl h (fun x18 w19 h => ?_))
    refine ⟨(fun h_ => absurd h_ (by decide)), ?_⟩
    refine DL.takeP (listed' := #[true, true, true, true, true, true, true, true, true, true, true, false, false, false, false, false]) (v := .pointer (some (Addr.add ⟨b5, 0, none⟩ 0))) 10 rfl rfl (by kernel_rfl) rfl trivial rfl (fun w_ K_ h_ => OpW.fieldAddr (off := 0) field_93_0 rfl h_) ?_
    obtain ⟨u_, h1, h2, h⟩ := h
    obtain ⟨w20, hw20_⟩ : ∃ w_, w_ = w19.setCell (Addr.add ⟨b5, 0, none⟩ 0) (Sl.v x15) := ⟨_, rfl⟩
    have h := h w20 hw20_
    refine DL.execN (listed' := #[true, true, true, true, true, true, true, true, true, true, true, true, false, false, false, false]) 11 rfl (by kernel_rfl) rfl trivial (OpW.store1E (v := Sl.v x15) size_90 rfl rfl rfl h1 h2 hw20_ ?_)
    refine ⟨(fun h_ => absurd h_ (by decide)), ?_⟩
    refine DL.takeP (listed' := #[true, true, true, true, true, true, true, true, true, true, true, true, true, false, false, false]) (v := .pointer (some (Addr.add ⟨b5, 0, none⟩ 1))) 12 rfl rfl (by kernel_rfl) rfl trivial rfl (fun w_ K_ h_ => OpW.fieldAddr field_93_1 rfl h_) ?_
    obtain ⟨u_, h1, h2, h⟩ := h
    obtain ⟨w21, hw21_⟩ : ∃ w_, w_ = w20.setCell (Addr.add ⟨b5, 0, none⟩ 1) (Sl.v x18) := ⟨_, rfl⟩
    have h := h w21 hw21_
    refine DL.execN (listed' := #[true, true, true, true, true, true, true, true, true, true, true, true, true, true, false, false]) 13 rfl (by kernel_rfl) rfl trivial (OpW.store1E (v := Sl.v x18) size_91 rfl rfl rfl h1 h2 hw21_ ?_)
    refine ⟨(fun h_ => absurd h_ (by decide)), ?_⟩
    refine DL.takeP (listed' := #[true, true, true, true, true, true, true, true, true, true, true, true, true, true, true, false]) (v := .pointer (some (Addr.add ⟨b5, 0, none⟩ 2))) 14 rfl rfl (by kernel_rfl) rfl trivial rfl (fun w_ K_ h_ => OpW.fieldAddr field_93_2 rfl h_) ?_
    obtain ⟨u_, h1, h2, h⟩ := h
    obtain ⟨w22, hw22_⟩ : ∃ w_, w_ = w21.setCell (Addr.add ⟨b5, 0, none⟩ 2) (Sl.v nilSl) := ⟨_, rfl⟩
    have h := h w22 hw22_
    refine DL.execN (listed' := #[true, true, true, true, true, true, true, true, true, true, true, true, true, true, true, true]) 15 rfl (by kernel_rfl) rfl trivial (OpW.store1E (v := Sl.v nilSl) size_47 rfl rfl rfl h1 h2 hw22_ ?_)
    refine ⟨(fun h_ => absurd h_ (by decide)), ?_⟩
    refine DL.done (by kernel_rfl) ?_
    refine CW.seq ?_
    refine CW.region ?_
    refine RL.opS trivial rfl (OpW.assign (v := .pointer (some ⟨b5, 0, none⟩)) rfl ?_)
    refine RL.nil ?_
    refine CW.ret ?_
    exact ret_intro (res1 rfl rfl) ⟨some ⟨b5, 0, none⟩, rfl, h⟩
end Go.Proofs.Ytagkcbbbdlmcjaa
end
section
/- The typed readings of the functions, and that the program meets each: written by gen.py (a program of this session). -/
set_option linter.unusedVariables false
set_option linter.unusedSimpArgs false
namespace Go.Proofs.Ytagkcbbbdlmcjaa
open Go.Lift
set_option maxRecDepth 100000 in
set_option maxHeartbeats 4000000 in
theorem s60_calls (K : Sl → World → Prop) (p0 : Sl) (w : World) (h : s60 K p0 w) :
    Calls Try.prog 60 #[Sl.v p0] w (Ret r60 K) := by
  unfold s60 at h
  refine calls_of_CW (n := 9) Try.func60 rfl rfl rfl ?_
  refine CW.seq ?_
  refine CW.region ?_
  refine RL.opS trivial rfl (OpW.assign (v := Sl.v nilSl) rfl ?_)
  refine RL.nil ?_
  refine CW.seq ?_
  refine CW.region ?_
  refine RL.opS trivial rfl (OpW.move (v := Sl.v p0) rfl ?_)
  refine RL.opS trivial rfl (OpW.move (v := Sl.v p0) rfl ?_)
  refine RL.opS trivial rfl (OpW.len (s := p0) slice_91 rfl ?_)
  refine RL.opS trivial rfl (OpW.move (v := Sl.v p0) rfl ?_)
  refine RL.opS trivial rfl (OpW.len (s := p0) slice_91 rfl ?_)
  obtain ⟨⟨h1, h2, h3, h4⟩, h⟩ := h
  refine RL.opS trivial rfl (OpW.slice3 (l := 0) (h := (p0.len : Int)) (m := (p0.len : Int)) slice_91 rfl rfl rfl rfl h1 h2 h3 h4 ?_)
  refine RL.opS trivial rfl (OpW.assign (v := Sl.v (p0.cut 513 0 (p0.len : Int) (p0.len : Int))) rfl ?_)
  refine RL.nil ?_
  refine CW.ret ?_
  exact ret_intro (res1 rfl rfl) ⟨(p0.cut 513 0 (p0.len : Int) (p0.len : Int)), rfl, h⟩
end Go.Proofs.Ytagkcbbbdlmcjaa
end
section
/- The typed readings of the functions, and that the program meets each: written by gen.py (a program of this session). -/
set_option linter.unusedVariables false
set_option linter.unusedSimpArgs false
namespace Go.Proofs.Ytagkcbbbdlmcjaa
open Go.Lift
set_option maxRecDepth 100000 in
set_option maxHeartbeats 4000000 in
theorem s61_calls (K : Int → World → Prop) (p0 : Option Addr) (w : World) (h : s61 K p0 w) :
    Calls Try.prog 61 #[.pointer p0] w (Ret r61 K) := by
  unfold s61 at h
  refine calls_of_CW (n := 34) Try.func61 rfl rfl rfl ?_
  refine CW.seq ?_
  refine CW.region ?_
  refine RL.opS trivial rfl (OpW.assign (v := .int .i64 0) rfl ?_)
  refine RL.nil ?_
  refine CW.seq ?_
  refine CW.region ?_
  refine RL.opS trivial rfl (OpW.move (v := .pointer p0) rfl ?_)
  obtain ⟨a1, ha2, h⟩ := h
  refine RL.opS trivial rfl (OpW.nilCheck (a := a1) (congrArg Value.pointer ha2) ?_)
  refine RL.opS trivial rfl (OpW.fieldAddr field_93_3 rfl ?_)
  obtain ⟨x3, h1, h⟩ := h
  refine RL.opS trivial rfl (OpW.load1 (v := .int .i64 x3) one_3 rfl h1 ?_)
  refine RL.opS trivial rfl (OpW.assign (v := .int .i64 x3) rfl ?_)
  refine RL.nil ?_
  refine CW.seq ?_
  refine CW.region ?_
  refine RL.opS trivial rfl (OpW.move (v := .pointer p0) rfl ?_)
  obtain ⟨a4, ha5, h⟩ := h
  refine RL.opS trivial rfl (OpW.nilCheck (a := a4) (congrArg Value.pointer ha5) ?_)
  refine RL.opS trivial rfl (OpW.fieldAddr field_93_3 rfl ?_)
  obtain ⟨x6, h1, h⟩ := h
  refine RL.opS trivial rfl (OpW.load1 (v := .int .i64 x6) one_3 rfl h1 ?_)
  refine RL.opS trivial rfl (OpW.bin (k := .i64) (a := x6) (b := 1) (v := .int .i64 (IntKind.i64.wrap (x6 + 1))) rfl rfl rfl ?_)
  obtain ⟨a7, ha8, h⟩ := h
  refine RL.opS trivial rfl (OpW.nilCheck (a := a7) (congrArg Value.pointer ha8) ?_)
  refine RL.opS trivial rfl (OpW.fieldAddr field_93_3 rfl ?_)
  obtain ⟨u_, h1, h2, h⟩ := h
  obtain ⟨w9, hw9_⟩ : ∃ w_, w_ = w.setCell (Addr.add a7 3) (.int .i64 (IntKind.i64.wrap (x6 + 1))) := ⟨_, rfl⟩
  have h := h w9 hw9_
  refine RL.opN trivial (OpW.store1E (v := .int .i64 (IntKind.i64.wrap (x6 + 1))) size_3 rfl rfl rfl h1 h2 hw9_ ?_)
  refine RL.nil ?_
  refine CW.seq ?_
  refine CW.seq ?_
  refine CW.region ?_
  refine RL.opS trivial rfl (OpW.move (v := .pointer p0) rfl ?_)
  obtain ⟨a10, ha11, h⟩ := h
  refine RL.opS trivial rfl (OpW.nilCheck (a := a10) (congrArg Value.pointer ha11) ?_)
  refine RL.opS trivial rfl (OpW.fieldAddr field_93_2 rfl ?_)
  obtain ⟨x12, h1, h⟩ := h
  refine RL.opS trivial rfl (OpW.load1 (v := Sl.v x12) one_47 rfl h1 ?_)
  refine RL.opS trivial rfl (OpW.len (s := x12) slice_47 rfl ?_)
  refine RL.opS trivial rfl (OpW.move (v := .int .i64 0) rfl ?_)
  refine RL.nil ?_
  refine CW.block ?_
  obtain ⟨I32, mu33, hI, hs⟩ := h
  refine CW.loop (σ := Int) (fun s13 ρ => ρ 22 = .int .i64 s13 ∧ ρ 0 = .pointer p0 ∧ ρ 3 = .int .i64 x3 ∧ ρ 20 = Sl.v x12 ∧ ρ 21 = .int .i64 (x12.len : Int)) I32 mu33 0 ⟨rfl, rfl, rfl, rfl, rfl⟩ hI ?_
  rintro s13 ρ w14 ⟨e16, e17, e18, e19, e20⟩ hI
  have h := hs s13 w14 hI
  clear hs hI
  refine CW.seq ?_
  refine CW.region ?_
  refine RL.opS trivial rfl (OpW.bin (k := .i64) (a := s13) (b := (x12.len : Int)) (v := .bool (decide (s13 < (x12.len : Int)))) e16 e20 rfl ?_)
  refine RL.nil ?_
  refine CW.seq ?_
  obtain ⟨ha, hc⟩ := h
  refine CW.cond (b := (decide (s13 < (x12.len : Int)))) rfl (fun hb21 => ?_) (fun hb21 => ?_)
  · have h := ha hb21; clear ha hc
    refine CW.skip ?_
    refine CW.seq ?_
    refine CW.block ?_
    refine CW.seq ?_
    refine CW.region ?_
    obtain ⟨a22_, a22, h1, h2, h3, h4, h⟩ := h
    refine RL.opS trivial rfl (OpW.indexE (a' := a22) slice_47 e19 e16 h1 h2 h3 h4 ?_)
    obtain ⟨x24, h1, h2, h⟩ := h
    refine RL.opS trivial rfl (OpW.loadA agg_27 rfl h1 h2 ?_)
    obtain ⟨hl_b25, ho_b25, h⟩ := h
    obtain ⟨b25, hb25_⟩ : ∃ b_, b_ = w14.heap.size := ⟨_, rfl⟩
    obtain ⟨w26, hw26_⟩ : ∃ w_, w_ = w14.alloc (.cells (List.toArray x24) 27) := ⟨_, rfl⟩
    have h := h b25 w26 hb25_ hw26_
    refine RL.opS trivial rfl (OpW.allocZ (b := b25) zero_27 hb25_ ?_)
    refine RL.opN trivial (OpW.storeF (zs := [Value.int .i64 0, Value.int .u64 0, Value.int .i64 0]) (cs := x24) size_27 rfl rfl hl_b25 (by decide) ho_b25 hb25_ hw26_ ?_)
    refine RL.nil ?_
    refine CW.seq ?_
    refine CW.region ?_
    refine RL.opS trivial rfl (OpW.fieldAddr (off := 0) field_27_0 rfl ?_)
    obtain ⟨x27, h1, h⟩ := h
    refine RL.opS trivial rfl (OpW.load1 (v := .int .i64 x27) one_3 rfl h1 ?_)
    refine RL.opS trivial rfl (OpW.move (v := .int .i64 x3) e18 ?_)
    refine RL.opS trivial rfl (OpW.bin (k := .i64) (a := x27) (b := x3) (v := .bool (decide (x27 = x3))) rfl rfl rfl ?_)
    refine RL.nil ?_
    obtain ⟨ha, hc⟩ := h
    refine CW.cond (b := (decide (x27 = x3))) rfl (fun hb28 => ?_) (fun hb28 => ?_)
    · have h := ha hb28; clear ha hc
      refine CW.seq ?_
      refine CW.region ?_
      refine RL.opS trivial rfl (OpW.move (v := .pointer p0) e17 ?_)
      obtain ⟨x29, h1, h2, h⟩ := h
      refine RL.opS trivial rfl (OpW.loadA agg_27 rfl h1 h2 ?_)
      refine RL.opS trivial rfl (OpW.callR (al := [.pointer p0, aggv x29]) Try.func35 fb_35 fn_35 rfl h (fun x30 w31 h => ?_))
      refine RL.nil ?_
      refine CW.seq ?_
      refine CW.region ?_
      refine RL.opS trivial rfl (OpW.assign (v := .int .i64 6) rfl ?_)
      refine RL.nil ?_
      refine CW.ret ?_
      exact ret_intro (res1 rfl rfl) ⟨6, rfl, h⟩
    · have h := hc hb28; clear ha hc
      refine CW.skip ?_
      refine CW.region ?_
      refine RL.opS trivial rfl (OpW.bin (k := .i64) (a := s13) (b := 1) (v := .int .i64 (IntKind.i64.wrap (s13 + 1))) e16 rfl rfl ?_)
      refine RL.opS trivial rfl (OpW.move (v := .int .i64 (IntKind.i64.wrap (s13 + 1))) rfl ?_)
      refine RL.nil ?_
      exact ⟨(IntKind.i64.wrap (s13 + 1)), ⟨rfl, e17, e18, e19, e20⟩, h⟩
  · have h := hc hb21; clear ha hc
    refine CW.exit ?_
    refine CW.seq ?_
    refine CW.region ?_
    refine RL.opS trivial rfl (OpW.assign (v := .int .i64 0) rfl ?_)
    refine RL.nil ?_
    refine CW.ret ?_
    exact ret_intro (res1 rfl rfl) ⟨0, rfl, h⟩
end Go.Proofs.Ytagkcbbbdlmcjaa
end
section
/- The typed readings of the functions, and that the program meets each: written by gen.py (a program of this session). -/
set_option linter.unusedVariables false
set_option linter.unusedSimpArgs false
namespace Go.Proofs.Ytagkcbbbdlmcjaa
open Go.Lift
set_option maxRecDepth 100000 in
set_option maxHeartbeats 4000000 in
theorem s62_calls (K : Sl → World → Prop) (p0 : Sl) (w : World) (h : s62 K p0 w) :
    Calls Try.prog 62 #[Sl.v p0] w (Ret r62 K) := by
  unfold s62 at h
  refine calls_of_CW (n := 8) Try.func62 rfl rfl rfl ?_
  refine CW.seq ?_
  refine CW.region ?_
  refine RL.opS trivial rfl (OpW.assign (v := Sl.v nilSl) rfl ?_)
  refine RL.nil ?_
  refine CW.seq ?_
  refine CW.seq ?_
  refine CW.region ?_
  refine RL.opS trivial rfl (OpW.move (v := Sl.v p0) rfl ?_)
  refine RL.opS trivial rfl (OpW.slNil (b := p0.a.isNone) (s := p0) slice_90 rfl rfl rfl ?_)
  refine RL.nil ?_
  obtain ⟨ha, hc⟩ := h
  refine CW.cond (b := (p0.a.isNone)) rfl (fun hb1 => ?_) (fun hb1 => ?_)
  · have h := ha hb1; clear ha hc
    refine CW.seq ?_
    refine CW.region ?_
    refine RL.opS trivial rfl (OpW.assign (v := Sl.v nilSl) rfl ?_)
    refine RL.nil ?_
    refine CW.ret ?_
    exact ret_intro (res1 rfl rfl) ⟨nilSl, rfl, h⟩
  · have h := hc hb1; clear ha hc
    refine CW.skip ?_
    refine CW.seq ?_
    refine CW.region ?_
    obtain ⟨b2, hb2_⟩ : ∃ b_, b_ = w.heap.size := ⟨_, rfl⟩
    obtain ⟨w3, hw3_⟩ : ∃ w_, w_ = w.alloc (.cells (List.toArray []) 112) := ⟨_, rfl⟩
    have h := h b2 w3 hb2_ hw3_
    refine RL.opS trivial rfl (OpW.buildSliceE (vs := []) (cs := []) (by rfl) (by kernel_rfl) hb2_ hw3_ ?_)
    refine RL.opS trivial rfl (OpW.move (v := Sl.v p0) rfl ?_)
    obtain ⟨x4, w5, hr_, h⟩ := h
    refine RL.opS trivial rfl (OpW.appendL (v := Sl.v x4) rfl hr_ ?_)
    refine RL.opS trivial rfl (OpW.assign (v := Sl.v x4) rfl ?_)
    refine RL.nil ?_
    refine CW.ret ?_
    exact ret_intro (res1 rfl rfl) ⟨x4, rfl, h⟩
end Go.Proofs.Ytagkcbbbdlmcjaa
end
section
/- The typed readings of the functions, and that the program meets each: written by gen.py (a program of this session). -/
set_option linter.unusedVariables false
set_option linter.unusedSimpArgs false
namespace Go.Proofs.Ytagkcbbbdlmcjaa
open Go.Lift
set_option maxRecDepth 100000 in
set_option maxHeartbeats 4000000 in
theorem s63_calls (K : Sl → World → Prop) (p0 : Sl) (w : World) (h : s63 K p0 w) :
    Calls Try.prog 63 #[Sl.v p0] w (Ret r63 K) := by
  unfold s63 at h
  refine calls_of_CW (n := 8) Try.func63 rfl rfl rfl ?_
  refine CW.seq ?_
  refine CW.region ?_
  refine RL.opS trivial rfl (OpW.assign (v := Sl.v nilSl) rfl ?_)
  refine RL.nil ?_
  refine CW.seq ?_
  refine CW.seq ?_
  refine CW.region ?_
  refine RL.opS trivial rfl (OpW.move (v := Sl.v p0) rfl ?_)
  refine RL.opS trivial rfl (OpW.slNil (b := p0.a.isNone) (s := p0) slice_91 rfl rfl rfl ?_)
  refine RL.nil ?_
  obtain ⟨ha, hc⟩ := h
  refine CW.cond (b := (p0.a.isNone)) rfl (fun hb1 => ?_) (fun hb1 => ?_)
  · have h := ha hb1; clear ha hc
    refine CW.seq ?_
    refine CW.region ?_
    refine RL.opS trivial rfl (OpW.assign (v := Sl.v nilSl) rfl ?_)
    refine RL.nil ?_
    refine CW.ret ?_
    exact ret_intro (res1 rfl rfl) ⟨nilSl, rfl, h⟩
  · have h := hc hb1; clear ha hc
    refine CW.skip ?_
    refine CW.seq ?_
    refine CW.region ?_
    obtain ⟨b2, hb2_⟩ : ∃ b_, b_ = w.heap.size := ⟨_, rfl⟩
    obtain ⟨w3, hw3_⟩ : ∃ w_, w_ = w.alloc (.cells (List.toArray []) 116) := ⟨_, rfl⟩
    have h := h b2 w3 hb2_ hw3_
    refine RL.opS trivial rfl (OpW.buildSliceE (vs := []) (cs := []) (by rfl) (by kernel_rfl) hb2_ hw3_ ?_)
    refine RL.opS trivial rfl (OpW.move (v := Sl.v p0) rfl ?_)
    obtain ⟨x4, w5, hr_, h⟩ := h
    refine RL.opS trivial rfl (OpW.appendL (v := Sl.v x4) rfl hr_ ?_)
    refine RL.opS trivial rfl (OpW.assign (v := Sl.v x4) rfl ?_)
    refine RL.nil ?_
    refine CW.ret ?_
    exact ret_intro (res1 rfl rfl) ⟨x4, rfl, h⟩
end Go.Proofs.Ytagkcbbbdlmcjaa
end
section
/- What the disk's functions do that change it. -/
set_option linter.unusedVariables false
set_option linter.unusedSimpArgs false
namespace Go.Proofs.Ytagkcbbbdlmcjaa
open Go.Lift Go.Lift.Disk Go.RowKit
theorem fall_one (f : Fall) : ∀ v ∈ fallOf f, v.oneCell' = true := by
  intro v hv
  simp only [fallOf, List.mem_cons, List.not_mem_nil, or_false] at hv
  rcases hv with rfl | rfl | rfl <;> rfl
def Dk.tick (D : Dk) : Dk := { D with changes := D.changes + 1 }
theorem strike_none {D : Dk} (h : D.falls.find? (fun f => f.1 == (D.changes : Int)) = none) : D.strike = (Dk.tick D, 0) := by unfold Dk.strike; rw [h]; rfl
theorem strike_some {D : Dk} {f : Fall} (h : D.falls.find? (fun f => f.1 == (D.changes : Int)) = some f) : D.strike = ((Dk.tick D).crash f, 6) := by unfold Dk.strike; rw [h]; rfl
section
variable {w : World} {base : Nat → Prop} {pd bb : Nat} {D : Dk}
theorem strike_ok (h : DAt w base pd bb D) (hch : D.changes < 1000000000) : Calls Try.prog 61 #[.pointer (dp pd)] w (Ret r61 fun x w' => x = D.strike.2 ∧ DAt w' base pd bb D.strike.1 ∧ Fr (Foot pd bb) w w') := by
  obtain ⟨c, r, sp, sf, h⟩ := h
  have hwf := h.wf
  apply s61_calls
  refine ⟨_, rfl, (D.changes : Int), by rw [add_plain]; exact h.disk.cell rfl, _, rfl, (D.changes : Int), by rw [add_plain]; exact h.disk.cell rfl, _, rfl, ?_⟩
  show st1 _ _ _ _
  rw [add_plain, w64_eq (by omega) (by omega)]
  refine st1_blk h.disk (Nat.lt_of_lt_of_le (Nat.lt_succ_self 3) (Nat.le_succ 4)) fun w9 hb9 hf9 => ?_
  have h9 : DX w9 base pd bb c r sp sf (Dk.tick D) := by
    refine ⟨⟨hwf.pos, hwf.few, hwf.bl, hwf.pend, hwf.plen, hwf.keep, hwf.flen, by unfold Dk.tick; simp only; omega⟩, h.hpd, h.hbb, h.hne, h.hcap, ?_, h.rows.fr hf9 h.hne.symm, h.pend.fr hf9 fun k _ hk e => hk (.inl e), h.falls.fr hf9 fun k _ hk e => hk (.inl e)⟩
    have : ((D.changes + 1 : Nat) : Int) = (D.changes : Int) + 1 := by omega
    unfold Dk.tick
    simp only [this]
    exact hb9
  have hfl := fall_len h.falls
  refine ⟨_, rfl, sf, by rw [add_plain]; exact h9.disk.cell rfl, ?_⟩
  refine ⟨fun s w' => ∃ k : Nat, k ≤ D.falls.length ∧ s = (k : Int) ∧ DX w' base pd bb c r sp sf (Dk.tick D) ∧ Fr (Foot pd bb) w w' ∧ (D.falls.take k).find? (fun f => f.1 == (D.changes : Int)) = none,
    fun s _ => D.falls.length - s.toNat, ⟨0, Nat.zero_le _, rfl, h9, footFr_pd hf9, by simp⟩, ?_⟩
  rintro s w14 ⟨k, hk, rfl, hX, hfr, hno⟩
  refine ⟨fun hlt => ?_, fun hge => ?_⟩
  · have hkl : k < D.falls.length := by have := of_decide_eq_true hlt; omega
    have hsplit : D.falls = D.falls.take k ++ D.falls[k] :: D.falls.drop (k + 1) := by rw [← List.drop_eq_getElem_cons hkl, List.take_append_drop]
    obtain ⟨a, ha, hat⟩ := hX.falls.row (by decide) (k := k) (by omega)
    have e := fallC_at hkl
    have hat : At w14 (a.add (k * 3)) (fallOf D.falls[k]) := by rw [← e]; exact hat
    refine ⟨a, _, ha, by omega, by omega, rfl, ?_⟩
    rw [Int.toNat_natCast]
    refine ⟨_, rfl, hat, rfl, fall_one _, fun b25 w26 hb25 hw26 => ?_⟩
    have hx26 : Ext w14 w26 := Ext.new hw26
    have hB : Blk w26 b25 27 (fallOf D.falls[k]) := Blk.new hb25 hw26
    refine ⟨D.falls[k].1, by rw [add_plain]; exact hB.cell rfl, ?_⟩
    refine ⟨fun heq => ?_, fun hne => ?_⟩
    · have heq := of_decide_eq_true heq
      have hfind : D.falls.find? (fun f => f.1 == (D.changes : Int)) = some D.falls[k] := by
        have e2 := congrArg (fun l : List Fall => l.find? (fun f => f.1 == (D.changes : Int))) hsplit
        refine e2.trans ?_
        show List.find? _ (_ ++ _) = _
        rw [List.find?_append, hno, List.find?_cons_of_pos (by simp [heq])]
        rfl
      refine ⟨fallOf D.falls[k], rfl, hB.at rfl, ?_⟩
      refine cR_of (crash_ok (D := Dk.tick D) ⟨c, r, sp, sf, hX.ext hx26⟩ D.falls[k] (hwf.keep _ (List.getElem_mem hkl))) ?_
      rintro x w' ⟨h1, h2⟩
      rw [strike_some hfind]
      exact ⟨rfl, h1, (hfr.trans (Fr.of hx26)).trans h2⟩
    · have hne := of_decide_eq_false hne
      have := hwf.flen
      rw [w64_eq (by omega) (by omega)]
      refine ⟨⟨k + 1, by omega, by omega, hX.ext hx26, hfr.trans (Fr.of hx26), ?_⟩, by simp only; omega⟩
      rw [List.take_succ_eq_append_getElem hkl, List.find?_append, hno]
      simp [hne]
  · have hge : k = D.falls.length := by have := of_decide_eq_false hge; omega
    subst hge
    rw [List.take_length] at hno
    rw [strike_none hno]
    exact ⟨rfl, ⟨c, r, sp, sf, hX⟩, hfr⟩

theorem flush_ok (h : DAt w base pd bb D) (hch : D.changes < 1000000000) : Calls Try.prog 34 #[.pointer (dp pd)] w (Ret r34 fun x w' => x = D.flush.2 ∧ DAt w' base pd bb D.flush.1 ∧ Fr (Foot pd bb) w w') := by
  apply s34_calls
  refine cR_of (down_ok h) ?_
  rintro x w' ⟨rfl, rfl⟩
  unfold Dk.flush
  refine ⟨fun hd => ?_, fun hd => ?_⟩
  · rw [if_pos hd]; exact ⟨rfl, h, Fr.refl _⟩
  rw [if_neg (by rw [hd]; simp)]
  refine cR_of (strike_ok h hch) ?_
  rintro x w5 ⟨rfl, h5, hf5⟩
  refine ⟨fun hne => ?_, fun he => ?_⟩
  · rw [if_pos (nd_t hne)]; exact ⟨rfl, h5, hf5⟩
  have he := nd_f he
  rw [if_neg (by rw [he]; simp)]
  generalize D.strike.1 = E at h5 ⊢
  obtain ⟨c, r, sp, sf, h5⟩ := h5
  have hwf := h5.wf
  have hpl := pend_len h5.pend fun p hp => (hwf.pend p hp).2
  refine ⟨_, rfl, sp, by rw [add_plain]; exact h5.disk.cell rfl, ?_⟩
  refine ⟨fun s w' => ∃ (k : Nat), k ≤ E.pend.length ∧ s = (k : Int) ∧ DX w' base pd bb c r sp sf { E with bl := flushL E.bl (E.pend.take k) } ∧ Fr (Foot pd bb) w w' ∧ (flushL E.bl (E.pend.take k)).length = E.bl.length,
    fun s _ => E.pend.length - s.toNat, ⟨0, Nat.zero_le _, rfl, h5, hf5, rfl⟩, ?_⟩
  rintro s w11 ⟨k, hk, rfl, hX, hfr, hll⟩
  have hfs : ∀ (hkp : k < E.pend.length), flushL E.bl (E.pend.take (k + 1)) = setSure (flushL E.bl (E.pend.take k)) E.pend[k].1 E.pend[k].2 := by
    intro hkp
    unfold flushL
    rw [List.take_succ_eq_append_getElem hkp, List.foldl_append]
    rfl
  generalize hl : flushL E.bl (E.pend.take k) = l at hX hll hfs
  refine ⟨fun hlt => ?_, fun hge => ?_⟩
  · have hkp : k < E.pend.length := by have := of_decide_eq_true hlt; omega
    obtain ⟨hpi, hp512⟩ := hwf.pend _ (List.getElem_mem hkp)
    have hpi' : E.pend[k].1 < l.length := by rw [hll]; exact hpi
    obtain ⟨a, ha, hat⟩ := hX.pend.row (by decide) (k := k) (by omega)
    rw [pendC_at (fun p hp => (hwf.pend p hp).2) hkp] at hat
    refine ⟨a, _, ha, by omega, by omega, rfl, ?_⟩
    rw [Int.toNat_natCast]
    refine ⟨_, by simp [u8s_len, hp512], hat, ?_⟩
    refine ⟨by simp [u8s_len, hp512], one_pend, fun b21 w22 hb21 hw22 => ?_⟩
    have hx22 : Ext w11 w22 := Ext.new hw22
    have hX22 := hX.ext hx22
    have hB : Blk w22 b21 116 (.int .i64 (E.pend[k].1 : Int) :: u8s E.pend[k].2) := Blk.new hb21 hw22
    intro w23 hw23
    have hx23 : Ext w22 w23 := by subst hw23; exact Ext.drew _
    refine ⟨_, rfl, ⟨some ⟨bb, 0, none⟩, l.length, c⟩, by rw [add_plain]; exact hX22.disk.cell rfl, ?_⟩
    refine ⟨(E.pend[k].1 : Int), by rw [add_plain]; exact hB.cell rfl, ?_⟩
    refine ⟨u8s E.pend[k].2, by rw [u8s_len, hp512], by rw [add_plain]; exact hB.at (by rw [List.drop_succ_cons, List.drop_zero, List.take_length]), ?_⟩
    refine ⟨⟨bb, 0, none⟩, _, rfl, by omega, by simpa using hpi', rfl, ?_⟩
    show stA _ _ _ _ _
    simp only [add_plain, Nat.zero_add, Int.toNat_natCast, Nat.mul_comm _ 1024]
    have hsz : (u8s (flatB l) ++ r).length ≥ 1024 * E.pend[k].1 + 1024 := by
      have := flat_len hX.wf.bl
      simp only at this
      rw [List.length_append, u8s_len, this]
      omega
    have hX23 := hX22.ext hx23
    refine stA_blk hX23.rows (by rw [u8s_len, hp512]) (by show _ ≤ (u8s (flatB l) ++ r).length; omega) (u8s_one _) fun w' hb' hf' => ?_
    have e := splice_sure hX.wf.bl hpi' hp512 r
    rw [e] at hb'
    have := hwf.plen
    rw [w64_eq (by omega) (by omega)]
    refine ⟨⟨k + 1, by omega, by omega, ?_, ((hfr.trans (Fr.of hx22)).trans (Fr.of hx23)).trans (footFr_bb hf'), by rw [hfs hkp, setSure_len, hll]⟩, by first | omega | (simp only; omega)⟩
    rw [hfs hkp]
    exact hX23.setRows (D := { E with bl := l }) hb' hf' (setSure_len _ _ _) (setSure_wf hX.wf.bl hpi' hp512)
  · have hge : k = E.pend.length := by have := of_decide_eq_false hge; omega
    subst hge
    rw [List.take_length] at hl
    refine ⟨_, rfl, ?_⟩
    show st1 _ _ _ _
    rw [add_plain]
    refine st1_blk hX.disk (Nat.succ_lt_succ (Nat.zero_lt_succ _)) fun w35 hb35 hf35 => ?_
    refine ⟨rfl, ⟨c, r, nilSl, sf, ?_⟩, hfr.trans (footFr_pd hf35)⟩
    rw [hl]
    have hz := hX.wf
    exact ⟨⟨hz.pos, hz.few, hz.bl, by simp, by simp, hz.keep, hz.flen, hz.ch⟩, h5.hpd, h5.hbb, h5.hne, hX.hcap, hb35, hX.rows.fr hf35 h5.hne.symm, SlAt.nilAt _ _ _ _ _, hX.falls.fr hf35 fun k _ hk e => hk (.inl e)⟩

/-! ### a write -/
theorem clip_ok (s : Sl) (hs : s.len ≤ s.cap) : Calls Try.prog 60 #[s.v] w (Ret r60 fun x w' => x = ⟨s.a, s.len, s.len⟩ ∧ w = w') := by
  apply s60_calls
  refine ⟨⟨by omega, by omega, by omega, by omega⟩, ?_, rfl⟩
  simp [Sl.cut, Addr.add]
theorem Own.slAt {w' : World} {B e sz : Nat} {s : Sl} {xs : List Value} (ho : Own w' B e sz s xs) (hb : ∀ k, B ≤ k → base k) (h1 : pd < B) (h2 : bb < B) : SlAt w' base pd bb sz s xs := by
  refine ⟨ho.length, ho.cap, ?_, ho.at, ?_⟩
  · intro hn
    obtain ⟨a, l, c⟩ := s
    simp only at hn
    subst hn
    rcases ho.2 with ⟨h1, h2⟩ | ⟨g, cap, cur, h1, _⟩
    · simp only [Value.slice.injEq] at h1
      obtain ⟨_, rfl, rfl⟩ := h1
      rfl
    · simp at h1
  · intro a ha
    obtain ⟨sa, l, c⟩ := s
    simp only at ha
    subst ha
    rcases ho.2 with ⟨h1, h2⟩ | ⟨g, cap, cur, h1, h3, h5, _⟩
    · simp at h1
    · simp only [Value.slice.injEq, Option.some.injEq] at h1
      obtain ⟨rfl, _, _⟩ := h1
      exact ⟨hb _ h3, (Array.getElem?_eq_some_iff.1 h5).1, by rintro (e | e) <;> simp only at e <;> omega⟩
theorem write_ok (h : DAt w base pd bb D) (hch : D.changes < 1000000000) (hpn : D.pend.length < 1000000) (hB : ∀ k, w.heap.size ≤ k → base k) (i : Int) (p : Sl) (bs : List UInt8) (hp : Bytes w p bs) :
    Calls Try.prog 33 #[.pointer (dp pd), .int .i64 i, p.v] w (Ret r33 fun x w' => x = (D.write i bs).2 ∧ DAt w' base pd bb (D.write i bs).1 ∧ Fr (Foot pd bb) w w') := by
  apply s33_calls
  refine cR_of (has_ok h i) ?_
  rintro x w' ⟨rfl, rfl⟩
  unfold Dk.write
  refine ⟨fun hne => ?_, fun he => ?_⟩
  · rw [if_pos (nd_t hne)]; exact ⟨rfl, h, Fr.refl _⟩
  have he := nd_f he
  rw [if_neg (by rw [he]; simp)]
  have hpl := hp.1
  refine ⟨fun hne => ?_, fun hl => ?_⟩
  · have hne := nd_t hne
    rw [if_pos (by omega)]; exact ⟨rfl, h, Fr.refl _⟩
  have hl := nd_f hl
  have h512 : bs.length = 512 := by omega
  rw [if_neg (by omega)]
  obtain ⟨hd, hi0, hi1⟩ := why_zero he
  obtain ⟨n, rfl⟩ := Int.eq_ofNat_of_zero_le hi0
  have hn : n < D.bl.length := by omega
  rw [Int.toNat_natCast]
  obtain ⟨c, r, sp, sf, h⟩ := h
  have hwf := h.wf
  refine ⟨by rw [List.length_append, List.length_replicate]; rfl, ?_, ?_⟩
  · intro v hv
    rcases List.mem_append.1 hv with hv | hv
    · obtain rfl : v = _ := by simpa using hv
      rfl
    · rw [List.eq_of_mem_replicate hv]; rfl
  intro b5 w6 hb5 hw6
  have hx6 : Ext w w6 := Ext.new hw6
  have hB6 : Blk w6 b5 116 ([.int .i64 (n : Int)] ++ List.replicate 512 (Value.int .u8 0)) := Blk.new hb5 hw6
  have hpdl := h.disk.lt
  have hbbl := h.rows.lt
  have hb5n : ¬ Foot pd bb b5 := by rintro (e | e) <;> omega
  have e1 : Sl.cut ⟨some (Addr.add ⟨b5, 0, none⟩ 1), 512, 512⟩ 1 0 512 512 = ⟨some ⟨b5, 1, none⟩, 512, 512⟩ := by rw [add_plain]; exact cut_to _ 512 512 (by decide)
  rw [e1]
  have hp6 := hp.ext hx6
  refine cpy_blk (g := b5) (e := 116) (cs := u8s bs) mk_39 hB6 (by rw [u8s_len]; show bs.length = min p.len 512; omega) hp6.2 (by rw [u8s_len, List.length_append, List.length_replicate, List.length_singleton]; omega) (u8s_one _) ?_ fun w8 hb8 hf8 => ?_
  · intro hn
    have := hp.2
    rw [hn] at this
    have h0 : u8s bs = [] := this
    have := congrArg List.length h0
    rw [u8s_len] at this
    simp at this
    rw [this] at h512; cases h512
  have ecell : splice ([.int .i64 (n : Int)] ++ List.replicate 512 (Value.int .u8 0)) 1 (u8s bs) = .int .i64 (n : Int) :: u8s bs := by
    have := splice_mid [.int .i64 (n : Int)] (List.replicate 512 (Value.int .u8 0)) (u8s bs) [] 1 rfl (by rw [List.length_replicate, u8s_len, h512])
    rw [List.append_nil, List.append_nil] at this
    exact this
  rw [ecell] at hb8
  have hx8 : Ext w w8 := hf8.ext hx6 fun k _ e => by rw [e, hb5]; exact Nat.le_refl _
  have h8 := h.ext hx8
  intro w9 hw9
  have hx9 : Ext w8 w9 := by subst hw9; exact Ext.drew _
  refine ⟨_, rfl, ⟨some ⟨bb, 0, none⟩, D.bl.length, c⟩, by rw [add_plain]; exact h8.disk.cell rfl, ?_⟩
  refine ⟨u8s bs, by rw [u8s_len, h512], by rw [add_plain]; exact hb8.at (by rw [List.drop_succ_cons, List.drop_zero, List.take_length]), ?_⟩
  refine ⟨⟨bb, 0, none⟩, _, rfl, by omega, by simpa using hn, rfl, ?_⟩
  show stA _ _ _ _ _
  simp only [add_plain, Nat.zero_add, Int.toNat_natCast, Nat.mul_comm _ 1024, Nat.add_zero]
  have hsz : (u8s (flatB D.bl) ++ r).length ≥ 1024 * n + 1024 := by
    rw [List.length_append, u8s_len, flat_len hwf.bl]
    omega
  have h9 := h8.ext hx9
  refine stA_blk h9.rows (by rw [u8s_len, h512]) (by omega) (u8s_one _) fun w17 hb17 hf17 => ?_
  rw [splice_now hwf.bl hn h512] at hb17
  have h17 := h9.setRows hb17 hf17 (setNow_len _ _ _) (setNow_wf hwf.bl hn h512)
  have hB17 := (hb8.ext hx9).fr hf17 fun e => hb5n (.inr e)
  intro w18 hw18
  have hx18 : Ext w17 w18 := by subst hw18; exact Ext.drew _
  refine ⟨_, rfl, sp, by rw [add_plain]; exact h17.disk.cell rfl, ?_⟩
  have hcl : (Value.int .i64 (n : Int) :: u8s bs).length = 513 := by rw [List.length_cons, u8s_len, h512]
  refine ⟨.int .i64 (n : Int) :: u8s bs, hcl, hB17.at (by rw [List.drop_zero, List.take_length]), ?_⟩
  refine ⟨fun _ x v => x = ⟨sp.a, sp.len, sp.len⟩, fun _ _ _ _ _ h => h, fun _ v hv _ => ?_, ?_⟩
  · refine cR_of (clip_ok sp h.pend.cap) ?_
    rintro x v' ⟨rfl, rfl⟩
    exact ⟨Ext.refl _, rfl⟩
  refine ⟨fun _ x v => ∃ b, x = ⟨some ⟨b, 0, none⟩, 1, 1⟩ ∧ At v ⟨b, 0, none⟩ (.int .i64 (n : Int) :: u8s bs), fun _ _ _ _ hx ⟨b, h1, h2⟩ => ⟨b, h1, Ext.at hx h2⟩,
    fun _ v hv _ => ⟨hcl, one_pend, fun b v' hb hv' => ⟨Ext.new hv', b, rfl, At.new hb hv'⟩⟩, ?_⟩
  rintro x24 x25 w38 hx38 h24 ⟨b, h25, hat⟩
  have h24 : x24 = ⟨sp.a, sp.len, sp.len⟩ := h24
  subst h24; subst h25
  have h18 := (h17.ext hx18).ext hx38
  have hpl' := pend_len h.pend fun p hp => (hwf.pend p hp).2
  have hsz38 : w.heap.size ≤ w38.heap.size := Nat.le_trans (Nat.le_trans (hx8.trans hx9).size hf17.size) (hx18.trans hx38).size
  refine app_full (base := w.heap.size) mkz_91 (by rw [List.length_append, List.length_replicate, List.length_singleton]) rfl (fun hna => by have := h.pend.nil hna; rw [this]) h.pend.len h18.pend.cells (by rw [hcl]; exact (Nat.one_mul 513).symm) hat (by simp) Nat.zero_lt_one
    (by simp only [maxLen]; omega) (by simp only; omega) hsz38 fun s' w41 hl' ho' hx41 => ?_
  have h41 := h18.ext hx41
  refine ⟨_, rfl, ?_⟩
  show st1 _ _ _ _
  rw [add_plain]
  refine st1_blk h41.disk (Nat.succ_lt_succ (Nat.zero_lt_succ _)) fun w44 hb44 hf44 => ?_
  have hfin : DX w44 base pd bb c r s' sf (D.put n bs) := by
    have hz := h41.wf
    have hsl := Own.slAt ho' (base := base) (pd := pd) (bb := bb) hB hpdl hbbl
    refine ⟨⟨hz.pos, hz.few, hz.bl, ?_, ?_, hz.keep, hz.flen, hz.ch⟩, h.hpd, h.hbb, h.hne, h41.hcap, hb44, h41.rows.fr hf44 h.hne.symm, ?_, h41.falls.fr hf44 fun k _ hk e => hk (.inl e)⟩
    · intro p hp
      rcases List.mem_append.1 hp with hp | hp
      · exact hz.pend p hp
      · obtain rfl : p = (n, bs) := by simpa using hp
        exact ⟨by show n < (setNow D.bl n bs).length; rw [setNow_len]; exact hn, h512⟩
    · show (D.pend ++ [(n, bs)]).length ≤ _
      rw [List.length_append]
      simp only [List.length_cons, List.length_nil]
      omega
    · have ep : pendC (D.put n bs).pend = pendC D.pend ++ (.int .i64 (n : Int) :: u8s bs) := by
        show pendC (D.pend ++ [(n, bs)]) = _
        rw [pendC_append]
        simp [pendC]
      rw [ep]
      exact hsl.fr hf44 fun k _ hk e => hk (.inl e)
  refine cR_of (strike_ok ⟨c, r, s', sf, hfin⟩ hch) ?_
  rintro x w46 ⟨rfl, h46, hf46⟩
  refine ⟨rfl, h46, Fr.trans ?_ hf46⟩
  exact ((((Fr.of (hx8.trans hx9)).trans (footFr_bb hf17)).trans (Fr.of (hx18.trans hx38))).trans (Fr.of hx41)).trans (footFr_pd hf44)
end
end Go.Proofs.Ytagkcbbbdlmcjaa
end
section
/- How disks come to be: new ones, clones; a plan; a block to write; and a nil disk. -/
set_option linter.unusedVariables false
set_option linter.unusedSimpArgs false
namespace Go.Proofs.Ytagkcbbbdlmcjaa
open Go.Lift Go.Lift.Disk Go.RowKit
def zero512 : List UInt8 := List.replicate 512 0
def fresh (n : Nat) : Dk := ⟨List.replicate n (zero512, zero512), [], [], 0, false⟩
theorem zeros_u8' (m : Nat) : List.replicate m (Value.int .u8 0) = u8s (List.replicate m 0) := by simp [u8s]
theorem flat_zeros (n : Nat) : flatB (List.replicate n (zero512, zero512)) = List.replicate (1024 * n) 0 := by
  induction n with
  | zero => rfl
  | succ n ih =>
    rw [List.replicate_succ]
    unfold flatB at ih ⊢
    rw [List.flatMap_cons, ih]
    unfold zero512
    simp only [List.replicate_append_replicate]
    congr 1
    omega
theorem fresh_wf {n : Nat} (h0 : 0 < n) (h1 : n ≤ 4096) : (fresh n).Wf := by
  refine ⟨by simp [fresh]; exact h0, by simp [fresh]; exact h1, ?_, by simp [fresh], by simp [fresh], by simp [fresh], by simp [fresh], by simp [fresh]⟩
  intro p hp
  rw [List.eq_of_mem_replicate hp]
  exact ⟨List.length_replicate .., List.length_replicate ..⟩
theorem new_ok (w : World) (n : Nat) (h0 : 0 < n) (h1 : n ≤ 4096) : Calls Try.prog 15 #[.int .i64 (n : Int)] w (Ret r15 fun x w' => ∃ pd bb, x = (dp pd, 0) ∧ DAt w' (Up w.heap.size) pd bb (fresh n) ∧ Ext w w') := by
  apply s15_calls
  refine jn_of fun k hk => ?_
  have key : k false w := by
    rw [hk]
    refine ⟨fun h => absurd h (by decide), fun _ => ?_⟩
    refine ⟨by omega, by omega, by omega, by omega, fun b9 w9 hb9 hw9 => ?_⟩
    rw [Int.toNat_natCast] at hw9 ⊢
    intro b11 w12 hb11 hw12
    have hx9 : Ext w w9 := Ext.new hw9
    have hx12 : Ext w9 w12 := Ext.new hw12
    rw [zeros_u8'] at hw9
    have hB := (Blk.new hb9 hw9).ext hx12
    have hD : Blk w12 b11 93 _ := Blk.new hb11 hw12
    have hlt := (Blk.new hb9 hw9).lt
    refine ⟨b11, b9, rfl, ⟨n, [], nilSl, nilSl, ?_⟩, hx9.trans hx12⟩
    have hfl : flatB (fresh n).bl = List.replicate (n * 1024) 0 := by
      show flatB (List.replicate n (zero512, zero512)) = _
      rw [flat_zeros, Nat.mul_comm]
    refine ⟨fresh_wf h0 h1, (by show w.heap.size ≤ b11; have := hx9.size; omega), (by show w.heap.size ≤ b9; omega), by omega, by simp [fresh], ?_, by rw [hfl, List.append_nil]; exact hB, SlAt.nilAt _ _ _ _ _, SlAt.nilAt _ _ _ _ _⟩
    have hbl : (fresh n).bl.length = n := by simp [fresh]
    rw [hbl]
    exact hD
  refine ⟨fun h => absurd (of_decide_eq_true h) (by omega), fun _ => ?_⟩
  have : (decide (4096 < (n : Int))) = false := decide_eq_false (by omega)
  rw [this]; exact key
theorem new_bad (w : World) (n : Int) (h : n < 1 ∨ 4096 < n) : Calls Try.prog 15 #[.int .i64 n] w (Ret r15 fun x w' => x = (none, 1) ∧ w = w') := by
  apply s15_calls
  refine jn_of fun k hk => ?_
  have key : k true w := by
    rw [hk]
    exact ⟨fun _ => ⟨rfl, rfl⟩, fun h => absurd h (by decide)⟩
  refine ⟨fun _ => key, fun h1 => ?_⟩
  have h1 := of_decide_eq_false h1
  rw [decide_eq_true (show 4096 < n by omega)]; exact key

/-! ### a block to write -/
def fillOf (c : UInt8) (s : List UInt8) : List UInt8 := s.take 512 ++ List.replicate (512 - s.length) c
theorem fillOf_len (c : UInt8) (s : List UInt8) : (fillOf c s).length = 512 := by unfold fillOf; simp; omega
theorem Own.ofBlk {w : World} {base g n e size : Nat} {xs : List Value} (h : Blk w g e xs) (hl : xs.length = n * size) (hb : base ≤ g) (hm : n ≤ maxLen) : Own w base e size ⟨some ⟨g, 0, none⟩, n, n⟩ xs :=
  ⟨hl, .inr ⟨g, n, xs.toArray, rfl, hb, h, Nat.le_refl _, hm, by simpa using hl, by simp [← hl]⟩⟩
theorem fill_ok (w : World) (c : UInt8) (s : List UInt8) : Calls Try.prog 32 #[.int .u8 (c.toNat : Int), str s] w (Ret r32 fun x w' => Own w' w.heap.size 5 1 x (u8s (fillOf c s)) ∧ Ext w w') := by
  apply s32_calls
  refine ⟨by decide, by decide, by decide, by decide, fun b2 w2 hb2 hw2 => ?_⟩
  have hx2 : Ext w w2 := Ext.new hw2
  have hB2 : Blk w2 b2 5 (u8s (List.replicate 512 0)) := by
    rw [← zeros_u8']
    exact Blk.new hb2 hw2
  show LoopS _ _ _
  refine ⟨fun st w' => ∃ i : Nat, i ≤ 512 ∧ st = (i : Int) ∧ Blk w' b2 5 (u8s (List.replicate i c ++ List.replicate (512 - i) 0)) ∧ Ext w w', fun st _ => 512 - st.toNat, ⟨0, by omega, rfl, by rw [List.replicate_zero, List.nil_append]; exact hB2, hx2⟩, ?_⟩
  rintro st w5 ⟨i, hi, rfl, hB, hx⟩
  refine ⟨fun hlt => ?_, fun hge => ?_⟩
  · have hlt : i < 512 := by
      have := of_decide_eq_true hlt
      have h2 : (i : Int) < ((512 : Nat) : Int) := this
      omega
    refine ⟨⟨b2, 0, none⟩, _, rfl, by omega, ?_, rfl, ?_⟩
    · show (i : Int) < ((512 : Nat) : Int); omega
    show st1 _ _ _ _
    rw [add_plain, Nat.zero_add, Int.toNat_natCast, Nat.mul_one]
    refine st1_blk hB (by rw [u8s_len, List.length_append, List.length_replicate, List.length_replicate]; omega) fun w' hB' hf' => ?_
    rw [w64_eq (by omega) (by omega)]
    refine ⟨⟨i + 1, by omega, by omega, ?_, hf'.ext hx fun k _ e => by rw [e, hb2]; exact Nat.le_refl _⟩, by simp only; omega⟩
    have e : (u8s (List.replicate i c ++ List.replicate (512 - i) 0)).set i (.int .u8 (c.toNat : Int)) = u8s (List.replicate (i + 1) c ++ List.replicate (512 - (i + 1)) 0) := by
      rw [show 512 - i = (512 - (i + 1)) + 1 by omega, List.replicate_succ, u8s_append, List.set_append_right _ _ (by rw [u8s_len, List.length_replicate]; exact Nat.le_refl _), u8s_len, List.length_replicate, Nat.sub_self, List.replicate_succ', u8s_append, u8s_append]
      simp [u8s]
    rw [← e]; exact hB'
  · have hge : i = 512 := by
      have := of_decide_eq_false hge
      have h2 : ¬ ((i : Int) < ((512 : Nat) : Int)) := this
      omega
    subst hge
    rw [Nat.sub_self, List.replicate_zero, List.append_nil] at hB
    refine cpy_blk_str (g := b2) (o := 0) (dLen := 512) (dCap := 512) mk_39 hB (by rw [u8s_len, List.length_replicate]; omega) fun w' hB' hf' => ?_
    have hx' : Ext w w' := hf'.ext hx fun k _ e => by rw [e, hb2]; exact Nat.le_refl _
    refine ⟨?_, hx'⟩
    have e : splice (u8s (List.replicate 512 c)) 0 (u8s (s.take (min s.length 512))) = u8s (fillOf c s) := by
      have hm : s.take (min s.length 512) = s.take 512 := by
        rcases Nat.le_total s.length 512 with h | h
        · rw [Nat.min_eq_left h, List.take_of_length_le (Nat.le_refl _), List.take_of_length_le h]
        · rw [Nat.min_eq_right h]
      rw [hm]
      unfold splice fillOf
      rw [List.take_zero, List.nil_append, u8s_len, Nat.zero_add, u8s_drop, u8s_append, List.drop_replicate, List.length_take]
      congr 3
      omega
    rw [e] at hB'
    exact Own.ofBlk hB' (by rw [u8s_len, fillOf_len]; rfl) (by rw [hb2]; exact Nat.le_refl _) (by decide)

/-! ### a plan -/
theorem cloneF_ok (w : World) (p : Sl) (l : List Fall) (hl : p.len = l.length) (hp : AtO w p.a (fallC l)) (hn : p.a = none → p = nilSl) (hle : l.length ≤ 1000000) :
    Calls Try.prog 64 #[p.v] w (Ret r64 fun x w' => Own w' w.heap.size 27 3 x (fallC l) ∧ Ext w w') := by
  apply s64_calls
  refine ⟨fun h => ?_, fun _ => ?_⟩
  · have hna := Option.isNone_iff_eq_none.1 h
    have h0 := hn hna
    have : l = [] := by
      have h1 : p.len = 0 := by rw [h0]
      exact List.eq_nil_of_length_eq_zero (by omega)
    subst this
    exact ⟨Own.nil _ _ _ _, Ext.refl _⟩
  intro b2 w3 hb2 hw3
  have hx3 : Ext w w3 := Ext.new hw3
  have hone : ∀ u ∈ fallC l, u.oneCell' = true := by
    intro u hu
    obtain ⟨f, _, hf⟩ := List.mem_flatMap.1 hu
    exact fall_one f u hf
  refine app_ok (base := w.heap.size) mkz_47 rfl (by decide) (Own.made (e := 27) (size := 3) (c := 0) hb2 hw3 (Nat.le_refl _) rfl (by simp [maxLen])) (news := fallC l)
    (by rw [fallC_len, hl]) (Ext.atO hx3 hp) hone (by simp only [maxLen]; omega) (by simp only; omega) hx3.size ?_
  intro s' w' hl' ho' _ hB'
  exact ⟨by simpa using ho', hB' _ _ hx3 (Nat.le_refl _) hx3.size⟩
def Dk.plan (D : Dk) (l : List Fall) : Dk := { D with falls := l }
theorem plan_ok {w : World} {base : Nat → Prop} {pd bb : Nat} {D : Dk} (h : DAt w base pd bb D) (p : Sl) (l : List Fall) (hl : p.len = l.length) (hp : AtO w p.a (fallC l)) (hn : p.a = none → p = nilSl) (hle : l.length ≤ 1000000) (hB : ∀ k, w.heap.size ≤ k → base k)
    (hk : ∀ f ∈ l, 0 ≤ f.2.1 ∧ f.2.1 < 18446744073709551616) : Calls Try.prog 37 #[.pointer (dp pd), p.v] w (Ret r37 fun _ w' => DAt w' base pd bb (Dk.plan D l) ∧ Fr (Foot pd bb) w w') := by
  obtain ⟨c, r, sp, sf, h⟩ := h
  apply s37_calls
  refine ⟨fun _ => ?_, fun h => absurd h (by simp)⟩
  refine cR_of (cloneF_ok w p l hl hp hn hle) ?_
  rintro x w3 ⟨ho, hx⟩
  have h3 := h.ext hx
  refine ⟨_, rfl, ?_⟩
  show st1 _ _ _ _
  rw [add_plain]
  refine st1_blk h3.disk (Nat.succ_lt_succ (Nat.succ_lt_succ (Nat.zero_lt_succ _))) fun w6 hb hf => ?_
  refine ⟨⟨c, r, sp, x, ?_⟩, (Fr.of hx).trans (footFr_pd hf)⟩
  have hz := h.wf
  have hsl := Own.slAt ho (base := base) (pd := pd) (bb := bb) hB h.disk.lt h.rows.lt
  exact ⟨⟨hz.pos, hz.few, hz.bl, hz.pend, hz.plen, hk, hle, hz.ch⟩, h.hpd, h.hbb, h.hne, h.hcap, hb, h3.rows.fr hf h.hne.symm, h3.pend.fr hf fun k _ hk e => hk (.inl e), hsl.fr hf fun k _ hk e => hk (.inl e)⟩

/-! ### a clone -/
theorem oneCells_pend {l : List (Nat × List UInt8)} : ∀ u ∈ pendC l, u.oneCell' = true := by
  intro u hu
  obtain ⟨p, _, hp⟩ := List.mem_flatMap.1 hu
  exact one_pend u hp
def Dk.bare (D : Dk) : Dk := { D with falls := [] }
theorem clone_ok {w : World} {base : Nat → Prop} {pd bb : Nat} {D : Dk} (h : DAt w base pd bb D) : Calls Try.prog 36 #[.pointer (dp pd)] w (Ret r36 fun x w' => ∃ pd' bb', x = dp pd' ∧ DAt w' (Up w.heap.size) pd' bb' (Dk.bare D) ∧ Ext w w') := by
  obtain ⟨c, r, sp, sf, h⟩ := h
  have hwf := h.wf
  apply s36_calls
  refine ⟨fun h => absurd h (by simp), fun _ => ?_⟩
  refine ⟨_, rfl, [(⟨some ⟨bb, 0, none⟩, D.bl.length, c⟩ : Sl).v, sp.v, sf.v, .int .i64 D.changes, .bool D.down], rfl, h.disk.at rfl, rfl, ?_, ?_⟩
  · intro v hv
    simp only [List.mem_cons, List.not_mem_nil, or_false] at hv
    rcases hv with rfl | rfl | rfl | rfl | rfl <;> rfl
  intro b5 w6 hb5 hw6
  have hx6 : Ext w w6 := Ext.new hw6
  have h6 := h.ext hx6
  have hC6 : Blk w6 b5 93 _ := Blk.new hb5 hw6
  intro w7 hw7
  have hx7 : Ext w6 w7 := by subst hw7; exact Ext.drew _
  refine ⟨_, rfl, ⟨some ⟨bb, 0, none⟩, D.bl.length, c⟩, by rw [add_plain]; exact h6.disk.cell rfl, _, rfl, sp, by rw [add_plain]; exact h6.disk.cell rfl, ?_⟩
  -- the blocks
  have hbl : Calls Try.prog 62 #[(⟨some ⟨bb, 0, none⟩, D.bl.length, c⟩ : Sl).v] w7 (Ret r62 fun x w' => Own w' w7.heap.size 112 1024 x (u8s (flatB D.bl)) ∧ x.len = D.bl.length ∧ Ext w7 w') := by
    apply s62_calls
    refine ⟨fun h => absurd h (by simp), fun _ => ?_⟩
    intro b2 w3 hb2 hw3
    have hx3 : Ext w7 w3 := Ext.new hw3
    have hfl := flat_len hwf.bl
    have hfew := hwf.few
    refine app_ok (base := w7.heap.size) mk_90 (List.length_replicate ..) (by decide) (Own.made (e := 112) (size := 1024) (c := 0) hb2 hw3 (Nat.le_refl _) rfl (by simp [maxLen])) (news := u8s (flatB D.bl))
      (by rw [u8s_len, hfl, Nat.mul_comm]) (Blk.at ((h6.rows.ext hx7).ext hx3) (by rw [List.drop_zero, List.take_left])) (u8s_one _) (by simp only [maxLen]; omega) (by simp only; omega) hx3.size ?_
    intro s' w' hl' ho' _ hB'
    exact ⟨by simpa using ho', by simpa using hl', hB' _ _ hx3 (Nat.le_refl _) hx3.size⟩
  refine cR_of hbl ?_
  rintro x15 w16 ⟨ho15, hl15, hx16⟩
  refine ⟨hx7.trans hx16, ?_⟩
  have hpl := pend_len h.pend fun p hp => (hwf.pend p hp).2
  have hpe : Calls Try.prog 63 #[sp.v] w16 (Ret r63 fun x w' => Own w' w16.heap.size 116 513 x (pendC D.pend) ∧ Ext w16 w') := by
    have hat := Ext.atO (hx7.trans hx16) h6.pend.cells
    apply s63_calls
    refine ⟨fun hn => ?_, fun _ => ?_⟩
    · have h0 := h.pend.nil (Option.isNone_iff_eq_none.1 hn)
      have : D.pend = [] := by
        have h1 : sp.len = 0 := by rw [h0]
        exact List.eq_nil_of_length_eq_zero (by omega)
      rw [this]
      exact ⟨Own.nil _ _ _ _, Ext.refl _⟩
    intro b2 w3 hb2 hw3
    have hx3 : Ext w16 w3 := Ext.new hw3
    have hple := hwf.plen
    refine app_ok (base := w16.heap.size) mkz_91 (by rw [List.length_append, List.length_replicate, List.length_singleton]) (by decide) (Own.made (e := 116) (size := 513) (c := 0) hb2 hw3 (Nat.le_refl _) rfl (by simp [maxLen])) (news := pendC D.pend)
      h.pend.len (Ext.atO hx3 hat) oneCells_pend (by simp only [maxLen]; omega) (by simp only; omega) hx3.size ?_
    intro s' w' hl' ho' _ hB'
    exact ⟨by simpa using ho', hB' _ _ hx3 (Nat.le_refl _) hx3.size⟩
  refine cR_of hpe ?_
  rintro x18 w19 ⟨ho18, hx19⟩
  have hC19 := ((hC6.ext hx7).ext hx16).ext hx19
  rw [add_plain]
  refine st1_blk hC19 (Nat.zero_lt_succ _) fun w20 hb20 hf20 => ?_
  rw [add_plain]
  refine st1_blk hb20 (Nat.succ_lt_succ (Nat.zero_lt_succ _)) fun w21 hb21 hf21 => ?_
  rw [add_plain]
  refine st1_blk hb21 (Nat.succ_lt_succ (Nat.succ_lt_succ (Nat.zero_lt_succ _))) fun w22 hb22 hf22 => ?_
  have hf := (hf20.trans hf21).trans hf22
  obtain ⟨g, rest, hg, hgb, hgB, hgc⟩ := ho15.blk (by rw [hl15]; exact hwf.pos)
  have hsz6 : b5 < w7.heap.size := Nat.lt_of_lt_of_le hC6.lt hx7.size
  have hgne : g ≠ b5 := by omega
  have hx : Ext w w22 := hf.ext (((hx6.trans hx7).trans hx16).trans hx19) fun k _ e => by rw [e, hb5]; exact Nat.le_refl _
  refine ⟨b5, g, rfl, ⟨x15.cap, rest, x18, nilSl, ?_⟩, hx⟩
  have hw6s : w.heap.size ≤ w7.heap.size := (hx6.trans hx7).size
  have hg16 : g < w16.heap.size := hgB.lt
  refine ⟨⟨hwf.pos, hwf.few, hwf.bl, hwf.pend, hwf.plen, by simp [Dk.bare], by simp [Dk.bare], hwf.ch⟩, (by show w.heap.size ≤ b5; omega), (by show w.heap.size ≤ g; omega), fun e => hgne e.symm, by show D.bl.length ≤ _; rw [← hl15]; exact hgc, ?_, (hgB.ext hx19).fr hf (fun e => hgne e), ?_, SlAt.nilAt _ _ _ _ _⟩
  · have e15 : (⟨some ⟨g, 0, none⟩, D.bl.length, x15.cap⟩ : Sl) = x15 := by rw [← hg, ← hl15]
    show Blk w22 b5 93 [(⟨some ⟨g, 0, none⟩, D.bl.length, x15.cap⟩ : Sl).v, _, _, _, _]
    rw [e15]
    exact hb22
  · have hsl := Own.slAt ho18 (base := Up w.heap.size) (pd := b5) (bb := g) (fun k hk => by show w.heap.size ≤ k; have := hx16.size; omega) (by have := hx16.size; omega) hg16
    exact hsl.fr hf fun k _ hk e => hk (.inl e)
end Go.Proofs.Ytagkcbbbdlmcjaa
end
section
/- The typed readings of the functions, and that the program meets each: written by gen.py (a program of this session). -/
set_option linter.unusedVariables false
set_option linter.unusedSimpArgs false
namespace Go.Proofs.Ytagkcbbbdlmcjaa
open Go.Lift
set_option maxRecDepth 100000 in
set_option maxHeartbeats 4000000 in
theorem s30_calls (K : Bool → World → Prop)  (w : World) (h : s30 K  w) :
    Calls Try.prog 30 #[] w (Ret r30 K) := by
  unfold s30 at h
  refine calls_of_CW (n := 56) Try.func30 rfl rfl rfl ?_
  refine CW.seq ?_
  refine CW.region ?_
  refine RL.opS trivial rfl (OpW.assign (v := .bool false) rfl ?_)
  refine RL.nil ?_
  refine CW.seq ?_
  refine CW.region ?_
  refine RL.opS trivial rfl (OpW.callR (al := [.int .i64 2]) Try.func15 fb_15 fn_15 rfl h (fun x1 w2 h => ?_))
  refine RL.opS trivial rfl (OpW.move (v := .tuple #[.pointer x1.1, .int .i64 x1.2]) rfl ?_)
  refine RL.opS trivial rfl (OpW.extract (v := .pointer x1.1) rfl rfl ?_)
  refine RL.opS trivial rfl (OpW.extract (v := .int .i64 x1.2) rfl rfl ?_)
  refine RL.opS trivial rfl (OpW.assign (v := .pointer x1.1) rfl ?_)
  refine RL.opS trivial rfl (OpW.assign (v := .int .i64 x1.2) rfl ?_)
  refine RL.nil ?_
  refine CW.seq ?_
  refine CW.seq ?_
  refine CW.region ?_
  refine RL.opS trivial rfl (OpW.move (v := .pointer x1.1) rfl ?_)
  refine RL.opS trivial rfl (OpW.ptrNil (b := x1.1.isNone) (p := x1.1) ptr_31 rfl rfl rfl ?_)
  refine RL.opS trivial rfl (OpW.move (v := .bool (x1.1.isNone)) rfl ?_)
  refine jn_elim h ?_; clear h; intro k77 hk78 h
  refine RL.joinAt (A := Bool) 3 (fun s5 ρ => ρ 13 = .bool s5 ∧ ρ 1 = .pointer x1.1) k77 ?_ ?_
  · rintro s5 ρ w6 ⟨e7, e8⟩ h
    subst hk78
    dsimp only [List.drop]
    refine RL.opS trivial rfl (OpW.move (v := .bool s5) e7 ?_)
    refine jn_elim h ?_; clear h; intro k75 hk76 h
    refine RL.joinAt (A := Bool) 5 (fun s15 ρ => ρ 19 = .bool s15 ∧ ρ 1 = .pointer x1.1) k75 ?_ ?_
    · rintro s15 ρ w16 ⟨e17, e18⟩ h
      subst hk76
      dsimp only [List.drop]
      refine RL.opS trivial rfl (OpW.move (v := .bool s15) e17 ?_)
      refine jn_elim h ?_; clear h; intro k73 hk74 h
      refine RL.joinAt (A := Bool) 4 (fun s23 ρ => ρ 24 = .bool s23 ∧ ρ 1 = .pointer x1.1) k73 ?_ ?_
      · rintro s23 ρ w24 ⟨e25, e26⟩ h
        subst hk74
        dsimp only [List.drop]
        refine RL.opS trivial rfl (OpW.move (v := .bool s23) e25 ?_)
        refine jn_elim h ?_; clear h; intro k71 hk72 h
        refine RL.joinAt (A := Bool) 5 (fun s33 ρ => ρ 30 = .bool s33 ∧ ρ 1 = .pointer x1.1) k71 ?_ ?_
        · rintro s33 ρ w34 ⟨e35, e36⟩ h
          subst hk72
          dsimp only [List.drop]
          refine RL.nil ?_
          obtain ⟨ha, hc⟩ := h
          refine CW.cond (b := s33) e35 (fun hb37 => ?_) (fun hb37 => ?_)
          · have h := ha hb37; clear ha hc
            refine CW.seq ?_
            refine CW.region ?_
            refine RL.opS trivial rfl (OpW.assign (v := .bool false) rfl ?_)
            refine RL.nil ?_
            refine CW.ret ?_
            exact ret_intro (res1 rfl rfl) ⟨false, rfl, h⟩
          · have h := hc hb37; clear ha hc
            refine CW.skip ?_
            refine CW.seq ?_
            refine CW.region ?_
            refine RL.opS trivial rfl (OpW.move (v := .pointer x1.1) e36 ?_)
            refine RL.opS trivial rfl (OpW.buildL (vs := [(2, .int .i64 2)]) (cs := [Value.int .i64 0, Value.int .u64 0, .int .i64 2]) (by rfl) (fun _ => by kernel_rfl) ?_)
            refine RL.opS trivial rfl (OpW.callR (al := [.pointer x1.1, aggv [Value.int .i64 0, Value.int .u64 0, .int .i64 2]]) Try.func35 fb_35 fn_35 rfl h (fun x38 w39 h => ?_))
            refine RL.nil ?_
            refine CW.seq ?_
            refine CW.seq ?_
            refine CW.region ?_
            refine RL.opS trivial rfl (OpW.move (v := .pointer x1.1) e36 ?_)
            refine RL.opS trivial rfl (OpW.callR (al := [.pointer x1.1]) Try.func38 fb_38 fn_38 rfl h (fun x40 w41 h => ?_))
            refine RL.opS trivial rfl (OpW.not rfl ?_)
            refine RL.opS trivial rfl (OpW.move (v := .bool (!x40)) rfl ?_)
            refine jn_elim h ?_; clear h; intro k69 hk70 h
            refine RL.joinAt (A := Bool) 4 (fun s46 ρ => ρ 41 = .bool s46 ∧ ρ 1 = .pointer x1.1) k69 ?_ ?_
            · rintro s46 ρ w47 ⟨e48, e49⟩ h
              subst hk70
              dsimp only [List.drop]
              refine RL.nil ?_
              obtain ⟨ha, hc⟩ := h
              refine CW.cond (b := s46) e48 (fun hb50 => ?_) (fun hb50 => ?_)
              · have h := ha hb50; clear ha hc
                refine CW.seq ?_
                refine CW.region ?_
                refine RL.opS trivial rfl (OpW.assign (v := .bool false) rfl ?_)
                refine RL.nil ?_
                refine CW.ret ?_
                exact ret_intro (res1 rfl rfl) ⟨false, rfl, h⟩
              · have h := hc hb50; clear ha hc
                refine CW.skip ?_
                refine CW.seq ?_
                refine CW.region ?_
                refine RL.opS trivial rfl (OpW.move (v := .pointer x1.1) e49 ?_)
                refine RL.opS trivial rfl (OpW.callR (al := [.pointer x1.1, .int .i64 1]) Try.func28 fb_28 fn_28 rfl h (fun x51 w52 h => ?_))
                refine RL.opS trivial rfl (OpW.move (v := .tuple #[Sl.v x51.1, .int .i64 x51.2]) rfl ?_)
                refine RL.opS trivial rfl (OpW.extract (v := Sl.v x51.1) rfl rfl ?_)
                refine RL.opS trivial rfl (OpW.extract (v := .int .i64 x51.2) rfl rfl ?_)
                refine RL.opS trivial rfl (OpW.assign (v := Sl.v x51.1) rfl ?_)
                refine RL.opS trivial rfl (OpW.assign (v := .int .i64 x51.2) rfl ?_)
                refine RL.nil ?_
                refine CW.seq ?_
                obtain ⟨w53, hw53_⟩ : ∃ w_, w_ = w52.drew := ⟨_, rfl⟩
                have h := h w53 hw53_
                have hx54 : Ext w52 w53 := by rw [hw53_]; exact Ext.drew _
                refine CW.draws (m := 10) (listed := #[false, false, false, false, false, false, false, false, false, false]) mixed [0, 1, 2, 3, 4, 5, 6, 7, 8, 9] (Ext w52) rfl rfl ?_
                rw [← hw53_]
                refine DL.takeP (listed' := #[true, false, false, false, false, false, false, false, false, false]) (v := .int .i64 x51.2) 0 rfl rfl (by kernel_rfl) rfl trivial rfl (fun w_ K_ h_ => OpW.move (v := .int .i64 x51.2) rfl h_) ?_
                refine DL.takeP (listed' := #[true, true, false, false, false, false, false, false, false, false]) (v := .bool (decide (x51.2 = 0))) 1 rfl rfl (by kernel_rfl) rfl trivial rfl (fun w_ K_ h_ => OpW.bin (k := .i64) (a := x51.2) (b := 0) (v := .bool (decide (x51.2 = 0))) rfl rfl rfl h_) ?_
                refine DL.takeP (listed' := #[true, true, true, false, false, false, false, false, false, false]) (v := .bool (decide (x51.2 = 0))) 2 rfl rfl (by kernel_rfl) rfl trivial rfl (fun w_ K_ h_ => OpW.move (v := .bool (decide (x51.2 = 0))) rfl h_) ?_
                refine jn_elim h ?_; clear h; intro k67 hk68 h
                refine DL.cut (A := Bool) (fun s63 ρ => ρ 55 = .bool s63) k67 1 #[true, true, true, true, true, true, true, true, true, false] ?_ ?_
                · rintro s63 ρ w64 e66 h
                  subst hk68
                  refine DL.takeP (listed' := #[true, true, true, true, true, true, true, true, true, true]) (v := .bool s63) 9 rfl rfl (by kernel_rfl) rfl trivial rfl (fun w_ K_ h_ => OpW.assign (v := .bool s63) e66 h_) ?_
                  refine DL.done (by kernel_rfl) ?_
                  refine CW.ret ?_
                  exact ret_intro (res1 rfl rfl) ⟨s63, rfl, h⟩
                · intro hJJ55; clear hk68
                  obtain ⟨ha, hc⟩ := h
                  rcases Bool.eq_false_or_eq_true (decide (x51.2 = 0)) with hb56 | hb56
                  · have h := ha hb56; clear ha hc
                    refine DL.takeP (listed' := #[true, true, true, true, false, false, false, false, false, false]) (v := Sl.v x51.1) 3 rfl rfl (by kernel_rfl) rfl (wanted_of rfl rfl hb56) rfl (fun w_ K_ h_ => OpW.move (v := Sl.v x51.1) rfl h_) ?_
                    obtain ⟨x57, h1, h2, h⟩ := h
                    refine DL.takeK (listed' := #[true, true, true, true, true, false, false, false, false, false]) (v := str x57) 4 rfl rfl (by kernel_rfl) (by kernel_rfl) rfl (wanted_of rfl rfl hb56) rfl hx54 (fun w_ hS_ K_ h_ => OpW.b2s bsl_39 str_9 rfl h1 (hS_.atO h2) h_) ?_
                    refine DL.execS (listed' := #[true, true, true, true, true, true, false, false, false, false]) 5 rfl (by kernel_rfl) rfl (wanted_of rfl rfl hb56) rfl (OpW.callR (al := [.int .u8 120, str [121, 121]]) Try.func32 fb_32 fn_32 rfl h (fun x58 w59 h => ?_))
                    obtain ⟨hx60, h⟩ := h
                    refine ⟨(fun _ _ => hx60), ?_⟩
                    obtain ⟨x61, h1, h2, h⟩ := h
                    refine DL.execS (listed' := #[true, true, true, true, true, true, true, false, false, false]) 6 rfl (by kernel_rfl) rfl (wanted_of rfl rfl hb56) rfl (OpW.b2s bsl_39 str_9 rfl h1 h2 ?_)
                    refine ⟨(fun _ _ => hx60), ?_⟩
                    refine DL.takeP (listed' := #[true, true, true, true, true, true, true, true, false, false]) (v := .bool (decide (x57 = x61))) 7 rfl rfl (by kernel_rfl) rfl (wanted_of rfl rfl hb56) rfl (fun w_ K_ h_ => OpW.strCmp (b := decide (x57 = x61)) rfl rfl rfl h_) ?_
                    refine DL.takeP (listed' := #[true, true, true, true, true, true, true, true, true, false]) (v := .bool (decide (x57 = x61))) 8 rfl rfl (by kernel_rfl) rfl trivial rfl (fun w_ K_ h_ => OpW.pick (b := true) (v := .bool (decide (x57 = x61))) (congrArg Value.bool hb56) rfl h_) ?_
                    exact hJJ55 _ _ ⟨(decide (x57 = x61)), rfl, h⟩
                  · have h := hc hb56; clear ha hc
                    refine DL.skipP (listed' := #[true, true, true, true, false, false, false, false, false, false]) 3 rfl (by kernel_rfl) rfl (notWanted_of rfl rfl hb56) rfl ?_
                    refine DL.skipP (listed' := #[true, true, true, true, true, false, false, false, false, false]) 4 rfl (by kernel_rfl) rfl (notWanted_of rfl rfl hb56) rfl ?_
                    refine DL.skipX (listed' := #[true, true, true, true, true, true, false, false, false, false]) 5 rfl (by kernel_rfl) rfl (notWanted_of rfl rfl hb56) rfl ?_
                    refine DL.skipX (listed' := #[true, true, true, true, true, true, true, false, false, false]) 6 rfl (by kernel_rfl) rfl (notWanted_of rfl rfl hb56) rfl ?_
                    refine DL.skipP (listed' := #[true, true, true, true, true, true, true, true, false, false]) 7 rfl (by kernel_rfl) rfl (notWanted_of rfl rfl hb56) rfl ?_
                    refine DL.takeP (listed' := #[true, true, true, true, true, true, true, true, true, false]) (v := .bool false) 8 rfl rfl (by kernel_rfl) rfl trivial rfl (fun w_ K_ h_ => OpW.pick (b := false) (v := .bool false) (congrArg Value.bool hb56) rfl h_) ?_
                    exact hJJ55 _ _ ⟨false, rfl, h⟩
            · clear hk70
              dsimp only [List.take]
              obtain ⟨ha, hc⟩ := h
              rcases Bool.eq_false_or_eq_true (!x40) with hb42 | hb42
              · have h := ha hb42; clear ha hc
                refine RL.skipS (notWanted_of rfl rfl hb42) rfl ?_
                refine RL.skipS (notWanted_of rfl rfl hb42) rfl ?_
                refine RL.skipS (notWanted_of rfl rfl hb42) rfl ?_
                refine RL.opS trivial rfl (OpW.pick (b := true) (v := .bool true) (congrArg Value.bool hb42) rfl ?_)
                refine RL.nil ?_
                exact ⟨true, ⟨rfl, e36⟩, h⟩
              · have h := hc hb42; clear ha hc
                refine RL.opS (wanted_of rfl rfl hb42) rfl (OpW.move (v := .pointer x1.1) e36 ?_)
                refine RL.opS (wanted_of rfl rfl hb42) rfl (OpW.callR (al := [.pointer x1.1]) Try.func27 fb_27 fn_27 rfl h (fun x44 w45 h => ?_))
                refine RL.opS (wanted_of rfl rfl hb42) rfl (OpW.not rfl ?_)
                refine RL.opS trivial rfl (OpW.pick (b := false) (v := .bool (!x44)) (congrArg Value.bool hb42) rfl ?_)
                refine RL.nil ?_
                exact ⟨(!x44), ⟨rfl, e36⟩, h⟩
        · clear hk72
          dsimp only [List.take]
          obtain ⟨ha, hc⟩ := h
          rcases Bool.eq_false_or_eq_true s23 with hb27 | hb27
          · have h := ha hb27; clear ha hc
            refine RL.skipS (notWanted_of rfl rfl hb27) rfl ?_
            refine RL.skipS (notWanted_of rfl rfl hb27) rfl ?_
            refine RL.skipS (notWanted_of rfl rfl hb27) rfl ?_
            refine RL.skipS (notWanted_of rfl rfl hb27) rfl ?_
            refine RL.opS trivial rfl (OpW.pick (b := true) (v := .bool true) (congrArg Value.bool hb27) rfl ?_)
            refine RL.nil ?_
            exact ⟨true, ⟨rfl, e26⟩, h⟩
          · have h := hc hb27; clear ha hc
            refine RL.opS (wanted_of rfl rfl hb27) rfl (OpW.move (v := .pointer x1.1) e26 ?_)
            refine RL.opS (wanted_of rfl rfl hb27) rfl (OpW.callR (al := [.int .u8 121, str []]) Try.func32 fb_32 fn_32 rfl h (fun x29 w30 h => ?_))
            refine RL.opS (wanted_of rfl rfl hb27) rfl (OpW.callR (al := [.pointer x1.1, .int .i64 1, Sl.v x29]) Try.func33 fb_33 fn_33 rfl h (fun x31 w32 h => ?_))
            refine RL.opS (wanted_of rfl rfl hb27) rfl (OpW.bin (k := .i64) (a := x31) (b := 0) (v := .bool (!decide (x31 = 0))) rfl rfl rfl ?_)
            refine RL.opS trivial rfl (OpW.pick (b := false) (v := .bool (!decide (x31 = 0))) (congrArg Value.bool hb27) rfl ?_)
            refine RL.nil ?_
            exact ⟨(!decide (x31 = 0)), ⟨rfl, e26⟩, h⟩
      · clear hk74
        dsimp only [List.take]
        obtain ⟨ha, hc⟩ := h
        rcases Bool.eq_false_or_eq_true s15 with hb19 | hb19
        · have h := ha hb19; clear ha hc
          refine RL.skipS (notWanted_of rfl rfl hb19) rfl ?_
          refine RL.skipS (notWanted_of rfl rfl hb19) rfl ?_
          refine RL.skipS (notWanted_of rfl rfl hb19) rfl ?_
          refine RL.opS trivial rfl (OpW.pick (b := true) (v := .bool true) (congrArg Value.bool hb19) rfl ?_)
          refine RL.nil ?_
          exact ⟨true, ⟨rfl, e18⟩, h⟩
        · have h := hc hb19; clear ha hc
          refine RL.opS (wanted_of rfl rfl hb19) rfl (OpW.move (v := .pointer x1.1) e18 ?_)
          refine RL.opS (wanted_of rfl rfl hb19) rfl (OpW.callR (al := [.pointer x1.1]) Try.func34 fb_34 fn_34 rfl h (fun x21 w22 h => ?_))
          refine RL.opS (wanted_of rfl rfl hb19) rfl (OpW.bin (k := .i64) (a := x21) (b := 0) (v := .bool (!decide (x21 = 0))) rfl rfl rfl ?_)
          refine RL.opS trivial rfl (OpW.pick (b := false) (v := .bool (!decide (x21 = 0))) (congrArg Value.bool hb19) rfl ?_)
          refine RL.nil ?_
          exact ⟨(!decide (x21 = 0)), ⟨rfl, e18⟩, h⟩
    · clear hk76
      dsimp only [List.take]
      obtain ⟨ha, hc⟩ := h
      rcases Bool.eq_false_or_eq_true s5 with hb9 | hb9
      · have h := ha hb9; clear ha hc
        refine RL.skipS (notWanted_of rfl rfl hb9) rfl ?_
        refine RL.skipS (notWanted_of rfl rfl hb9) rfl ?_
        refine RL.skipS (notWanted_of rfl rfl hb9) rfl ?_
        refine RL.skipS (notWanted_of rfl rfl hb9) rfl ?_
        refine RL.opS trivial rfl (OpW.pick (b := true) (v := .bool true) (congrArg Value.bool hb9) rfl ?_)
        refine RL.nil ?_
        exact ⟨true, ⟨rfl, e8⟩, h⟩
      · have h := hc hb9; clear ha hc
        refine RL.opS (wanted_of rfl rfl hb9) rfl (OpW.move (v := .pointer x1.1) e8 ?_)
        refine RL.opS (wanted_of rfl rfl hb9) rfl (OpW.callR (al := [.int .u8 120, str []]) Try.func32 fb_32 fn_32 rfl h (fun x11 w12 h => ?_))
        refine RL.opS (wanted_of rfl rfl hb9) rfl (OpW.callR (al := [.pointer x1.1, .int .i64 1, Sl.v x11]) Try.func33 fb_33 fn_33 rfl h (fun x13 w14 h => ?_))
        refine RL.opS (wanted_of rfl rfl hb9) rfl (OpW.bin (k := .i64) (a := x13) (b := 0) (v := .bool (!decide (x13 = 0))) rfl rfl rfl ?_)
        refine RL.opS trivial rfl (OpW.pick (b := false) (v := .bool (!decide (x13 = 0))) (congrArg Value.bool hb9) rfl ?_)
        refine RL.nil ?_
        exact ⟨(!decide (x13 = 0)), ⟨rfl, e8⟩, h⟩
  · clear hk78
    dsimp only [List.take]
    obtain ⟨ha, hc⟩ := h
    rcases Bool.eq_false_or_eq_true (x1.1.isNone) with hb3 | hb3
    · have h := ha hb3; clear ha hc
      refine RL.skipS (notWanted_of rfl rfl hb3) rfl ?_
      refine RL.skipS (notWanted_of rfl rfl hb3) rfl ?_
      refine RL.opS trivial rfl (OpW.pick (b := true) (v := .bool true) (congrArg Value.bool hb3) rfl ?_)
      refine RL.nil ?_
      exact ⟨true, ⟨rfl, rfl⟩, h⟩
    · have h := hc hb3; clear ha hc
      refine RL.opS (wanted_of rfl rfl hb3) rfl (OpW.move (v := .int .i64 x1.2) rfl ?_)
      refine RL.opS (wanted_of rfl rfl hb3) rfl (OpW.bin (k := .i64) (a := x1.2) (b := 0) (v := .bool (!decide (x1.2 = 0))) rfl rfl rfl ?_)
      refine RL.opS trivial rfl (OpW.pick (b := false) (v := .bool (!decide (x1.2 = 0))) (congrArg Value.bool hb3) rfl ?_)
      refine RL.nil ?_
      exact ⟨(!decide (x1.2 = 0)), ⟨rfl, rfl⟩, h⟩
end Go.Proofs.Ytagkcbbbdlmcjaa
end
section
/- The disk's own trial at the head of each law; and what a nil disk answers. -/
set_option linter.unusedVariables false
set_option linter.unusedSimpArgs false
namespace Go.Proofs.Ytagkcbbbdlmcjaa
open Go.Lift Go.Lift.Disk Go.RowKit
def lvX : List UInt8 := fillOf 120 []
def lvY : List UInt8 := fillOf 121 []
def lv1 : Dk := ((fresh 2).write 1 lvX).1
def lv2 : Dk := lv1.flush.1
def lv3 : Dk := (lv2.write 1 lvY).1
def lv4 : Dk := lv3.crash (0, 0, 2)
theorem lv1_e : ((fresh 2).write 1 lvX).2 = 0 := by decide +kernel
theorem lv2_e : lv1.flush.2 = 0 := by decide +kernel
theorem lv3_e : (lv2.write 1 lvY).2 = 0 := by decide +kernel
theorem lv4_d : lv4.down = true := by decide +kernel
theorem lv5_w : lv4.up.why 1 = 0 := by decide +kernel
theorem lv5_b : (bAt lv4.up.bl 1).1 = fillOf 120 [121, 121] := by decide +kernel
theorem lv0_s : (fresh 2).changes < 1000000000 ∧ (fresh 2).pend.length < 1000000 := by decide +kernel
theorem lv1_s : lv1.changes < 1000000000 := by decide +kernel
theorem lv2_s : lv2.changes < 1000000000 ∧ lv2.pend.length < 1000000 := by decide +kernel
theorem footExt {w w0 w' : World} {pd bb : Nat} (hf : Fr (Foot pd bb) w w') (hx : Ext w0 w) (h1 : w0.heap.size ≤ pd) (h2 : w0.heap.size ≤ bb) : Ext w0 w' :=
  hf.ext hx fun k _ hk => by rcases hk with e | e <;> rw [e] <;> assumption
theorem lives3_ok (w : World) : Calls Try.prog 30 #[] w (Ret r30 fun x w' => x = true ∧ Ext w w') := by
  apply s30_calls
  refine cR_of (new_ok w 2 (by decide) (by decide)) ?_
  rintro x1 w2 ⟨pd, bb, rfl, h2, hx2⟩
  obtain ⟨hpd, hbb, _, _⟩ := h2.lt
  refine jn_of fun k1 hk1 => ?_
  refine ⟨fun h => absurd h (by simp), fun _ => ?_⟩
  rw [hk1]
  refine jn_of fun k2 hk2 => ?_
  refine ⟨fun h => absurd h (by simp), fun _ => ?_⟩
  refine cR_of (fill_ok w2 120 []) ?_
  rintro x11 w12 ⟨ho11, hx12⟩
  have hwr1 := write_ok (h2.ext hx12) lv0_s.1 lv0_s.2 (upB (hx2.trans hx12).size) 1 x11 lvX ho11.bytes
  refine cR_of hwr1 ?_
  rintro x13 w14 ⟨hx13, h14, hf14⟩
  rw [lv1_e] at hx13
  subst hx13
  rw [hk2]
  refine jn_of fun k3 hk3 => ?_
  refine ⟨fun h => absurd h (by simp), fun _ => ?_⟩
  refine cR_of (flush_ok (D := lv1) h14 lv1_s) ?_
  rintro x21 w22 ⟨hx21, h22, hf22⟩
  rw [lv2_e] at hx21
  subst hx21
  rw [hk3]
  refine jn_of fun k4 hk4 => ?_
  refine ⟨fun h => absurd h (by simp), fun _ => ?_⟩
  refine cR_of (fill_ok w22 121 []) ?_
  rintro x29 w30 ⟨ho29, hx30⟩
  refine cR_of (write_ok (D := lv2) (h22.ext hx30) lv2_s.1 lv2_s.2 (upB (((footExt hf22 (footExt hf14 (hx2.trans hx12) hpd hbb) hpd hbb).trans hx30).size)) 1 x29 lvY ho29.bytes) ?_
  rintro x31 w32 ⟨hx31, h32, hf32⟩
  rw [lv3_e] at hx31
  subst hx31
  rw [hk4]
  refine ⟨fun h => absurd h (by simp), fun _ => ?_⟩
  refine cR_of (crash_ok (D := lv3) h32 (0, 0, 2) (by decide)) ?_
  rintro x38 w39 ⟨h39, hf39⟩
  refine cR_of (down_ok (D := lv4) h39) ?_
  rintro x40 w41 ⟨hx40, rfl⟩
  rw [lv4_d] at hx40
  subst hx40
  refine jn_of fun k5 hk5 => ?_
  refine ⟨fun h => absurd h (by simp), fun _ => ?_⟩
  refine cR_of (up_ok (D := lv4) h39) ?_
  rintro x44 w45 ⟨hx44, h45, hf45⟩
  rw [lv4_d] at hx44
  subst hx44
  rw [hk5]
  refine ⟨fun h => absurd h (by simp), fun _ => ?_⟩
  have hx12' := hx2.trans hx12
  have hx14 := footExt hf14 hx12' hpd hbb
  have hx22 := footExt hf22 hx14 hpd hbb
  have hx32 := footExt hf32 (hx22.trans hx30) hpd hbb
  have hx39 := footExt hf39 hx32 hpd hbb
  have hx45 := footExt hf45 hx39 hpd hbb
  refine cR_of (read_ok h45 1) ?_
  rintro ⟨y, e⟩ w52 ⟨hx52, hc⟩
  rcases hc with ⟨h0, _⟩ | ⟨_, h1, h3⟩
  · exact absurd lv5_w h0
  simp only at h1 h3
  subst h1
  intro w53 hw53
  have hx53 : Ext w52 w53 := by subst hw53; exact Ext.drew _
  refine jn_of fun k6 hk6 => ?_
  refine ⟨fun _ => ?_, fun h => absurd h (by simp)⟩
  have hyb := h3.bytes
  refine ⟨_, hyb.1, hyb.2, ?_⟩
  refine cR_of (fill_ok w53 120 [121, 121]) ?_
  rintro x58 w59 ⟨ho58, hx59⟩
  refine ⟨hx53.trans hx59, _, ho58.bytes.1, ho58.bytes.2, ?_⟩
  rw [hk6]
  exact ⟨decide_eq_true lv5_b, ((hx45.trans hx52).trans hx53).trans hx59⟩

/-! ### a nil disk -/
section
variable (w : World)
theorem down_nil : Calls Try.prog 38 #[.pointer none] w (Ret r38 fun x w' => x = true ∧ w = w') := by
  apply s38_calls
  refine jn_of fun k hk => ?_
  refine ⟨fun _ => ?_, fun h => absurd h (by simp)⟩
  rw [hk]; exact ⟨rfl, rfl⟩
theorem has_nil (i : Int) : Calls Try.prog 59 #[.pointer none, .int .i64 i] w (Ret r59 fun x w' => x = 6 ∧ w = w') := by
  apply s59_calls
  refine cR_of (down_nil w) ?_
  rintro x w' ⟨rfl, rfl⟩
  exact ⟨fun _ => ⟨rfl, rfl⟩, fun h => absurd h (by simp)⟩
theorem read_nil (i : Int) : Calls Try.prog 28 #[.pointer none, .int .i64 i] w (Ret r28 fun x w' => x = (nilSl, 6) ∧ w = w') := by
  apply s28_calls
  refine cR_of (has_nil w i) ?_
  rintro x w' ⟨rfl, rfl⟩
  exact ⟨fun _ => ⟨rfl, rfl⟩, fun h => absurd h (by simp)⟩
theorem write_nil (i : Int) (p : Sl) : Calls Try.prog 33 #[.pointer none, .int .i64 i, p.v] w (Ret r33 fun x w' => x = 6 ∧ w = w') := by
  apply s33_calls
  refine cR_of (has_nil w i) ?_
  rintro x w' ⟨rfl, rfl⟩
  exact ⟨fun _ => ⟨rfl, rfl⟩, fun h => absurd h (by simp)⟩
theorem flush_nil : Calls Try.prog 34 #[.pointer none] w (Ret r34 fun x w' => x = 6 ∧ w = w') := by
  apply s34_calls
  refine cR_of (down_nil w) ?_
  rintro x w' ⟨rfl, rfl⟩
  exact ⟨fun _ => ⟨rfl, rfl⟩, fun h => absurd h (by simp)⟩
theorem up_nil : Calls Try.prog 27 #[.pointer none] w (Ret r27 fun x w' => x = false ∧ w = w') := by
  apply s27_calls
  refine jn_of fun k hk => ?_
  refine ⟨fun _ => ?_, fun h => absurd h (by simp)⟩
  rw [hk]
  exact ⟨fun _ => ⟨rfl, rfl⟩, fun h => absurd h (by simp)⟩
theorem pending_nil : Calls Try.prog 23 #[.pointer none] w (Ret r23 fun x w' => x = 0 ∧ w = w') := by
  apply s23_calls
  exact ⟨fun _ => ⟨rfl, rfl⟩, fun h => absurd h (by simp)⟩
theorem changes_nil : Calls Try.prog 19 #[.pointer none] w (Ret r19 fun x w' => x = 0 ∧ w = w') := by
  apply s19_calls
  exact ⟨fun _ => ⟨rfl, rfl⟩, fun h => absurd h (by simp)⟩
theorem blocks_nil : Calls Try.prog 39 #[.pointer none] w (Ret r39 fun x w' => x = 0 ∧ w = w') := by
  apply s39_calls
  exact ⟨fun _ => ⟨rfl, rfl⟩, fun h => absurd h (by simp)⟩
theorem clone_nil : Calls Try.prog 36 #[.pointer none] w (Ret r36 fun x w' => x = none ∧ w = w') := by
  apply s36_calls
  exact ⟨fun _ => ⟨rfl, rfl⟩, fun h => absurd h (by simp)⟩
theorem plan_nil (p : Sl) : Calls Try.prog 37 #[.pointer none, p.v] w (Ret r37 fun _ w' => w = w') := by
  apply s37_calls
  exact ⟨fun h => absurd h (by simp), fun _ => rfl⟩
theorem crash_nil (f : Fall) : Calls Try.prog 35 #[.pointer none, aggv (fallOf f)] w (Ret r35 fun _ w' => Ext w w') := by
  apply s35_calls
  intro b1 w2 hb1 hw2
  refine cR_of (down_nil w2) ?_
  rintro x w' ⟨rfl, rfl⟩
  exact ⟨fun _ => Ext.new hw2, fun h => absurd h (by simp)⟩
end
end Go.Proofs.Ytagkcbbbdlmcjaa
end
section
/- The typed readings of the functions, and that the program meets each: written by gen.py (a program of this session). -/
set_option linter.unusedVariables false
set_option linter.unusedSimpArgs false
namespace Go.Proofs.Ytagkcbbbdlmcjaa
open Go.Lift
set_option maxRecDepth 100000 in
set_option maxHeartbeats 4000000 in
theorem s31_calls (K : Bool → World → Prop) (p0 : Int) (p1 : Sl) (w : World) (h : s31 K p0 p1 w) :
    Calls Try.prog 31 #[.int .i64 p0, Sl.v p1] w (Ret r31 K) := by
  unfold s31 at h
  refine calls_of_CW (n := 35) Try.func31 rfl rfl rfl ?_
  refine CW.seq ?_
  refine CW.region ?_
  refine RL.opS trivial rfl (OpW.assign (v := .bool false) rfl ?_)
  refine RL.nil ?_
  refine CW.seq ?_
  refine CW.seq ?_
  refine CW.region ?_
  refine RL.opS trivial rfl (OpW.move (v := .int .i64 p0) rfl ?_)
  refine RL.opS trivial rfl (OpW.bin (k := .i64) (a := p0) (b := 1) (v := .bool (decide (p0 < 1))) rfl rfl rfl ?_)
  refine RL.opS trivial rfl (OpW.move (v := .bool (decide (p0 < 1))) rfl ?_)
  refine jn_elim h ?_; clear h; intro k43 hk44 h
  refine RL.joinAt (A := Bool) 3 (fun s3 ρ => ρ 12 = .bool s3 ∧ ρ 1 = Sl.v p1) k43 ?_ ?_
  · rintro s3 ρ w4 ⟨e5, e6⟩ h
    subst hk44
    dsimp only [List.drop]
    refine RL.opS trivial rfl (OpW.move (v := .bool s3) e5 ?_)
    refine jn_elim h ?_; clear h; intro k41 hk42 h
    refine RL.joinAt (A := Bool) 4 (fun s9 ρ => ρ 17 = .bool s9 ∧ ρ 1 = Sl.v p1) k41 ?_ ?_
    · rintro s9 ρ w10 ⟨e11, e12⟩ h
      subst hk42
      dsimp only [List.drop]
      refine RL.nil ?_
      obtain ⟨ha, hc⟩ := h
      refine CW.cond (b := s9) e11 (fun hb13 => ?_) (fun hb13 => ?_)
      · have h := ha hb13; clear ha hc
        refine CW.seq ?_
        refine CW.region ?_
        refine RL.opS trivial rfl (OpW.assign (v := .bool false) rfl ?_)
        refine RL.nil ?_
        refine CW.ret ?_
        exact ret_intro (res1 rfl rfl) ⟨false, rfl, h⟩
      · have h := hc hb13; clear ha hc
        refine CW.skip ?_
        refine CW.seq ?_
        refine CW.seq ?_
        refine CW.region ?_
        refine RL.opS trivial rfl (OpW.move (v := Sl.v p1) e12 ?_)
        refine RL.opS trivial rfl (OpW.len (s := p1) slice_61 rfl ?_)
        refine RL.opS trivial rfl (OpW.move (v := .int .i64 0) rfl ?_)
        refine RL.nil ?_
        refine CW.block ?_
        obtain ⟨I39, mu40, hI, hs⟩ := h
        refine CW.loop (σ := Int) (fun s14 ρ => ρ 20 = .int .i64 s14 ∧ ρ 18 = Sl.v p1 ∧ ρ 19 = .int .i64 (p1.len : Int)) I39 mu40 0 ⟨rfl, rfl, rfl⟩ hI ?_
        rintro s14 ρ w15 ⟨e17, e18, e19⟩ hI
        have h := hs s14 w15 hI
        clear hs hI
        refine CW.seq ?_
        refine CW.region ?_
        refine RL.opS trivial rfl (OpW.bin (k := .i64) (a := s14) (b := (p1.len : Int)) (v := .bool (decide (s14 < (p1.len : Int)))) e17 e19 rfl ?_)
        refine RL.nil ?_
        refine CW.seq ?_
        obtain ⟨ha, hc⟩ := h
        refine CW.cond (b := (decide (s14 < (p1.len : Int)))) rfl (fun hb20 => ?_) (fun hb20 => ?_)
        · have h := ha hb20; clear ha hc
          refine CW.skip ?_
          refine CW.seq ?_
          refine CW.block ?_
          refine CW.seq ?_
          refine CW.region ?_
          obtain ⟨a21_, a21, h1, h2, h3, h4, h⟩ := h
          refine RL.opS trivial rfl (OpW.indexE (a' := a21) slice_61 e18 e17 h1 h2 h3 h4 ?_)
          obtain ⟨x23, h1, h2, h⟩ := h
          refine RL.opS trivial rfl (OpW.loadA agg_65 rfl h1 h2 ?_)
          obtain ⟨hl_b24, ho_b24, h⟩ := h
          obtain ⟨b24, hb24_⟩ : ∃ b_, b_ = w15.heap.size := ⟨_, rfl⟩
          obtain ⟨w25, hw25_⟩ : ∃ w_, w_ = w15.alloc (.cells (List.toArray x23) 65) := ⟨_, rfl⟩
          have h := h b24 w25 hb24_ hw25_
          refine RL.opS trivial rfl (OpW.allocZ (b := b24) zero_65 hb24_ ?_)
          refine RL.opN trivial (OpW.storeF (zs := [Value.int .i64 0, Value.int .i64 0, Value.int .u8 0, str [], Value.bool false, Value.int .i64 0, Value.int .u64 0, Value.int .i64 0, Value.slice none 0 0]) (cs := x23) size_65 rfl rfl hl_b24 (by decide) ho_b24 hb24_ hw25_ ?_)
          refine RL.nil ?_
          refine CW.seq ?_
          refine CW.region ?_
          refine RL.opS trivial rfl (OpW.fieldAddr field_65_3 rfl ?_)
          obtain ⟨x26, h1, h⟩ := h
          refine RL.opS trivial rfl (OpW.load1 (v := str x26) one_9 rfl h1 ?_)
          refine RL.opS trivial rfl (OpW.lenStr us_9 rfl ?_)
          refine RL.opS trivial rfl (OpW.bin (k := .i64) (a := (x26.length : Int)) (b := 600) (v := .bool (decide (600 < (x26.length : Int)))) rfl rfl rfl ?_)
          refine RL.opS trivial rfl (OpW.move (v := .bool (decide (600 < (x26.length : Int)))) rfl ?_)
          refine jn_elim h ?_; clear h; intro k37 hk38 h
          refine RL.joinAt (A := Bool) 5 (fun s30 ρ => ρ 33 = .bool s30 ∧ ρ 18 = Sl.v p1 ∧ ρ 19 = .int .i64 (p1.len : Int) ∧ ρ 20 = .int .i64 s14) k37 ?_ ?_
          · rintro s30 ρ w31 ⟨e32, e33, e34, e35⟩ h
            subst hk38
            dsimp only [List.drop]
            refine RL.nil ?_
            obtain ⟨ha, hc⟩ := h
            refine CW.cond (b := s30) e32 (fun hb36 => ?_) (fun hb36 => ?_)
            · have h := ha hb36; clear ha hc
              refine CW.seq ?_
              refine CW.region ?_
              refine RL.opS trivial rfl (OpW.assign (v := .bool false) rfl ?_)
              refine RL.nil ?_
              refine CW.ret ?_
              exact ret_intro (res1 rfl rfl) ⟨false, rfl, h⟩
            · have h := hc hb36; clear ha hc
              refine CW.skip ?_
              refine CW.region ?_
              refine RL.opS trivial rfl (OpW.bin (k := .i64) (a := s14) (b := 1) (v := .int .i64 (IntKind.i64.wrap (s14 + 1))) e35 rfl rfl ?_)
              refine RL.opS trivial rfl (OpW.move (v := .int .i64 (IntKind.i64.wrap (s14 + 1))) rfl ?_)
              refine RL.nil ?_
              exact ⟨(IntKind.i64.wrap (s14 + 1)), ⟨rfl, e33, e34⟩, h⟩
          · clear hk38
            dsimp only [List.take]
            obtain ⟨ha, hc⟩ := h
            rcases Bool.eq_false_or_eq_true (decide (600 < (x26.length : Int))) with hb27 | hb27
            · have h := ha hb27; clear ha hc
              refine RL.skipS (notWanted_of rfl rfl hb27) rfl ?_
              refine RL.skipS (notWanted_of rfl rfl hb27) rfl ?_
              refine RL.skipS (notWanted_of rfl rfl hb27) rfl ?_
              refine RL.skipS (notWanted_of rfl rfl hb27) rfl ?_
              refine RL.opS trivial rfl (OpW.pick (b := true) (v := .bool true) (congrArg Value.bool hb27) rfl ?_)
              refine RL.nil ?_
              exact ⟨true, ⟨rfl, e18, e19, e17⟩, h⟩
            · have h := hc hb27; clear ha hc
              refine RL.opS (wanted_of rfl rfl hb27) rfl (OpW.fieldAddr field_65_6 rfl ?_)
              obtain ⟨x29, h1, h⟩ := h
              refine RL.opS (wanted_of rfl rfl hb27) rfl (OpW.load1 (v := Sl.v x29) one_47 rfl h1 ?_)
              refine RL.opS (wanted_of rfl rfl hb27) rfl (OpW.len (s := x29) slice_47 rfl ?_)
              refine RL.opS (wanted_of rfl rfl hb27) rfl (OpW.bin (k := .i64) (a := (x29.len : Int)) (b := 20) (v := .bool (decide (20 < (x29.len : Int)))) rfl rfl rfl ?_)
              refine RL.opS trivial rfl (OpW.pick (b := false) (v := .bool (decide (20 < (x29.len : Int)))) (congrArg Value.bool hb27) rfl ?_)
              refine RL.nil ?_
              exact ⟨(decide (20 < (x29.len : Int))), ⟨rfl, e18, e19, e17⟩, h⟩
        · have h := hc hb20; clear ha hc
          refine CW.exit ?_
          refine CW.seq ?_
          refine CW.region ?_
          refine RL.opS trivial rfl (OpW.assign (v := .bool true) rfl ?_)
          refine RL.nil ?_
          refine CW.ret ?_
          exact ret_intro (res1 rfl rfl) ⟨true, rfl, h⟩
    · clear hk42
      dsimp only [List.take]
      obtain ⟨ha, hc⟩ := h
      rcases Bool.eq_false_or_eq_true s3 with hb7 | hb7
      · have h := ha hb7; clear ha hc
        refine RL.skipS (notWanted_of rfl rfl hb7) rfl ?_
        refine RL.skipS (notWanted_of rfl rfl hb7) rfl ?_
        refine RL.skipS (notWanted_of rfl rfl hb7) rfl ?_
        refine RL.opS trivial rfl (OpW.pick (b := true) (v := .bool true) (congrArg Value.bool hb7) rfl ?_)
        refine RL.nil ?_
        exact ⟨true, ⟨rfl, e6⟩, h⟩
      · have h := hc hb7; clear ha hc
        refine RL.opS (wanted_of rfl rfl hb7) rfl (OpW.move (v := Sl.v p1) e6 ?_)
        refine RL.opS (wanted_of rfl rfl hb7) rfl (OpW.len (s := p1) slice_61 rfl ?_)
        refine RL.opS (wanted_of rfl rfl hb7) rfl (OpW.bin (k := .i64) (a := (p1.len : Int)) (b := 60) (v := .bool (decide (60 < (p1.len : Int)))) rfl rfl rfl ?_)
        refine RL.opS trivial rfl (OpW.pick (b := false) (v := .bool (decide (60 < (p1.len : Int)))) (congrArg Value.bool hb7) rfl ?_)
        refine RL.nil ?_
        exact ⟨(decide (60 < (p1.len : Int))), ⟨rfl, e6⟩, h⟩
  · clear hk44
    dsimp only [List.take]
    obtain ⟨ha, hc⟩ := h
    rcases Bool.eq_false_or_eq_true (decide (p0 < 1)) with hb1 | hb1
    · have h := ha hb1; clear ha hc
      refine RL.skipS (notWanted_of rfl rfl hb1) rfl ?_
      refine RL.skipS (notWanted_of rfl rfl hb1) rfl ?_
      refine RL.opS trivial rfl (OpW.pick (b := true) (v := .bool true) (congrArg Value.bool hb1) rfl ?_)
      refine RL.nil ?_
      exact ⟨true, ⟨rfl, rfl⟩, h⟩
    · have h := hc hb1; clear ha hc
      refine RL.opS (wanted_of rfl rfl hb1) rfl (OpW.move (v := .int .i64 p0) rfl ?_)
      refine RL.opS (wanted_of rfl rfl hb1) rfl (OpW.bin (k := .i64) (a := p0) (b := 12) (v := .bool (decide (12 < p0))) rfl rfl rfl ?_)
      refine RL.opS trivial rfl (OpW.pick (b := false) (v := .bool (decide (12 < p0))) (congrArg Value.bool hb1) rfl ?_)
      refine RL.nil ?_
      exact ⟨(decide (12 < p0)), ⟨rfl, rfl⟩, h⟩
end Go.Proofs.Ytagkcbbbdlmcjaa
end
section
/- Scripts: which fit; and what a disk has behind writes, a flush and a loss of power. -/
set_option linter.unusedVariables false
set_option linter.unusedSimpArgs false
namespace Go.Proofs.Ytagkcbbbdlmcjaa
open Go.Lift Go.Lift.Disk Go.RowKit
def Fits (n : Int) (l : List OpA) : Prop := 1 ≤ n ∧ n ≤ 12 ∧ l.length ≤ 60 ∧ ∀ o ∈ l, o.s.length ≤ 600 ∧ o.falls.length ≤ 20
theorem opCells_one (o : OpA) : ∀ v ∈ o.cells, v.oneCell' = true := by
  intro v hv
  simp only [OpA.cells, List.mem_cons, List.not_mem_nil, or_false] at hv
  rcases hv with rfl | rfl | rfl | rfl | rfl | rfl | rfl | rfl | rfl <;> rfl
theorem fits_ok (w : World) (n : Int) (p : Sl) (l : List OpA) (h : OpsAt w p l) (hm : p.len ≤ maxLen) : Calls Try.prog 31 #[.int .i64 n, p.v] w (Ret r31 fun x w' => (x = true → Fits n l) ∧ Ext w w') := by
  apply s31_calls
  have hpl := h.len
  simp only [maxLen] at hm
  refine jn_of fun k1 hk1 => ?_
  have key1 : ∀ b : Bool, (b = false → 1 ≤ n ∧ n ≤ 12) → k1 b w := by
    intro b hb
    rw [hk1]
    refine jn_of fun k2 hk2 => ?_
    have key2 : ∀ b2 : Bool, (b2 = false → 1 ≤ n ∧ n ≤ 12 ∧ l.length ≤ 60) → k2 b2 w := by
      intro b2 hb2
      rw [hk2]
      refine ⟨fun _ => ⟨fun h => absurd h (by decide), Ext.refl _⟩, fun hf => ?_⟩
      obtain ⟨h1, h2, h3⟩ := hb2 hf
      refine ⟨fun st w' => ∃ k : Nat, k ≤ l.length ∧ st = (k : Int) ∧ Ext w w' ∧ ∀ o ∈ l.take k, o.s.length ≤ 600 ∧ o.falls.length ≤ 20, fun st _ => l.length - st.toNat, ⟨0, Nat.zero_le _, rfl, Ext.refl _, by simp⟩, ?_⟩
      rintro st w15 ⟨k, hk, rfl, hx, hall⟩
      refine ⟨fun hlt => ?_, fun hge => ?_⟩
      · have hkl : k < l.length := by have := of_decide_eq_true hlt; omega
        obtain ⟨a, ha, hat⟩ := (h.ext hx).get hkl
        refine ⟨a, _, ha, by omega, by omega, rfl, ?_⟩
        rw [Int.toNat_natCast]
        refine ⟨_, rfl, hat, rfl, opCells_one _, fun b24 w25 hb24 hw25 => ?_⟩
        have hx25 : Ext w15 w25 := Ext.new hw25
        have hB : Blk w25 b24 65 l[k].cells := Blk.new hb24 hw25
        refine ⟨l[k].s, by rw [add_plain]; exact hB.cell rfl, ?_⟩
        refine jn_of fun k3 hk3 => ?_
        have key3 : ∀ b3 : Bool, (b3 = false → l[k].s.length ≤ 600 ∧ l[k].falls.length ≤ 20) → k3 b3 w25 := by
          intro b3 hb3
          rw [hk3]
          refine ⟨fun _ => ⟨fun h => absurd h (by decide), hx.trans hx25⟩, fun hf => ?_⟩
          obtain ⟨h5, h6⟩ := hb3 hf
          rw [w64_eq (by omega) (by omega)]
          refine ⟨⟨k + 1, by omega, by omega, hx.trans hx25, ?_⟩, by simp only; omega⟩
          intro o ho
          rw [List.take_succ_eq_append_getElem hkl, List.mem_append] at ho
          rcases ho with ho | ho
          · exact hall o ho
          · rw [List.mem_singleton.1 ho]; exact ⟨h5, h6⟩
        have hfl := (h.ok _ (List.getElem_mem hkl)).falls.len
        refine ⟨fun _ => key3 true fun h => absurd h (by decide), fun hs => ?_⟩
        have hs := of_decide_eq_false hs
        refine ⟨l[k].fs, by rw [add_plain]; exact hB.cell rfl, key3 _ fun h => ?_⟩
        have := of_decide_eq_false h
        omega
      · have hge : k = l.length := by have := of_decide_eq_false hge; omega
        subst hge
        rw [List.take_length] at hall
        exact ⟨fun _ => ⟨h1, h2, h3, hall⟩, hx⟩
    refine ⟨fun h => key2 true fun h => absurd h (by decide), fun h => key2 _ fun h6 => ?_⟩
    have := of_decide_eq_false h6
    obtain ⟨h1, h2⟩ := hb h
    exact ⟨h1, h2, by omega⟩
  refine ⟨fun h => key1 true fun h => absurd h (by decide), fun h => key1 _ fun h2 => ?_⟩
  have := of_decide_eq_false h
  have := of_decide_eq_false h2
  omega

/-! ### the plain law -/
def lastOf (ps : List (Nat × List UInt8)) (i : Nat) (d : List UInt8) : List UInt8 := ps.foldl (fun acc p => if p.1 = i then p.2 else acc) d
theorem lastOf_append (ps : List (Nat × List UInt8)) (p : Nat × List UInt8) (i : Nat) (d : List UInt8) : lastOf (ps ++ [p]) i d = if p.1 = i then p.2 else lastOf ps i d := by simp [lastOf, List.foldl_append]
theorem lastOf_none : ∀ (ps : List (Nat × List UInt8)) (i : Nat) (d : List UInt8), (∀ p ∈ ps, p.1 ≠ i) → lastOf ps i d = d
  | [], _, _, _ => rfl
  | p :: ps, i, d, h => by
    have := lastOf_none ps i d fun q hq => h q (by simp [hq])
    unfold lastOf at this ⊢
    rw [List.foldl_cons, if_neg (h p (by simp))]
    exact this
theorem bAt_setSure {l : List Bl} {j : Nat} (b : List UInt8) {i : Nat} (hi : i < l.length) : bAt (setSure l j b) i = if j = i then ((bAt l i).1, b) else bAt l i := by
  unfold setSure
  rw [bAt_lt (by simpa using hi), List.getElem_set]
  by_cases h : j = i
  · subst h; simp
  · rw [if_neg h, if_neg h, bAt_lt hi]
theorem bAt_setNow {l : List Bl} {j : Nat} (b : List UInt8) {i : Nat} (hi : i < l.length) : bAt (setNow l j b) i = if j = i then (b, (bAt l i).2) else bAt l i := by
  unfold setNow
  rw [bAt_lt (by simpa using hi), List.getElem_set]
  by_cases h : j = i
  · subst h; simp
  · rw [if_neg h, if_neg h, bAt_lt hi]
theorem flushL_at : ∀ (ps : List (Nat × List UInt8)) (l : List Bl) (i : Nat), i < l.length → bAt (flushL l ps) i = ((bAt l i).1, lastOf ps i (bAt l i).2)
  | [], l, i, _ => rfl
  | p :: ps, l, i, hi => by
    have := flushL_at ps (setSure l p.1 p.2) i (by rw [setSure_len]; exact hi)
    unfold flushL lastOf at this ⊢
    rw [List.foldl_cons, List.foldl_cons, this, bAt_setSure _ hi]
    by_cases h : p.1 = i <;> simp [h]
theorem crashStep_at {f : Fall} {last : Int} {l : List Bl} {k : Nat} {p : Nat × List UInt8} {i : Nat} (hi : i < l.length) (h : p.1 ≠ i) : bAt (crashStep f last l k p) i = bAt l i := by
  unfold crashStep
  split
  · rw [bAt_setSure _ hi, if_neg h]
  · split
    · rw [bAt_setSure _ hi, if_neg h]
    · rfl
theorem crashL_at (f : Fall) (last : Int) : ∀ (ps : List (Nat × List UInt8)) (k : Nat) (l : List Bl) (i : Nat), i < l.length → (∀ p ∈ ps, p.1 ≠ i) → bAt (crashL f last k ps l) i = bAt l i
  | [], _, _, _, _, _ => rfl
  | p :: ps, k, l, i, hi, h => by
    rw [crashL, crashL_at f last ps (k + 1) _ i (by rw [crashStep_len]; exact hi) fun q hq => h q (by simp [hq]), crashStep_at hi (h p (by simp))]
theorem crashL_len' (f : Fall) (last : Int) : ∀ (ps : List (Nat × List UInt8)) (k : Nat) (l : List Bl), (crashL f last k ps l).length = l.length
  | [], _, _ => rfl
  | p :: ps, k, l => by rw [crashL, crashL_len' f last ps, crashStep_len]
theorem flushL_len' : ∀ (ps : List (Nat × List UInt8)) (l : List Bl), (flushL l ps).length = l.length
  | [], _ => rfl
  | p :: ps, l => by
    have := flushL_len' ps (setSure l p.1 p.2)
    unfold flushL at this ⊢
    rw [List.foldl_cons, this, setSure_len]
theorem crash_up {D : Dk} (hd : D.down = false) (f : Fall) : D.crash f = { D with bl := (crashL f ((D.pend.length : Int) - 1) 0 D.pend D.bl).map fun p => (p.2, p.2), pend := [], down := true } := by
  unfold Dk.crash
  rw [if_neg (by rw [hd]; simp)]
theorem bAt_map {l : List Bl} {g : Bl → Bl} {i : Nat} (hi : i < l.length) : bAt (l.map g) i = g (bAt l i) := by
  rw [bAt_lt (by simpa using hi), bAt_lt hi]; simp
/-- a disk that is up, of which no fall is planned, and whose blocks are what was written last -/
structure Run (n m k : Nat) (D : Dk) : Prop where
  down : D.down = false
  falls : D.falls = []
  len : D.bl.length = n
  pend : D.pend.length ≤ m
  ch : D.changes ≤ k
  now : ∀ i, i < n → (bAt D.bl i).1 = lastOf D.pend i (bAt D.bl i).2
theorem strike_bare {D : Dk} (h : D.falls = []) : D.strike = (Dk.tick D, 0) := strike_none (by rw [h]; rfl)
theorem run_write {n m k : Nat} {D : Dk} (h : Run n m k D) {i : Nat} (hi : i < n) {b : List UInt8} (hb : b.length = 512) : D.write (i : Int) b = (Dk.tick (D.put i b), 0) ∧ Run n (m + 1) (k + 1) (Dk.tick (D.put i b)) := by
  have hw : D.why (i : Int) = 0 := by
    unfold Dk.why
    rw [if_neg (by rw [h.down]; simp), if_neg (by rw [h.len]; omega)]
  refine ⟨?_, ⟨h.down, h.falls, by show (setNow _ _ _).length = n; rw [setNow_len]; exact h.len, ?_, by show D.changes + 1 ≤ k + 1; have := h.ch; omega, ?_⟩⟩
  · unfold Dk.write
    rw [if_neg (by rw [hw]; simp), if_neg (by rw [hb]; simp), Int.toNat_natCast]
    exact strike_bare (D := D.put i b) h.falls
  · show (D.pend ++ [(i, b)]).length ≤ m + 1
    rw [List.length_append]
    have := h.pend
    simp only [List.length_cons, List.length_nil]
    omega
  · intro j hj
    show (bAt (setNow D.bl i b) j).1 = lastOf (D.pend ++ [(i, b)]) j (bAt (setNow D.bl i b) j).2
    rw [bAt_setNow _ (by rw [h.len]; exact hj), lastOf_append]
    by_cases he : i = j
    · simp [he]
    · simp only [he, if_false]
      exact h.now j hj
def Dk.flushed (D : Dk) : Dk := { Dk.tick D with bl := flushL D.bl D.pend, pend := [] }
theorem run_flush {n m k : Nat} {D : Dk} (h : Run n m k D) : D.flush = (Dk.flushed D, 0) ∧ Run n 0 (k + 1) (Dk.flushed D) ∧ ∀ i, i < n → bAt (Dk.flushed D).bl i = ((bAt D.bl i).1, (bAt D.bl i).1) := by
  have hat : ∀ i, i < n → bAt (Dk.flushed D).bl i = ((bAt D.bl i).1, (bAt D.bl i).1) := by
    intro i hi
    show bAt (flushL D.bl D.pend) i = _
    rw [flushL_at _ _ _ (by rw [h.len]; exact hi), ← h.now i hi]
  refine ⟨?_, ⟨h.down, h.falls, by show (flushL _ _).length = n; rw [flushL_len']; exact h.len, Nat.le_refl _, by show D.changes + 1 ≤ k + 1; have := h.ch; omega, ?_⟩, hat⟩
  · unfold Dk.flush
    rw [if_neg (by rw [h.down]; simp), strike_bare h.falls, if_neg (by simp)]
    rfl
  · intro i hi
    rw [hat i hi]
    rfl
theorem run_fresh (n : Nat) : Run n 0 0 (fresh n) := by
  refine ⟨rfl, rfl, by simp [fresh], by simp [fresh], by simp [fresh], fun i hi => ?_⟩
  have : bAt (fresh n).bl i = (zero512, zero512) := by
    rw [bAt_lt (by simp [fresh]; exact hi)]
    simp [fresh]
  rw [this]; rfl
end Go.Proofs.Ytagkcbbbdlmcjaa
end
section
/- The typed readings of the functions, and that the program meets each: written by gen.py (a program of this session). -/
set_option linter.unusedVariables false
set_option linter.unusedSimpArgs false
namespace Go.Proofs.Ytagkcbbbdlmcjaa
open Go.Lift
set_option maxRecDepth 100000 in
set_option maxHeartbeats 4000000 in
theorem s24_calls (K : List Value → World → Prop) (p0 : Int) (w : World) (h : s24 K p0 w) :
    Calls Try.prog 24 #[.int .i64 p0] w (Ret r24 K) := by
  unfold s24 at h
  refine calls_of_CW (n := 19) Try.func24 rfl rfl rfl ?_
  refine CW.seq ?_
  refine CW.region ?_
  obtain ⟨b1, hb1_⟩ : ∃ b_, b_ = w.heap.size := ⟨_, rfl⟩
  obtain ⟨w2, hw2_⟩ : ∃ w_, w_ = w.alloc (.cells (List.toArray [Value.slice none 0 0, Value.slice none 0 0, Value.slice none 0 0, Value.int .i64 0, Value.bool false]) 49) := ⟨_, rfl⟩
  have h := h b1 w2 hb1_ hw2_
  refine RL.opS trivial rfl (OpW.allocE (b := b1) zero_49 hb1_ hw2_ ?_)
  refine RL.nil ?_
  refine CW.seq ?_
  refine CW.region ?_
  obtain ⟨h1, h2, h3, h4, h⟩ := h
  obtain ⟨b3, hb3_⟩ : ∃ b_, b_ = w2.heap.size := ⟨_, rfl⟩
  obtain ⟨w4, hw4_⟩ : ∃ w_, w_ = w2.alloc (.cells (List.replicate (Int.toNat 512 * 1) (Value.int .u8 0)).toArray 5) := ⟨_, rfl⟩
  have h := h b3 w4 hb3_ hw4_
  obtain ⟨x5, hx5_⟩ : ∃ s_ : Sl, s_ = ⟨some ⟨b3, 0, none⟩, Int.toNat 512, Int.toNat 512⟩ := ⟨_, rfl⟩
  rw [← hx5_] at h
  refine RL.opS trivial rfl (OpW.makeSliceE mk_39 (by decide) rfl rfl h1 h2 h3 h4 hb3_ hw4_ hx5_ ?_)
  obtain ⟨x6, h1, h2, h⟩ := h
  refine RL.opS trivial rfl (OpW.b2s bsl_39 str_9 rfl h1 h2 ?_)
  refine RL.opS trivial rfl (OpW.assign (v := str x6) rfl ?_)
  refine RL.nil ?_
  refine CW.seq ?_
  refine CW.region ?_
  refine RL.opS trivial rfl (OpW.assign (v := Sl.v nilSl) rfl ?_)
  refine RL.nil ?_
  refine CW.seq ?_
  refine CW.seq ?_
  refine CW.region ?_
  refine RL.opS trivial rfl (OpW.assign (v := .int .i64 0) rfl ?_)
  refine RL.nil ?_
  refine CW.block ?_
  obtain ⟨I22, mu23, hI, hs⟩ := h
  refine CW.loop (σ := Sl × Int) (fun s7 ρ => ρ 4 = Sl.v s7.1 ∧ ρ 5 = .int .i64 s7.2 ∧ ρ 0 = .int .i64 p0 ∧ ρ 2 = .pointer (some ⟨b1, 0, none⟩) ∧ ρ 3 = str x6) I22 mu23 (nilSl, 0) ⟨rfl, rfl, rfl, rfl, rfl⟩ hI ?_
  rintro s7 ρ w8 ⟨e10, e11, e12, e13, e14⟩ hI
  have h := hs s7 w8 hI
  clear hs hI
  refine CW.seq ?_
  refine CW.seq ?_
  refine CW.region ?_
  refine RL.opS trivial rfl (OpW.move (v := .int .i64 s7.2) e11 ?_)
  refine RL.opS trivial rfl (OpW.move (v := .int .i64 p0) e12 ?_)
  refine RL.opS trivial rfl (OpW.bin (k := .i64) (a := s7.2) (b := p0) (v := .bool (decide (s7.2 < p0))) rfl rfl rfl ?_)
  refine RL.nil ?_
  obtain ⟨ha, hc⟩ := h
  refine CW.cond (b := (decide (s7.2 < p0))) rfl (fun hb15 => ?_) (fun hb15 => ?_)
  · have h := ha hb15; clear ha hc
    refine CW.skip ?_
    refine CW.seq ?_
    refine CW.block ?_
    refine CW.region ?_
    refine RL.opS trivial rfl (OpW.move (v := Sl.v s7.1) e10 ?_)
    refine RL.opS trivial rfl (OpW.move (v := str x6) e14 ?_)
    obtain ⟨b16, hb16_⟩ : ∃ b_, b_ = w8.heap.size := ⟨_, rfl⟩
    obtain ⟨w17, hw17_⟩ : ∃ w_, w_ = w8.alloc (.cells (List.toArray [str x6]) 9) := ⟨_, rfl⟩
    have h := h b16 w17 hb16_ hw17_
    refine RL.opS trivial rfl (OpW.buildSliceE (vs := [(0, str x6)]) (cs := [str x6]) (by rfl) (by kernel_rfl) hb16_ hw17_ ?_)
    obtain ⟨x18, w19, hr_, h⟩ := h
    refine RL.opS trivial rfl (OpW.appendL (v := Sl.v x18) rfl hr_ ?_)
    refine RL.opS trivial rfl (OpW.assign (v := Sl.v x18) rfl ?_)
    refine RL.nil ?_
    refine CW.region ?_
    refine RL.opS trivial rfl (OpW.move (v := .int .i64 s7.2) e11 ?_)
    refine RL.opS trivial rfl (OpW.bin (k := .i64) (a := s7.2) (b := 1) (v := .int .i64 (IntKind.i64.wrap (s7.2 + 1))) rfl rfl rfl ?_)
    refine RL.opS trivial rfl (OpW.assign (v := .int .i64 (IntKind.i64.wrap (s7.2 + 1))) rfl ?_)
    refine RL.nil ?_
    exact ⟨(x18, (IntKind.i64.wrap (s7.2 + 1))), ⟨rfl, rfl, e12, e13, e14⟩, h⟩
  · have h := hc hb15; clear ha hc
    refine CW.exit ?_
    refine CW.seq ?_
    refine CW.region ?_
    refine RL.opS trivial rfl (OpW.move (v := Sl.v s7.1) e10 ?_)
    refine RL.opS trivial rfl (OpW.buildL (vs := [(0, Sl.v s7.1)]) (cs := [Sl.v s7.1, Value.slice none 0 0, Value.slice none 0 0, Value.int .i64 0, Value.bool false]) (by rfl) (fun _ => by kernel_rfl) ?_)
    obtain ⟨g_, o_, e_, cur_, ha_, h1, h2, h3, h4, h⟩ := h
    obtain ⟨w20, hw20_⟩ : ∃ w_, w_ = w8.setRow g_ (cur_.toList.take o_ ++ [Sl.v s7.1, Value.slice none 0 0, Value.slice none 0 0, Value.int .i64 0, Value.bool false] ++ cur_.toList.drop (o_ + List.length [Sl.v s7.1, Value.slice none 0 0, Value.slice none 0 0, Value.int .i64 0, Value.bool false])).toArray := ⟨_, rfl⟩
    have h := h w20 hw20_
    refine RL.opN trivial (OpW.storeAE (cs := [Sl.v s7.1, Value.slice none 0 0, Value.slice none 0 0, Value.int .i64 0, Value.bool false]) size_49 e13 rfl ha_ h1 h2 h3 h4 hw20_ ?_)
    refine RL.nil ?_
    refine CW.ret ?_
    obtain ⟨x21, hc1, hc2, h⟩ := h
    exact ret_intro (res1c rfl agg_49 e13 hc1 hc2) ⟨x21, rfl, h⟩
end Go.Proofs.Ytagkcbbbdlmcjaa
end
section
/- The typed readings of the functions, and that the program meets each: written by gen.py (a program of this session). -/
set_option linter.unusedVariables false
set_option linter.unusedSimpArgs false
namespace Go.Proofs.Ytagkcbbbdlmcjaa
open Go.Lift
set_option maxRecDepth 100000 in
set_option maxHeartbeats 4000000 in
theorem s29_calls (K : List UInt8 → World → Prop) (p0 : List Value) (p1 : Int) (w : World) (h : s29 K p0 p1 w) :
    Calls Try.prog 29 #[aggv p0, .int .i64 p1] w (Ret r29 K) := by
  unfold s29 at h
  refine calls_of_CW (n := 34) Try.func29 rfl rfl rfl ?_
  refine CW.seq ?_
  refine CW.region ?_
  obtain ⟨b1, hb1_⟩ : ∃ b_, b_ = w.heap.size := ⟨_, rfl⟩
  obtain ⟨w2, hw2_⟩ : ∃ w_, w_ = w.alloc (.cells (List.toArray p0) 49) := ⟨_, rfl⟩
  have h := h b1 w2 hb1_ hw2_
  refine RL.opS trivial rfl (OpW.boxE (cs := p0) (rfl) hb1_ hw2_ ?_)
  refine RL.opS trivial rfl (OpW.assign (v := str []) rfl ?_)
  refine RL.nil ?_
  refine CW.seq ?_
  refine CW.region ?_
  refine RL.opS trivial rfl (OpW.fieldAddr (off := 0) field_49_0 rfl ?_)
  obtain ⟨x3, h1, h⟩ := h
  refine RL.opS trivial rfl (OpW.load1 (v := Sl.v x3) one_45 rfl h1 ?_)
  refine RL.opS trivial rfl (OpW.move (v := .int .i64 p1) rfl ?_)
  obtain ⟨a4_, a4, h1, h2, h3, h4, h⟩ := h
  refine RL.opS trivial rfl (OpW.indexE (a' := a4) slice_45 rfl rfl h1 h2 h3 h4 ?_)
  obtain ⟨x6, h1, h⟩ := h
  refine RL.opS trivial rfl (OpW.load1 (v := str x6) one_9 rfl h1 ?_)
  refine RL.opS trivial rfl (OpW.assign (v := str x6) rfl ?_)
  refine RL.nil ?_
  refine CW.seq ?_
  refine CW.seq ?_
  refine CW.region ?_
  refine RL.opS trivial rfl (OpW.assign (v := .int .i64 0) rfl ?_)
  refine RL.nil ?_
  refine CW.block ?_
  obtain ⟨I34, mu35, hI, hs⟩ := h
  refine CW.loop (σ := List UInt8 × Int) (fun s7 ρ => ρ 5 = str s7.1 ∧ ρ 6 = .int .i64 s7.2 ∧ ρ 1 = .int .i64 p1 ∧ ρ 2 = .pointer (some ⟨b1, 0, none⟩)) I34 mu35 (x6, 0) ⟨rfl, rfl, rfl, rfl⟩ hI ?_
  rintro s7 ρ w8 ⟨e10, e11, e12, e13⟩ hI
  have h := hs s7 w8 hI
  clear hs hI
  refine CW.seq ?_
  refine CW.seq ?_
  refine CW.region ?_
  refine RL.opS trivial rfl (OpW.move (v := .int .i64 s7.2) e11 ?_)
  refine RL.opS trivial rfl (OpW.fieldAddr field_49_1 e13 ?_)
  obtain ⟨x14, h1, h⟩ := h
  refine RL.opS trivial rfl (OpW.load1 (v := Sl.v x14) one_46 rfl h1 ?_)
  refine RL.opS trivial rfl (OpW.len (s := x14) slice_46 rfl ?_)
  refine RL.opS trivial rfl (OpW.bin (k := .i64) (a := s7.2) (b := (x14.len : Int)) (v := .bool (decide (s7.2 < (x14.len : Int)))) rfl rfl rfl ?_)
  refine RL.nil ?_
  obtain ⟨ha, hc⟩ := h
  refine CW.cond (b := (decide (s7.2 < (x14.len : Int)))) rfl (fun hb15 => ?_) (fun hb15 => ?_)
  · have h := ha hb15; clear ha hc
    refine CW.skip ?_
    refine jn_elim h ?_; clear h; intro k32 hk33 h
    refine CW.seqJ (A := List UInt8) (fun s26 ρ => ρ 5 = str s26 ∧ ρ 1 = .int .i64 p1 ∧ ρ 2 = .pointer (some ⟨b1, 0, none⟩) ∧ ρ 6 = .int .i64 s7.2) k32 ?_ ?_
    · rintro s26 ρ w27 ⟨e28, e29, e30, e31⟩ h
      subst hk33
      refine CW.region ?_
      refine RL.opS trivial rfl (OpW.move (v := .int .i64 s7.2) e31 ?_)
      refine RL.opS trivial rfl (OpW.bin (k := .i64) (a := s7.2) (b := 1) (v := .int .i64 (IntKind.i64.wrap (s7.2 + 1))) rfl rfl rfl ?_)
      refine RL.opS trivial rfl (OpW.assign (v := .int .i64 (IntKind.i64.wrap (s7.2 + 1))) rfl ?_)
      refine RL.nil ?_
      exact ⟨(s26, (IntKind.i64.wrap (s7.2 + 1))), ⟨e28, rfl, e29, e30⟩, h⟩
    · clear hk33
      refine CW.block ?_
      refine CW.seq ?_
      refine CW.region ?_
      refine RL.opS trivial rfl (OpW.fieldAddr field_49_1 e13 ?_)
      obtain ⟨x17, h1, h⟩ := h
      refine RL.opS trivial rfl (OpW.load1 (v := Sl.v x17) one_46 rfl h1 ?_)
      refine RL.opS trivial rfl (OpW.move (v := .int .i64 s7.2) e11 ?_)
      obtain ⟨a18_, a18, h1, h2, h3, h4, h⟩ := h
      refine RL.opS trivial rfl (OpW.indexE (a' := a18) slice_46 rfl rfl h1 h2 h3 h4 ?_)
      refine RL.opS trivial rfl (OpW.fieldAddr (off := 0) field_114_0 rfl ?_)
      obtain ⟨x20, h1, h⟩ := h
      refine RL.opS trivial rfl (OpW.load1 (v := .int .i64 x20) one_3 rfl h1 ?_)
      refine RL.opS trivial rfl (OpW.move (v := .int .i64 p1) e12 ?_)
      refine RL.opS trivial rfl (OpW.bin (k := .i64) (a := x20) (b := p1) (v := .bool (decide (x20 = p1))) rfl rfl rfl ?_)
      refine RL.nil ?_
      obtain ⟨ha, hc⟩ := h
      refine CW.cond (b := (decide (x20 = p1))) rfl (fun hb21 => ?_) (fun hb21 => ?_)
      · have h := ha hb21; clear ha hc
        refine CW.region ?_
        refine RL.opS trivial rfl (OpW.fieldAddr field_49_1 e13 ?_)
        obtain ⟨x22, h1, h⟩ := h
        refine RL.opS trivial rfl (OpW.load1 (v := Sl.v x22) one_46 rfl h1 ?_)
        refine RL.opS trivial rfl (OpW.move (v := .int .i64 s7.2) e11 ?_)
        obtain ⟨a23_, a23, h1, h2, h3, h4, h⟩ := h
        refine RL.opS trivial rfl (OpW.indexE (a' := a23) slice_46 rfl rfl h1 h2 h3 h4 ?_)
        refine RL.opS trivial rfl (OpW.fieldAddr field_114_1 rfl ?_)
        obtain ⟨x25, h1, h⟩ := h
        refine RL.opS trivial rfl (OpW.load1 (v := str x25) one_9 rfl h1 ?_)
        refine RL.opS trivial rfl (OpW.assign (v := str x25) rfl ?_)
        refine RL.nil ?_
        exact ⟨x25, ⟨rfl, e12, e13, e11⟩, h⟩
      · have h := hc hb21; clear ha hc
        refine CW.skip ?_
        exact ⟨s7.1, ⟨e10, e12, e13, e11⟩, h⟩
  · have h := hc hb15; clear ha hc
    refine CW.exit ?_
    refine CW.seq ?_
    refine CW.region ?_
    refine RL.opS trivial rfl (OpW.move (v := str s7.1) e10 ?_)
    refine RL.opS trivial rfl (OpW.assign (v := str s7.1) rfl ?_)
    refine RL.nil ?_
    refine CW.ret ?_
    exact ret_intro (res1 rfl rfl) ⟨s7.1, rfl, h⟩
end Go.Proofs.Ytagkcbbbdlmcjaa
end
section
/- The typed readings of the functions, and that the program meets each: written by gen.py (a program of this session). -/
set_option linter.unusedVariables false
set_option linter.unusedSimpArgs false
namespace Go.Proofs.Ytagkcbbbdlmcjaa
open Go.Lift
set_option maxRecDepth 100000 in
set_option maxHeartbeats 4000000 in
theorem s42_calls (K : List Value × Int → World → Prop) (p0 : List Value) (p1 : Int) (p2 : List UInt8) (w : World) (h : s42 K p0 p1 p2 w) :
    Calls Try.prog 42 #[aggv p0, .int .i64 p1, str p2] w (Ret r42 K) := by
  unfold s42 at h
  refine calls_of_CW (n := 34) Try.func42 rfl rfl rfl ?_
  refine CW.seq ?_
  refine CW.region ?_
  obtain ⟨b1, hb1_⟩ : ∃ b_, b_ = w.heap.size := ⟨_, rfl⟩
  obtain ⟨w2, hw2_⟩ : ∃ w_, w_ = w.alloc (.cells (List.toArray p0) 49) := ⟨_, rfl⟩
  have h := h b1 w2 hb1_ hw2_
  refine RL.opS trivial rfl (OpW.boxE (cs := p0) (rfl) hb1_ hw2_ ?_)
  obtain ⟨b3, hb3_⟩ : ∃ b_, b_ = w2.heap.size := ⟨_, rfl⟩
  obtain ⟨w4, hw4_⟩ : ∃ w_, w_ = w2.alloc (.cells (List.toArray [Value.slice none 0 0, Value.slice none 0 0, Value.slice none 0 0, Value.int .i64 0, Value.bool false]) 49) := ⟨_, rfl⟩
  have h := h b3 w4 hb3_ hw4_
  refine RL.opS trivial rfl (OpW.allocE (b := b3) zero_49 hb3_ hw4_ ?_)
  refine RL.opS trivial rfl (OpW.assign (v := .int .i64 0) rfl ?_)
  refine RL.nil ?_
  refine CW.seq ?_
  refine CW.seq ?_
  refine CW.region ?_
  obtain ⟨x5, h1, h2, h⟩ := h
  refine RL.opS trivial rfl (OpW.loadA agg_49 rfl h1 h2 ?_)
  refine RL.opS trivial rfl (OpW.move (v := .int .i64 p1) rfl ?_)
  refine RL.opS trivial rfl (OpW.callR (al := [aggv x5, .int .i64 p1]) Try.func66 fb_66 fn_66 rfl h (fun x6 w7 h => ?_))
  refine RL.opS trivial rfl (OpW.assign (v := .int .i64 x6) rfl ?_)
  refine RL.nil ?_
  refine CW.seq ?_
  refine CW.region ?_
  refine RL.opS trivial rfl (OpW.move (v := .int .i64 x6) rfl ?_)
  refine RL.opS trivial rfl (OpW.bin (k := .i64) (a := x6) (b := 0) (v := .bool (!decide (x6 = 0))) rfl rfl rfl ?_)
  refine RL.nil ?_
  obtain ⟨ha, hc⟩ := h
  refine CW.cond (b := (!decide (x6 = 0))) rfl (fun hb8 => ?_) (fun hb8 => ?_)
  · have h := ha hb8; clear ha hc
    refine CW.seq ?_
    refine CW.region ?_
    obtain ⟨x9, h1, h2, h⟩ := h
    refine RL.opS trivial rfl (OpW.loadA agg_49 rfl h1 h2 ?_)
    refine RL.opS trivial rfl (OpW.move (v := .int .i64 x6) rfl ?_)
    obtain ⟨g_, o_, e_, cur_, ha_, h1, h2, h3, h4, h⟩ := h
    obtain ⟨w10, hw10_⟩ : ∃ w_, w_ = w7.setRow g_ (cur_.toList.take o_ ++ x9 ++ cur_.toList.drop (o_ + List.length x9)).toArray := ⟨_, rfl⟩
    have h := h w10 hw10_
    refine RL.opN trivial (OpW.storeAE (cs := x9) size_49 rfl rfl ha_ h1 h2 h3 h4 hw10_ ?_)
    refine RL.opS trivial rfl (OpW.assign (v := .int .i64 x6) rfl ?_)
    refine RL.nil ?_
    refine CW.ret ?_
    obtain ⟨x11, hc1, hc2, h⟩ := h
    exact ret_intro (res2c rfl agg_49 rfl hc1 hc2 rfl) ⟨(x11, x6), rfl, h⟩
  · have h := hc hb8; clear ha hc
    refine CW.skip ?_
    refine CW.seq ?_
    refine CW.seq ?_
    refine CW.region ?_
    refine RL.opS trivial rfl (OpW.move (v := str p2) rfl ?_)
    refine RL.opS trivial rfl (OpW.lenStr us_9 rfl ?_)
    refine RL.opS trivial rfl (OpW.bin (k := .i64) (a := (p2.length : Int)) (b := 512) (v := .bool (!decide ((p2.length : Int) = 512))) rfl rfl rfl ?_)
    refine RL.nil ?_
    obtain ⟨ha, hc⟩ := h
    refine CW.cond (b := (!decide ((p2.length : Int) = 512))) rfl (fun hb12 => ?_) (fun hb12 => ?_)
    · have h := ha hb12; clear ha hc
      refine CW.seq ?_
      refine CW.region ?_
      obtain ⟨x13, h1, h2, h⟩ := h
      refine RL.opS trivial rfl (OpW.loadA agg_49 rfl h1 h2 ?_)
      obtain ⟨g_, o_, e_, cur_, ha_, h1, h2, h3, h4, h⟩ := h
      obtain ⟨w14, hw14_⟩ : ∃ w_, w_ = w7.setRow g_ (cur_.toList.take o_ ++ x13 ++ cur_.toList.drop (o_ + List.length x13)).toArray := ⟨_, rfl⟩
      have h := h w14 hw14_
      refine RL.opN trivial (OpW.storeAE (cs := x13) size_49 rfl rfl ha_ h1 h2 h3 h4 hw14_ ?_)
      refine RL.opS trivial rfl (OpW.assign (v := .int .i64 1) rfl ?_)
      refine RL.nil ?_
      refine CW.ret ?_
      obtain ⟨x15, hc1, hc2, h⟩ := h
      exact ret_intro (res2c rfl agg_49 rfl hc1 hc2 rfl) ⟨(x15, 1), rfl, h⟩
    · have h := hc hb12; clear ha hc
      refine CW.skip ?_
      refine CW.seq ?_
      refine CW.region ?_
      obtain ⟨b16, hb16_⟩ : ∃ b_, b_ = w7.heap.size := ⟨_, rfl⟩
      obtain ⟨w17, hw17_⟩ : ∃ w_, w_ = w7.alloc (.cells (List.toArray []) 114) := ⟨_, rfl⟩
      have h := h b16 w17 hb16_ hw17_
      refine RL.opS trivial rfl (OpW.buildSliceE (vs := []) (cs := []) (by rfl) (by kernel_rfl) hb16_ hw17_ ?_)
      refine RL.opS trivial rfl (OpW.fieldAddr field_49_1 rfl ?_)
      obtain ⟨x18, h1, h⟩ := h
      refine RL.opS trivial rfl (OpW.load1 (v := Sl.v x18) one_46 rfl h1 ?_)
      obtain ⟨x19, w20, hr_, h⟩ := h
      refine RL.opS trivial rfl (OpW.appendL (v := Sl.v x19) rfl hr_ ?_)
      refine RL.opS trivial rfl (OpW.move (v := .int .i64 p1) rfl ?_)
      refine RL.opS trivial rfl (OpW.move (v := str p2) rfl ?_)
      refine RL.opS trivial rfl (OpW.buildL (vs := [(0, .int .i64 p1), (1, str p2)]) (cs := [.int .i64 p1, str p2]) (by rfl) (fun _ => by kernel_rfl) ?_)
      obtain ⟨hl_, ho_, h⟩ := h
      obtain ⟨b21, hb21_⟩ : ∃ b_, b_ = w20.heap.size := ⟨_, rfl⟩
      obtain ⟨w22, hw22_⟩ : ∃ w_, w_ = w20.alloc (.cells (List.toArray [.int .i64 p1, str p2]) 114) := ⟨_, rfl⟩
      have h := h b21 w22 hb21_ hw22_
      refine RL.opS trivial rfl (OpW.buildSliceE (vs := [(0, aggv [.int .i64 p1, str p2])]) (cs := [.int .i64 p1, str p2]) (by rfl) (fillOne mkz_46 (by simp) (by decide) (by decide) hl_) hb21_ hw22_ ?_)
      obtain ⟨x23, w24, hr_, h⟩ := h
      refine RL.opS trivial rfl (OpW.appendL (v := Sl.v x23) rfl hr_ ?_)
      refine RL.opS trivial rfl (OpW.fieldAddr field_49_1 rfl ?_)
      obtain ⟨u_, h1, h2, h⟩ := h
      obtain ⟨w25, hw25_⟩ : ∃ w_, w_ = w24.setCell (Addr.add ⟨b1, 0, none⟩ 1) (Sl.v x23) := ⟨_, rfl⟩
      have h := h w25 hw25_
      refine RL.opN trivial (OpW.store1E (v := Sl.v x23) size_46 rfl rfl rfl h1 h2 hw25_ ?_)
      refine RL.nil ?_
      refine CW.seq ?_
      refine CW.region ?_
      obtain ⟨x26, h1, h2, h⟩ := h
      refine RL.opS trivial rfl (OpW.loadA agg_49 rfl h1 h2 ?_)
      refine RL.opS trivial rfl (OpW.callR (al := [aggv x26]) Try.func68 fb_68 fn_68 rfl h (fun x27 w28 h => ?_))
      refine RL.opS trivial rfl (OpW.extract (v := aggv x27.1) rfl rfl ?_)
      refine RL.opS trivial rfl (OpW.extract (v := .int .i64 x27.2) rfl rfl ?_)
      obtain ⟨g_, o_, e_, cur_, ha_, h1, h2, h3, h4, h⟩ := h
      obtain ⟨w29, hw29_⟩ : ∃ w_, w_ = w28.setRow g_ (cur_.toList.take o_ ++ x27.1 ++ cur_.toList.drop (o_ + List.length x27.1)).toArray := ⟨_, rfl⟩
      have h := h w29 hw29_
      refine RL.opN trivial (OpW.storeAE (cs := x27.1) size_49 rfl rfl ha_ h1 h2 h3 h4 hw29_ ?_)
      refine RL.opS trivial rfl (OpW.assign (v := .int .i64 x27.2) rfl ?_)
      refine RL.nil ?_
      refine CW.ret ?_
      obtain ⟨x30, hc1, hc2, h⟩ := h
      exact ret_intro (res2c rfl agg_49 rfl hc1 hc2 rfl) ⟨(x30, x27.2), rfl, h⟩
end Go.Proofs.Ytagkcbbbdlmcjaa
end
section
/- The typed readings of the functions, and that the program meets each: written by gen.py (a program of this session). -/
set_option linter.unusedVariables false
set_option linter.unusedSimpArgs false
namespace Go.Proofs.Ytagkcbbbdlmcjaa
open Go.Lift
set_option maxRecDepth 100000 in
set_option maxHeartbeats 4000000 in
theorem s58_calls (K : List Value → World → Prop) (p0 : List Value) (p1 : List Value) (w : World) (h : s58 K p0 p1 w) :
    Calls Try.prog 58 #[aggv p0, aggv p1] w (Ret r58 K) := by
  unfold s58 at h
  refine calls_of_CW (n := 67) Try.func58 rfl rfl rfl ?_
  refine CW.seq ?_
  refine CW.region ?_
  obtain ⟨b1, hb1_⟩ : ∃ b_, b_ = w.heap.size := ⟨_, rfl⟩
  obtain ⟨w2, hw2_⟩ : ∃ w_, w_ = w.alloc (.cells (List.toArray p0) 49) := ⟨_, rfl⟩
  have h := h b1 w2 hb1_ hw2_
  refine RL.opS trivial rfl (OpW.boxE (cs := p0) (rfl) hb1_ hw2_ ?_)
  obtain ⟨b3, hb3_⟩ : ∃ b_, b_ = w2.heap.size := ⟨_, rfl⟩
  obtain ⟨w4, hw4_⟩ : ∃ w_, w_ = w2.alloc (.cells (List.toArray p1) 27) := ⟨_, rfl⟩
  have h := h b3 w4 hb3_ hw4_
  refine RL.opS trivial rfl (OpW.boxE (cs := p1) (rfl) hb3_ hw4_ ?_)
  obtain ⟨b5, hb5_⟩ : ∃ b_, b_ = w4.heap.size := ⟨_, rfl⟩
  obtain ⟨w6, hw6_⟩ : ∃ w_, w_ = w4.alloc (.cells (List.toArray [Value.slice none 0 0, Value.slice none 0 0, Value.slice none 0 0, Value.int .i64 0, Value.bool false]) 49) := ⟨_, rfl⟩
  have h := h b5 w6 hb5_ hw6_
  refine RL.opS trivial rfl (OpW.allocE (b := b5) zero_49 hb5_ hw6_ ?_)
  refine RL.nil ?_
  refine CW.seq ?_
  refine CW.seq ?_
  refine CW.region ?_
  refine RL.opS trivial rfl (OpW.fieldAddr field_49_4 rfl ?_)
  obtain ⟨x7, h1, h⟩ := h
  refine RL.opS trivial rfl (OpW.load1 (v := .bool x7) one_4 rfl h1 ?_)
  refine RL.nil ?_
  obtain ⟨ha, hc⟩ := h
  refine CW.cond (b := x7) rfl (fun hb8 => ?_) (fun hb8 => ?_)
  · have h := ha hb8; clear ha hc
    refine CW.seq ?_
    refine CW.region ?_
    obtain ⟨x9, h1, h2, h⟩ := h
    refine RL.opS trivial rfl (OpW.loadA agg_49 rfl h1 h2 ?_)
    obtain ⟨g_, o_, e_, cur_, ha_, h1, h2, h3, h4, h⟩ := h
    obtain ⟨w10, hw10_⟩ : ∃ w_, w_ = w6.setRow g_ (cur_.toList.take o_ ++ x9 ++ cur_.toList.drop (o_ + List.length x9)).toArray := ⟨_, rfl⟩
    have h := h w10 hw10_
    refine RL.opN trivial (OpW.storeAE (cs := x9) size_49 rfl rfl ha_ h1 h2 h3 h4 hw10_ ?_)
    refine RL.nil ?_
    refine CW.ret ?_
    obtain ⟨x11, hc1, hc2, h⟩ := h
    exact ret_intro (res1c rfl agg_49 rfl hc1 hc2) ⟨x11, rfl, h⟩
  · have h := hc hb8; clear ha hc
    refine CW.skip ?_
    refine CW.seq ?_
    refine CW.region ?_
    refine RL.opS trivial rfl (OpW.fieldAddr field_27_1 rfl ?_)
    obtain ⟨x12, h1, h⟩ := h
    refine RL.opS trivial rfl (OpW.load1 (v := .int .u64 x12) one_25 rfl h1 ?_)
    refine RL.opS trivial rfl (OpW.assign (v := .int .u64 x12) rfl ?_)
    refine RL.nil ?_
    refine CW.seq ?_
    refine CW.seq ?_
    refine CW.region ?_
    refine RL.opS trivial rfl (OpW.assign (v := .int .i64 0) rfl ?_)
    refine RL.nil ?_
    refine CW.block ?_
    obtain ⟨I63, mu64, hI, hs⟩ := h
    refine CW.loop (σ := Int × Int) (fun s13 ρ => ρ 5 = .int .u64 s13.1 ∧ ρ 6 = .int .i64 s13.2 ∧ ρ 2 = .pointer (some ⟨b1, 0, none⟩) ∧ ρ 3 = .pointer (some ⟨b3, 0, none⟩) ∧ ρ 4 = .pointer (some ⟨b5, 0, none⟩)) I63 mu64 (x12, 0) ⟨rfl, rfl, rfl, rfl, rfl⟩ hI ?_
    rintro s13 ρ w14 ⟨e16, e17, e18, e19, e20⟩ hI
    have h := hs s13 w14 hI
    clear hs hI
    refine CW.seq ?_
    refine CW.seq ?_
    refine CW.region ?_
    refine RL.opS trivial rfl (OpW.move (v := .int .i64 s13.2) e17 ?_)
    refine RL.opS trivial rfl (OpW.fieldAddr field_49_1 e18 ?_)
    obtain ⟨x21, h1, h⟩ := h
    refine RL.opS trivial rfl (OpW.load1 (v := Sl.v x21) one_46 rfl h1 ?_)
    refine RL.opS trivial rfl (OpW.len (s := x21) slice_46 rfl ?_)
    refine RL.opS trivial rfl (OpW.bin (k := .i64) (a := s13.2) (b := (x21.len : Int)) (v := .bool (decide (s13.2 < (x21.len : Int)))) rfl rfl rfl ?_)
    refine RL.nil ?_
    obtain ⟨ha, hc⟩ := h
    refine CW.cond (b := (decide (s13.2 < (x21.len : Int)))) rfl (fun hb22 => ?_) (fun hb22 => ?_)
    · have h := ha hb22; clear ha hc
      refine CW.skip ?_
      refine CW.seq ?_
      refine CW.block ?_
      refine CW.seq ?_
      refine CW.region ?_
      refine RL.opS trivial rfl (OpW.fieldAddr field_49_1 e18 ?_)
      obtain ⟨x23, h1, h⟩ := h
      refine RL.opS trivial rfl (OpW.load1 (v := Sl.v x23) one_46 rfl h1 ?_)
      refine RL.opS trivial rfl (OpW.move (v := .int .i64 s13.2) e17 ?_)
      obtain ⟨a24_, a24, h1, h2, h3, h4, h⟩ := h
      refine RL.opS trivial rfl (OpW.indexE (a' := a24) slice_46 rfl rfl h1 h2 h3 h4 ?_)
      obtain ⟨x26, h1, h2, h⟩ := h
      refine RL.opS trivial rfl (OpW.loadA agg_114 rfl h1 h2 ?_)
      obtain ⟨hl_b27, ho_b27, h⟩ := h
      obtain ⟨b27, hb27_⟩ : ∃ b_, b_ = w14.heap.size := ⟨_, rfl⟩
      obtain ⟨w28, hw28_⟩ : ∃ w_, w_ = w14.alloc (.cells (List.toArray x26) 114) := ⟨_, rfl⟩
      have h := h b27 w28 hb27_ hw28_
      refine RL.opS trivial rfl (OpW.allocZ (b := b27) zero_114 hb27_ ?_)
      refine RL.opN trivial (OpW.storeF (zs := [Value.int .i64 0, str []]) (cs := x26) size_114 rfl rfl hl_b27 (by decide) ho_b27 hb27_ hw28_ ?_)
      refine RL.nil ?_
      refine CW.seq ?_
      refine CW.region ?_
      refine RL.opS trivial rfl (OpW.assign (v := .int .i64 0) rfl ?_)
      refine RL.nil ?_
      refine jn_elim h ?_; clear h; intro k56 hk57 h
      refine CW.seqJ (A := Int) (fun s34 ρ => ρ 8 = .int .i64 s34 ∧ ρ 2 = .pointer (some ⟨b1, 0, none⟩) ∧ ρ 3 = .pointer (some ⟨b3, 0, none⟩) ∧ ρ 4 = .pointer (some ⟨b5, 0, none⟩) ∧ ρ 5 = .int .u64 s13.1 ∧ ρ 6 = .int .i64 s13.2 ∧ ρ 7 = .pointer (some ⟨b27, 0, none⟩)) k56 ?_ ?_
      · rintro s34 ρ w35 ⟨e36, e37, e38, e39, e40, e41, e42⟩ h
        subst hk57
        refine CW.seq ?_
        refine CW.region ?_
        refine RL.opS trivial rfl (OpW.move (v := .int .u64 s13.1) e40 ?_)
        refine RL.opS trivial rfl (OpW.quo (a := s13.1) (b := 2) (v := .int .u64 (IntKind.u64.wrap (Int.tdiv s13.1 2))) rfl rfl (by decide) rfl ?_)
        refine RL.opS trivial rfl (OpW.assign (v := .int .u64 (IntKind.u64.wrap (Int.tdiv s13.1 2))) rfl ?_)
        refine RL.nil ?_
        obtain ⟨w43, hw43_⟩ : ∃ w_, w_ = w35.drew := ⟨_, rfl⟩
        have h := h w43 hw43_
        have hx44 : Ext w35 w43 := by rw [hw43_]; exact Ext.drew _
        refine CW.draws (m := 20) (listed := #[false, false, false, false, false, false, false, false, false, false, false, false, false, false, false, false, false, false, false, false]) mixed [0, 1, 2, 3, 4, 5, 6, 7, 8, 9, 10, 11, 12, 13, 14, 15, 16, 18] (Ext w35) rfl rfl ?_
        rw [← hw43_]
        refine DL.takeP (listed' := #[true, false, false, false, false, false, false, false, false, false, false, false, false, false, false, false, false, false, false, false]) (v := .pointer (some (Addr.add ⟨b1, 0, none⟩ 0))) 0 rfl rfl (by kernel_rfl) rfl trivial rfl (fun w_ K_ h_ => OpW.fieldAddr (off := 0) field_49_0 e37 h_) ?_
        obtain ⟨x45, h1, h⟩ := h
        refine DL.takeK (listed' := #[true, true, false, false, false, false, false, false, false, false, false, false, false, false, false, false, false, false, false, false]) (v := Sl.v x45) 1 rfl rfl (by kernel_rfl) (by kernel_rfl) rfl trivial rfl hx44 (fun w_ hS_ K_ h_ => OpW.load1 (v := Sl.v x45) one_45 rfl (hS_.cell h1) h_) ?_
        refine DL.takeP (listed' := #[true, true, true, false, false, false, false, false, false, false, false, false, false, false, false, false, false, false, false, false]) (v := .pointer (some (Addr.add ⟨b27, 0, none⟩ 0))) 2 rfl rfl (by kernel_rfl) rfl trivial rfl (fun w_ K_ h_ => OpW.fieldAddr (off := 0) field_114_0 e42 h_) ?_
        obtain ⟨x46, h1, h⟩ := h
        refine DL.takeK (listed' := #[true, true, true, true, false, false, false, false, false, false, false, false, false, false, false, false, false, false, false, false]) (v := .int .i64 x46) 3 rfl rfl (by kernel_rfl) (by kernel_rfl) rfl trivial rfl hx44 (fun w_ hS_ K_ h_ => OpW.load1 (v := .int .i64 x46) one_3 rfl (hS_.cell h1) h_) ?_
        refine DL.takeP (listed' := #[true, true, true, true, true, false, false, false, false, false, false, false, false, false, false, false, false, false, false, false]) (v := .pointer (some (Addr.add ⟨b27, 0, none⟩ 1))) 4 rfl rfl (by kernel_rfl) rfl trivial rfl (fun w_ K_ h_ => OpW.fieldAddr field_114_1 e42 h_) ?_
        obtain ⟨x47, h1, h⟩ := h
        refine DL.takeK (listed' := #[true, true, true, true, true, true, false, false, false, false, false, false, false, false, false, false, false, false, false, false]) (v := str x47) 5 rfl rfl (by kernel_rfl) (by kernel_rfl) rfl trivial rfl hx44 (fun w_ hS_ K_ h_ => OpW.load1 (v := str x47) one_9 rfl (hS_.cell h1) h_) ?_
        refine DL.takeP (listed' := #[true, true, true, true, true, true, true, false, false, false, false, false, false, false, false, false, false, false, false, false]) (v := .int .i64 s34) 6 rfl rfl (by kernel_rfl) rfl trivial rfl (fun w_ K_ h_ => OpW.move (v := .int .i64 s34) e36 h_) ?_
        obtain ⟨⟨h1, h2, h3⟩, h⟩ := h
        refine DL.takeP (listed' := #[true, true, true, true, true, true, true, true, false, false, false, false, false, false, false, false, false, false, false, false]) (v := str ((x47.take (Int.toNat s34)).drop (Int.toNat 0))) 7 rfl rfl (by kernel_rfl) rfl trivial rfl (fun w_ K_ h_ => OpW.sliceStr (l := 0) (h := s34) str_9 rfl rfl ⟨_, rfl⟩ h1 h2 h3 h_) ?_
        refine DL.takeP (listed' := #[true, true, true, true, true, true, true, true, true, false, false, false, false, false, false, false, false, false, false, false]) (v := .pointer (some (Addr.add ⟨b1, 0, none⟩ 0))) 8 rfl rfl (by kernel_rfl) rfl trivial rfl (fun w_ K_ h_ => OpW.fieldAddr (off := 0) field_49_0 e37 h_) ?_
        obtain ⟨x48, h1, h⟩ := h
        refine DL.takeK (listed' := #[true, true, true, true, true, true, true, true, true, true, false, false, false, false, false, false, false, false, false, false]) (v := Sl.v x48) 9 rfl rfl (by kernel_rfl) (by kernel_rfl) rfl trivial rfl hx44 (fun w_ hS_ K_ h_ => OpW.load1 (v := Sl.v x48) one_45 rfl (hS_.cell h1) h_) ?_
        refine DL.takeP (listed' := #[true, true, true, true, true, true, true, true, true, true, true, false, false, false, false, false, false, false, false, false]) (v := .pointer (some (Addr.add ⟨b27, 0, none⟩ 0))) 10 rfl rfl (by kernel_rfl) rfl trivial rfl (fun w_ K_ h_ => OpW.fieldAddr (off := 0) field_114_0 e42 h_) ?_
        obtain ⟨x49, h1, h⟩ := h
        refine DL.takeK (listed' := #[true, true, true, true, true, true, true, true, true, true, true, true, false, false, false, false, false, false, false, false]) (v := .int .i64 x49) 11 rfl rfl (by kernel_rfl) (by kernel_rfl) rfl trivial rfl hx44 (fun w_ hS_ K_ h_ => OpW.load1 (v := .int .i64 x49) one_3 rfl (hS_.cell h1) h_) ?_
        obtain ⟨a50_, a50, h1, h2, h3, h4, h⟩ := h
        refine DL.takeP (listed' := #[true, true, true, true, true, true, true, true, true, true, true, true, true, false, false, false, false, false, false, false]) (v := .pointer (some a50)) 12 rfl rfl (by kernel_rfl) rfl trivial rfl (fun w_ K_ h_ => OpW.indexE (a' := a50) slice_45 rfl rfl h1 h2 h3 h4 h_) ?_
        obtain ⟨x52, h1, h⟩ := h
        refine DL.takeK (listed' := #[true, true, true, true, true, true, true, true, true, true, true, true, true, true, false, false, false, false, false, false]) (v := str x52) 13 rfl rfl (by kernel_rfl) (by kernel_rfl) rfl trivial rfl hx44 (fun w_ hS_ K_ h_ => OpW.load1 (v := str x52) one_9 rfl (hS_.cell h1) h_) ?_
        refine DL.takeP (listed' := #[true, true, true, true, true, true, true, true, true, true, true, true, true, true, true, false, false, false, false, false]) (v := .int .i64 s34) 14 rfl rfl (by kernel_rfl) rfl trivial rfl (fun w_ K_ h_ => OpW.move (v := .int .i64 s34) e36 h_) ?_
        obtain ⟨⟨h1, h2, h3⟩, h⟩ := h
        refine DL.takeP (listed' := #[true, true, true, true, true, true, true, true, true, true, true, true, true, true, true, true, false, false, false, false]) (v := str ((x52.take (Int.toNat (x52.length : Int))).drop (Int.toNat s34))) 15 rfl rfl (by kernel_rfl) rfl trivial rfl (fun w_ K_ h_ => OpW.sliceStr (l := s34) (h := (x52.length : Int)) str_9 rfl ⟨_, rfl⟩ rfl h1 h2 h3 h_) ?_
        obtain ⟨hq_, h⟩ := h
        refine DL.takeP (listed' := #[true, true, true, true, true, true, true, true, true, true, true, true, true, true, true, true, true, false, false, false]) (v := str (((x47.take (Int.toNat s34)).drop (Int.toNat 0)) ++ ((x52.take (Int.toNat (x52.length : Int))).drop (Int.toNat s34)))) 16 rfl rfl (by kernel_rfl) rfl trivial rfl (fun w_ K_ h_ => OpW.strAdd rfl rfl hq_ h_) ?_
        refine DL.execS (listed' := #[true, true, true, true, true, true, true, true, true, true, true, true, true, true, true, true, true, true, false, false]) 17 rfl (by kernel_rfl) rfl trivial rfl (OpW.callR (al := [Sl.v x45, .int .i64 x46, str (((x47.take (Int.toNat s34)).drop (Int.toNat 0)) ++ ((x52.take (Int.toNat (x52.length : Int))).drop (Int.toNat s34)))]) Try.func82 fb_82 fn_82 rfl h (fun x53 w54 h => ?_))
        refine ⟨(fun h_ => absurd h_ (by decide)), ?_⟩
        refine DL.takeP (listed' := #[true, true, true, true, true, true, true, true, true, true, true, true, true, true, true, true, true, true, true, false]) (v := .pointer (some (Addr.add ⟨b1, 0, none⟩ 0))) 18 rfl rfl (by kernel_rfl) rfl trivial rfl (fun w_ K_ h_ => OpW.fieldAddr (off := 0) field_49_0 e37 h_) ?_
        obtain ⟨u_, h1, h2, h⟩ := h
        obtain ⟨w55, hw55_⟩ : ∃ w_, w_ = w54.setCell (Addr.add ⟨b1, 0, none⟩ 0) (Sl.v x53) := ⟨_, rfl⟩
        have h := h w55 hw55_
        refine DL.execN (listed' := #[true, true, true, true, true, true, true, true, true, true, true, true, true, true, true, true, true, true, true, true]) 19 rfl (by kernel_rfl) rfl trivial (OpW.store1E (v := Sl.v x53) size_45 rfl rfl rfl h1 h2 hw55_ ?_)
        refine ⟨(fun h_ => absurd h_ (by decide)), ?_⟩
        refine DL.done (by kernel_rfl) ?_
        refine CW.region ?_
        refine RL.opS trivial rfl (OpW.move (v := .int .i64 s13.2) e41 ?_)
        refine RL.opS trivial rfl (OpW.bin (k := .i64) (a := s13.2) (b := 1) (v := .int .i64 (IntKind.i64.wrap (s13.2 + 1))) rfl rfl rfl ?_)
        refine RL.opS trivial rfl (OpW.assign (v := .int .i64 (IntKind.i64.wrap (s13.2 + 1))) rfl ?_)
        refine RL.nil ?_
        exact ⟨((IntKind.u64.wrap (Int.tdiv s13.1 2)), (IntKind.i64.wrap (s13.2 + 1))), ⟨rfl, rfl, e37, e38, e39⟩, h⟩
      · clear hk57
        refine CW.seq ?_
        refine CW.region ?_
        refine RL.opS trivial rfl (OpW.move (v := .int .u64 s13.1) e16 ?_)
        refine RL.opS trivial rfl (OpW.quo (a := s13.1) (b := 2) (v := .int .u64 (Int.tmod s13.1 2)) rfl rfl (by decide) rfl ?_)
        refine RL.opS trivial rfl (OpW.bin (k := .u64) (a := (Int.tmod s13.1 2)) (b := 1) (v := .bool (decide ((Int.tmod s13.1 2) = 1))) rfl rfl rfl ?_)
        refine RL.nil ?_
        obtain ⟨ha, hc⟩ := h
        refine CW.cond (b := (decide ((Int.tmod s13.1 2) = 1))) rfl (fun hb30 => ?_) (fun hb30 => ?_)
        · have h := ha hb30; clear ha hc
          refine CW.region ?_
          refine RL.opS trivial rfl (OpW.assign (v := .int .i64 512) rfl ?_)
          refine RL.nil ?_
          exact ⟨512, ⟨rfl, e18, e19, e20, e16, e17, rfl⟩, h⟩
        · have h := hc hb30; clear ha hc
          refine CW.seq ?_
          refine CW.region ?_
          refine RL.opS trivial rfl (OpW.move (v := .int .i64 s13.2) e17 ?_)
          refine RL.opS trivial rfl (OpW.fieldAddr field_49_1 e18 ?_)
          obtain ⟨x31, h1, h⟩ := h
          refine RL.opS trivial rfl (OpW.load1 (v := Sl.v x31) one_46 rfl h1 ?_)
          refine RL.opS trivial rfl (OpW.len (s := x31) slice_46 rfl ?_)
          refine RL.opS trivial rfl (OpW.bin (k := .i64) (a := (x31.len : Int)) (b := 1) (v := .int .i64 (IntKind.i64.wrap ((x31.len : Int) - 1))) rfl rfl rfl ?_)
          refine RL.opS trivial rfl (OpW.bin (k := .i64) (a := s13.2) (b := (IntKind.i64.wrap ((x31.len : Int) - 1))) (v := .bool (decide (s13.2 = (IntKind.i64.wrap ((x31.len : Int) - 1))))) rfl rfl rfl ?_)
          refine RL.nil ?_
          obtain ⟨ha, hc⟩ := h
          refine CW.cond (b := (decide (s13.2 = (IntKind.i64.wrap ((x31.len : Int) - 1))))) rfl (fun hb32 => ?_) (fun hb32 => ?_)
          · have h := ha hb32; clear ha hc
            refine CW.region ?_
            refine RL.opS trivial rfl (OpW.fieldAddr field_27_2 e19 ?_)
            obtain ⟨x33, h1, h⟩ := h
            refine RL.opS trivial rfl (OpW.load1 (v := .int .i64 x33) one_3 rfl h1 ?_)
            refine RL.opS trivial rfl (OpW.min2 (a := x33) (b := 512) rfl rfl ?_)
            refine RL.opS trivial rfl (OpW.max2 (a := 0) (b := (mn x33 512)) rfl rfl ?_)
            refine RL.opS trivial rfl (OpW.assign (v := .int .i64 (mx 0 (mn x33 512))) rfl ?_)
            refine RL.nil ?_
            exact ⟨(mx 0 (mn x33 512)), ⟨rfl, e18, e19, e20, e16, e17, rfl⟩, h⟩
          · have h := hc hb32; clear ha hc
            refine CW.skip ?_
            exact ⟨0, ⟨rfl, e18, e19, e20, e16, e17, rfl⟩, h⟩
    · have h := hc hb22; clear ha hc
      refine CW.exit ?_
      refine CW.seq ?_
      refine CW.region ?_
      refine RL.opS trivial rfl (OpW.fieldAddr (off := 0) field_49_0 e18 ?_)
      obtain ⟨x58, h1, h⟩ := h
      refine RL.opS trivial rfl (OpW.load1 (v := Sl.v x58) one_45 rfl h1 ?_)
      refine RL.opS trivial rfl (OpW.fieldAddr field_49_2 e18 ?_)
      obtain ⟨x59, h1, h⟩ := h
      refine RL.opS trivial rfl (OpW.load1 (v := Sl.v x59) one_47 rfl h1 ?_)
      refine RL.opS trivial rfl (OpW.fieldAddr field_49_3 e18 ?_)
      obtain ⟨x60, h1, h⟩ := h
      refine RL.opS trivial rfl (OpW.load1 (v := .int .i64 x60) one_3 rfl h1 ?_)
      refine RL.opS trivial rfl (OpW.buildL (vs := [(0, Sl.v x58), (2, Sl.v x59), (3, .int .i64 x60), (4, .bool true)]) (cs := [Sl.v x58, Value.slice none 0 0, Sl.v x59, .int .i64 x60, .bool true]) (by rfl) (fun _ => by kernel_rfl) ?_)
      obtain ⟨g_, o_, e_, cur_, ha_, h1, h2, h3, h4, h⟩ := h
      obtain ⟨w61, hw61_⟩ : ∃ w_, w_ = w14.setRow g_ (cur_.toList.take o_ ++ [Sl.v x58, Value.slice none 0 0, Sl.v x59, .int .i64 x60, .bool true] ++ cur_.toList.drop (o_ + List.length [Sl.v x58, Value.slice none 0 0, Sl.v x59, .int .i64 x60, .bool true])).toArray := ⟨_, rfl⟩
      have h := h w61 hw61_
      refine RL.opN trivial (OpW.storeAE (cs := [Sl.v x58, Value.slice none 0 0, Sl.v x59, .int .i64 x60, .bool true]) size_49 e20 rfl ha_ h1 h2 h3 h4 hw61_ ?_)
      refine RL.nil ?_
      refine CW.ret ?_
      obtain ⟨x62, hc1, hc2, h⟩ := h
      exact ret_intro (res1c rfl agg_49 e20 hc1 hc2) ⟨x62, rfl, h⟩
end Go.Proofs.Ytagkcbbbdlmcjaa
end
section
/- The typed readings of the functions, and that the program meets each: written by gen.py (a program of this session). -/
set_option linter.unusedVariables false
set_option linter.unusedSimpArgs false
namespace Go.Proofs.Ytagkcbbbdlmcjaa
open Go.Lift
set_option maxRecDepth 100000 in
set_option maxHeartbeats 4000000 in
theorem s65_calls (K : List Value × Int → World → Prop) (p0 : List Value) (w : World) (h : s65 K p0 w) :
    Calls Try.prog 65 #[aggv p0] w (Ret r65 K) := by
  unfold s65 at h
  refine calls_of_CW (n := 44) Try.func65 rfl rfl rfl ?_
  refine CW.seq ?_
  refine CW.region ?_
  obtain ⟨b1, hb1_⟩ : ∃ b_, b_ = w.heap.size := ⟨_, rfl⟩
  obtain ⟨w2, hw2_⟩ : ∃ w_, w_ = w.alloc (.cells (List.toArray p0) 49) := ⟨_, rfl⟩
  have h := h b1 w2 hb1_ hw2_
  refine RL.opS trivial rfl (OpW.boxE (cs := p0) (rfl) hb1_ hw2_ ?_)
  obtain ⟨b3, hb3_⟩ : ∃ b_, b_ = w2.heap.size := ⟨_, rfl⟩
  obtain ⟨w4, hw4_⟩ : ∃ w_, w_ = w2.alloc (.cells (List.toArray [Value.slice none 0 0, Value.slice none 0 0, Value.slice none 0 0, Value.int .i64 0, Value.bool false]) 49) := ⟨_, rfl⟩
  have h := h b3 w4 hb3_ hw4_
  refine RL.opS trivial rfl (OpW.allocE (b := b3) zero_49 hb3_ hw4_ ?_)
  refine RL.opS trivial rfl (OpW.assign (v := .int .i64 0) rfl ?_)
  refine RL.nil ?_
  refine CW.seq ?_
  refine CW.seq ?_
  refine CW.region ?_
  refine RL.opS trivial rfl (OpW.fieldAddr field_49_4 rfl ?_)
  obtain ⟨x5, h1, h⟩ := h
  refine RL.opS trivial rfl (OpW.load1 (v := .bool x5) one_4 rfl h1 ?_)
  refine RL.nil ?_
  obtain ⟨ha, hc⟩ := h
  refine CW.cond (b := x5) rfl (fun hb6 => ?_) (fun hb6 => ?_)
  · have h := ha hb6; clear ha hc
    refine CW.seq ?_
    refine CW.region ?_
    obtain ⟨x7, h1, h2, h⟩ := h
    refine RL.opS trivial rfl (OpW.loadA agg_49 rfl h1 h2 ?_)
    obtain ⟨g_, o_, e_, cur_, ha_, h1, h2, h3, h4, h⟩ := h
    obtain ⟨w8, hw8_⟩ : ∃ w_, w_ = w4.setRow g_ (cur_.toList.take o_ ++ x7 ++ cur_.toList.drop (o_ + List.length x7)).toArray := ⟨_, rfl⟩
    have h := h w8 hw8_
    refine RL.opN trivial (OpW.storeAE (cs := x7) size_49 rfl rfl ha_ h1 h2 h3 h4 hw8_ ?_)
    refine RL.opS trivial rfl (OpW.assign (v := .int .i64 6) rfl ?_)
    refine RL.nil ?_
    refine CW.ret ?_
    obtain ⟨x9, hc1, hc2, h⟩ := h
    exact ret_intro (res2c rfl agg_49 rfl hc1 hc2 rfl) ⟨(x9, 6), rfl, h⟩
  · have h := hc hb6; clear ha hc
    refine CW.skip ?_
    refine CW.seq ?_
    refine CW.region ?_
    obtain ⟨x10, h1, h2, h⟩ := h
    refine RL.opS trivial rfl (OpW.loadA agg_49 rfl h1 h2 ?_)
    refine RL.opS trivial rfl (OpW.callR (al := [aggv x10]) Try.func68 fb_68 fn_68 rfl h (fun x11 w12 h => ?_))
    refine RL.opS trivial rfl (OpW.move (v := .tuple #[aggv x11.1, .int .i64 x11.2]) rfl ?_)
    refine RL.opS trivial rfl (OpW.extract (v := aggv x11.1) rfl rfl ?_)
    refine RL.opS trivial rfl (OpW.extract (v := .int .i64 x11.2) rfl rfl ?_)
    obtain ⟨hl_b13, ho_b13, h⟩ := h
    obtain ⟨b13, hb13_⟩ : ∃ b_, b_ = w12.heap.size := ⟨_, rfl⟩
    obtain ⟨w14, hw14_⟩ : ∃ w_, w_ = w12.alloc (.cells (List.toArray x11.1) 49) := ⟨_, rfl⟩
    have h := h b13 w14 hb13_ hw14_
    refine RL.opS trivial rfl (OpW.allocZ (b := b13) zero_49 hb13_ ?_)
    refine RL.opN trivial (OpW.storeF (zs := [Value.slice none 0 0, Value.slice none 0 0, Value.slice none 0 0, Value.int .i64 0, Value.bool false]) (cs := x11.1) size_49 rfl rfl hl_b13 (by decide) ho_b13 hb13_ hw14_ ?_)
    refine RL.opS trivial rfl (OpW.assign (v := .int .i64 x11.2) rfl ?_)
    refine RL.nil ?_
    refine CW.seq ?_
    refine CW.seq ?_
    refine CW.region ?_
    refine RL.opS trivial rfl (OpW.move (v := .int .i64 x11.2) rfl ?_)
    refine RL.opS trivial rfl (OpW.bin (k := .i64) (a := x11.2) (b := 0) (v := .bool (!decide (x11.2 = 0))) rfl rfl rfl ?_)
    refine RL.nil ?_
    obtain ⟨ha, hc⟩ := h
    refine CW.cond (b := (!decide (x11.2 = 0))) rfl (fun hb15 => ?_) (fun hb15 => ?_)
    · have h := ha hb15; clear ha hc
      refine CW.seq ?_
      refine CW.region ?_
      obtain ⟨x16, h1, h2, h⟩ := h
      refine RL.opS trivial rfl (OpW.loadA agg_49 rfl h1 h2 ?_)
      refine RL.opS trivial rfl (OpW.move (v := .int .i64 x11.2) rfl ?_)
      obtain ⟨g_, o_, e_, cur_, ha_, h1, h2, h3, h4, h⟩ := h
      obtain ⟨w17, hw17_⟩ : ∃ w_, w_ = w14.setRow g_ (cur_.toList.take o_ ++ x16 ++ cur_.toList.drop (o_ + List.length x16)).toArray := ⟨_, rfl⟩
      have h := h w17 hw17_
      refine RL.opN trivial (OpW.storeAE (cs := x16) size_49 rfl rfl ha_ h1 h2 h3 h4 hw17_ ?_)
      refine RL.opS trivial rfl (OpW.assign (v := .int .i64 x11.2) rfl ?_)
      refine RL.nil ?_
      refine CW.ret ?_
      obtain ⟨x18, hc1, hc2, h⟩ := h
      exact ret_intro (res2c rfl agg_49 rfl hc1 hc2 rfl) ⟨(x18, x11.2), rfl, h⟩
    · have h := hc hb15; clear ha hc
      refine CW.skip ?_
      refine CW.seq ?_
      refine CW.seq ?_
      refine CW.region ?_
      refine RL.opS trivial rfl (OpW.assign (v := .int .i64 0) rfl ?_)
      refine RL.nil ?_
      refine CW.block ?_
      obtain ⟨I45, mu46, hI, hs⟩ := h
      refine CW.loop (σ := Int) (fun s19 ρ => ρ 6 = .int .i64 s19 ∧ ρ 2 = .pointer (some ⟨b3, 0, none⟩) ∧ ρ 4 = .pointer (some ⟨b13, 0, none⟩)) I45 mu46 0 ⟨rfl, rfl, rfl⟩ hI ?_
      rintro s19 ρ w20 ⟨e22, e23, e24⟩ hI
      have h := hs s19 w20 hI
      clear hs hI
      refine CW.seq ?_
      refine CW.seq ?_
      refine CW.region ?_
      refine RL.opS trivial rfl (OpW.move (v := .int .i64 s19) e22 ?_)
      refine RL.opS trivial rfl (OpW.fieldAddr field_49_1 e24 ?_)
      obtain ⟨x25, h1, h⟩ := h
      refine RL.opS trivial rfl (OpW.load1 (v := Sl.v x25) one_46 rfl h1 ?_)
      refine RL.opS trivial rfl (OpW.len (s := x25) slice_46 rfl ?_)
      refine RL.opS trivial rfl (OpW.bin (k := .i64) (a := s19) (b := (x25.len : Int)) (v := .bool (decide (s19 < (x25.len : Int)))) rfl rfl rfl ?_)
      refine RL.nil ?_
      obtain ⟨ha, hc⟩ := h
      refine CW.cond (b := (decide (s19 < (x25.len : Int)))) rfl (fun hb26 => ?_) (fun hb26 => ?_)
      · have h := ha hb26; clear ha hc
        refine CW.skip ?_
        refine CW.seq ?_
        refine CW.block ?_
        obtain ⟨w27, hw27_⟩ : ∃ w_, w_ = w20.drew := ⟨_, rfl⟩
        have h := h w27 hw27_
        have hx28 : Ext w20 w27 := by rw [hw27_]; exact Ext.drew _
        refine CW.draws (m := 17) (listed := #[false, false, false, false, false, false, false, false, false, false, false, false, false, false, false, false, false]) mixed [0, 1, 2, 3, 4, 5, 6, 7, 8, 9, 10, 11, 12, 13, 15] (Ext w20) rfl rfl ?_
        rw [← hw27_]
        refine DL.takeP (listed' := #[true, false, false, false, false, false, false, false, false, false, false, false, false, false, false, false, false]) (v := .pointer (some (Addr.add ⟨b13, 0, none⟩ 0))) 0 rfl rfl (by kernel_rfl) rfl trivial rfl (fun w_ K_ h_ => OpW.fieldAddr (off := 0) field_49_0 e24 h_) ?_
        obtain ⟨x29, h1, h⟩ := h
        refine DL.takeK (listed' := #[true, true, false, false, false, false, false, false, false, false, false, false, false, false, false, false, false]) (v := Sl.v x29) 1 rfl rfl (by kernel_rfl) (by kernel_rfl) rfl trivial rfl hx28 (fun w_ hS_ K_ h_ => OpW.load1 (v := Sl.v x29) one_45 rfl (hS_.cell h1) h_) ?_
        refine DL.takeP (listed' := #[true, true, true, false, false, false, false, false, false, false, false, false, false, false, false, false, false]) (v := .pointer (some (Addr.add ⟨b13, 0, none⟩ 1))) 2 rfl rfl (by kernel_rfl) rfl trivial rfl (fun w_ K_ h_ => OpW.fieldAddr field_49_1 e24 h_) ?_
        obtain ⟨x30, h1, h⟩ := h
        refine DL.takeK (listed' := #[true, true, true, true, false, false, false, false, false, false, false, false, false, false, false, false, false]) (v := Sl.v x30) 3 rfl rfl (by kernel_rfl) (by kernel_rfl) rfl trivial rfl hx28 (fun w_ hS_ K_ h_ => OpW.load1 (v := Sl.v x30) one_46 rfl (hS_.cell h1) h_) ?_
        refine DL.takeP (listed' := #[true, true, true, true, true, false, false, false, false, false, false, false, false, false, false, false, false]) (v := .int .i64 s19) 4 rfl rfl (by kernel_rfl) rfl trivial rfl (fun w_ K_ h_ => OpW.move (v := .int .i64 s19) e22 h_) ?_
        obtain ⟨a31_, a31, h1, h2, h3, h4, h⟩ := h
        refine DL.takeP (listed' := #[true, true, true, true, true, true, false, false, false, false, false, false, false, false, false, false, false]) (v := .pointer (some a31)) 5 rfl rfl (by kernel_rfl) rfl trivial rfl (fun w_ K_ h_ => OpW.indexE (a' := a31) slice_46 rfl rfl h1 h2 h3 h4 h_) ?_
        refine DL.takeP (listed' := #[true, true, true, true, true, true, true, false, false, false, false, false, false, false, false, false, false]) (v := .pointer (some (Addr.add a31 0))) 6 rfl rfl (by kernel_rfl) rfl trivial rfl (fun w_ K_ h_ => OpW.fieldAddr (off := 0) field_114_0 rfl h_) ?_
        obtain ⟨x33, h1, h⟩ := h
        refine DL.takeK (listed' := #[true, true, true, true, true, true, true, true, false, false, false, false, false, false, false, false, false]) (v := .int .i64 x33) 7 rfl rfl (by kernel_rfl) (by kernel_rfl) rfl trivial rfl hx28 (fun w_ hS_ K_ h_ => OpW.load1 (v := .int .i64 x33) one_3 rfl (hS_.cell h1) h_) ?_
        refine DL.takeP (listed' := #[true, true, true, true, true, true, true, true, true, false, false, false, false, false, false, false, false]) (v := .pointer (some (Addr.add ⟨b13, 0, none⟩ 1))) 8 rfl rfl (by kernel_rfl) rfl trivial rfl (fun w_ K_ h_ => OpW.fieldAddr field_49_1 e24 h_) ?_
        obtain ⟨x34, h1, h⟩ := h
        refine DL.takeK (listed' := #[true, true, true, true, true, true, true, true, true, true, false, false, false, false, false, false, false]) (v := Sl.v x34) 9 rfl rfl (by kernel_rfl) (by kernel_rfl) rfl trivial rfl hx28 (fun w_ hS_ K_ h_ => OpW.load1 (v := Sl.v x34) one_46 rfl (hS_.cell h1) h_) ?_
        refine DL.takeP (listed' := #[true, true, true, true, true, true, true, true, true, true, true, false, false, false, false, false, false]) (v := .int .i64 s19) 10 rfl rfl (by kernel_rfl) rfl trivial rfl (fun w_ K_ h_ => OpW.move (v := .int .i64 s19) e22 h_) ?_
        obtain ⟨a35_, a35, h1, h2, h3, h4, h⟩ := h
        refine DL.takeP (listed' := #[true, true, true, true, true, true, true, true, true, true, true, true, false, false, false, false, false]) (v := .pointer (some a35)) 11 rfl rfl (by kernel_rfl) rfl trivial rfl (fun w_ K_ h_ => OpW.indexE (a' := a35) slice_46 rfl rfl h1 h2 h3 h4 h_) ?_
        refine DL.takeP (listed' := #[true, true, true, true, true, true, true, true, true, true, true, true, true, false, false, false, false]) (v := .pointer (some (Addr.add a35 1))) 12 rfl rfl (by kernel_rfl) rfl trivial rfl (fun w_ K_ h_ => OpW.fieldAddr field_114_1 rfl h_) ?_
        obtain ⟨x37, h1, h⟩ := h
        refine DL.takeK (listed' := #[true, true, true, true, true, true, true, true, true, true, true, true, true, true, false, false, false]) (v := str x37) 13 rfl rfl (by kernel_rfl) (by kernel_rfl) rfl trivial rfl hx28 (fun w_ hS_ K_ h_ => OpW.load1 (v := str x37) one_9 rfl (hS_.cell h1) h_) ?_
        refine DL.execS (listed' := #[true, true, true, true, true, true, true, true, true, true, true, true, true, true, true, false, false]) 14 rfl (by kernel_rfl) rfl trivial rfl (OpW.callR (al := [Sl.v x29, .int .i64 x33, str x37]) Try.func82 fb_82 fn_82 rfl h (fun x38 w39 h => ?_))
        refine ⟨(fun h_ => absurd h_ (by decide)), ?_⟩
        refine DL.takeP (listed' := #[true, true, true, true, true, true, true, true, true, true, true, true, true, true, true, true, false]) (v := .pointer (some (Addr.add ⟨b13, 0, none⟩ 0))) 15 rfl rfl (by kernel_rfl) rfl trivial rfl (fun w_ K_ h_ => OpW.fieldAddr (off := 0) field_49_0 e24 h_) ?_
        obtain ⟨u_, h1, h2, h⟩ := h
        obtain ⟨w40, hw40_⟩ : ∃ w_, w_ = w39.setCell (Addr.add ⟨b13, 0, none⟩ 0) (Sl.v x38) := ⟨_, rfl⟩
        have h := h w40 hw40_
        refine DL.execN (listed' := #[true, true, true, true, true, true, true, true, true, true, true, true, true, true, true, true, true]) 16 rfl (by kernel_rfl) rfl trivial (OpW.store1E (v := Sl.v x38) size_45 rfl rfl rfl h1 h2 hw40_ ?_)
        refine ⟨(fun h_ => absurd h_ (by decide)), ?_⟩
        refine DL.done (by kernel_rfl) ?_
        refine CW.region ?_
        refine RL.opS trivial rfl (OpW.move (v := .int .i64 s19) e22 ?_)
        refine RL.opS trivial rfl (OpW.bin (k := .i64) (a := s19) (b := 1) (v := .int .i64 (IntKind.i64.wrap (s19 + 1))) rfl rfl rfl ?_)
        refine RL.opS trivial rfl (OpW.assign (v := .int .i64 (IntKind.i64.wrap (s19 + 1))) rfl ?_)
        refine RL.nil ?_
        exact ⟨(IntKind.i64.wrap (s19 + 1)), ⟨rfl, e23, e24⟩, h⟩
      · have h := hc hb26; clear ha hc
        refine CW.exit ?_
        refine CW.seq ?_
        refine CW.region ?_
        refine RL.opS trivial rfl (OpW.fieldAddr field_49_1 e24 ?_)
        obtain ⟨u_, h1, h2, h⟩ := h
        obtain ⟨w41, hw41_⟩ : ∃ w_, w_ = w20.setCell (Addr.add ⟨b13, 0, none⟩ 1) (Sl.v nilSl) := ⟨_, rfl⟩
        have h := h w41 hw41_
        refine RL.opN trivial (OpW.store1E (v := Sl.v nilSl) size_46 rfl rfl rfl h1 h2 hw41_ ?_)
        refine RL.nil ?_
        refine CW.seq ?_
        refine CW.region ?_
        obtain ⟨x42, h1, h2, h⟩ := h
        refine RL.opS trivial rfl (OpW.loadA agg_49 e24 h1 h2 ?_)
        obtain ⟨g_, o_, e_, cur_, ha_, h1, h2, h3, h4, h⟩ := h
        obtain ⟨w43, hw43_⟩ : ∃ w_, w_ = w41.setRow g_ (cur_.toList.take o_ ++ x42 ++ cur_.toList.drop (o_ + List.length x42)).toArray := ⟨_, rfl⟩
        have h := h w43 hw43_
        refine RL.opN trivial (OpW.storeAE (cs := x42) size_49 e23 rfl ha_ h1 h2 h3 h4 hw43_ ?_)
        refine RL.opS trivial rfl (OpW.assign (v := .int .i64 0) rfl ?_)
        refine RL.nil ?_
        refine CW.ret ?_
        obtain ⟨x44, hc1, hc2, h⟩ := h
        exact ret_intro (res2c rfl agg_49 e23 hc1 hc2 rfl) ⟨(x44, 0), rfl, h⟩
end Go.Proofs.Ytagkcbbbdlmcjaa
end
section
/- The typed readings of the functions, and that the program meets each: written by gen.py (a program of this session). -/
set_option linter.unusedVariables false
set_option linter.unusedSimpArgs false
namespace Go.Proofs.Ytagkcbbbdlmcjaa
open Go.Lift
set_option maxRecDepth 100000 in
set_option maxHeartbeats 4000000 in
theorem s66_calls (K : Int → World → Prop) (p0 : List Value) (p1 : Int) (w : World) (h : s66 K p0 p1 w) :
    Calls Try.prog 66 #[aggv p0, .int .i64 p1] w (Ret r66 K) := by
  unfold s66 at h
  refine calls_of_CW (n := 16) Try.func66 rfl rfl rfl ?_
  refine CW.seq ?_
  refine CW.region ?_
  obtain ⟨b1, hb1_⟩ : ∃ b_, b_ = w.heap.size := ⟨_, rfl⟩
  obtain ⟨w2, hw2_⟩ : ∃ w_, w_ = w.alloc (.cells (List.toArray p0) 49) := ⟨_, rfl⟩
  have h := h b1 w2 hb1_ hw2_
  refine RL.opS trivial rfl (OpW.boxE (cs := p0) (rfl) hb1_ hw2_ ?_)
  refine RL.opS trivial rfl (OpW.assign (v := .int .i64 0) rfl ?_)
  refine RL.nil ?_
  refine CW.seq ?_
  refine CW.seq ?_
  refine CW.region ?_
  refine RL.opS trivial rfl (OpW.fieldAddr field_49_4 rfl ?_)
  obtain ⟨x3, h1, h⟩ := h
  refine RL.opS trivial rfl (OpW.load1 (v := .bool x3) one_4 rfl h1 ?_)
  refine RL.nil ?_
  obtain ⟨ha, hc⟩ := h
  refine CW.cond (b := x3) rfl (fun hb4 => ?_) (fun hb4 => ?_)
  · have h := ha hb4; clear ha hc
    refine CW.seq ?_
    refine CW.region ?_
    refine RL.opS trivial rfl (OpW.assign (v := .int .i64 6) rfl ?_)
    refine RL.nil ?_
    refine CW.ret ?_
    exact ret_intro (res1 rfl rfl) ⟨6, rfl, h⟩
  · have h := hc hb4; clear ha hc
    refine CW.skip ?_
    refine CW.seq ?_
    refine CW.seq ?_
    refine CW.region ?_
    refine RL.opS trivial rfl (OpW.move (v := .int .i64 p1) rfl ?_)
    refine RL.opS trivial rfl (OpW.bin (k := .i64) (a := p1) (b := 0) (v := .bool (decide (p1 < 0))) rfl rfl rfl ?_)
    refine RL.opS trivial rfl (OpW.move (v := .bool (decide (p1 < 0))) rfl ?_)
    refine jn_elim h ?_; clear h; intro k12 hk13 h
    refine RL.joinAt (A := Bool) 6 (fun s8 ρ => ρ 15 = .bool s8) k12 ?_ ?_
    · rintro s8 ρ w9 e10 h
      subst hk13
      dsimp only [List.drop]
      refine RL.nil ?_
      obtain ⟨ha, hc⟩ := h
      refine CW.cond (b := s8) e10 (fun hb11 => ?_) (fun hb11 => ?_)
      · have h := ha hb11; clear ha hc
        refine CW.seq ?_
        refine CW.region ?_
        refine RL.opS trivial rfl (OpW.assign (v := .int .i64 2) rfl ?_)
        refine RL.nil ?_
        refine CW.ret ?_
        exact ret_intro (res1 rfl rfl) ⟨2, rfl, h⟩
      · have h := hc hb11; clear ha hc
        refine CW.skip ?_
        refine CW.seq ?_
        refine CW.region ?_
        refine RL.opS trivial rfl (OpW.assign (v := .int .i64 0) rfl ?_)
        refine RL.nil ?_
        refine CW.ret ?_
        exact ret_intro (res1 rfl rfl) ⟨0, rfl, h⟩
    · clear hk13
      dsimp only [List.take]
      obtain ⟨ha, hc⟩ := h
      rcases Bool.eq_false_or_eq_true (decide (p1 < 0)) with hb5 | hb5
      · have h := ha hb5; clear ha hc
        refine RL.skipS (notWanted_of rfl rfl hb5) rfl ?_
        refine RL.skipS (notWanted_of rfl rfl hb5) rfl ?_
        refine RL.skipS (notWanted_of rfl rfl hb5) rfl ?_
        refine RL.skipS (notWanted_of rfl rfl hb5) rfl ?_
        refine RL.skipS (notWanted_of rfl rfl hb5) rfl ?_
        refine RL.opS trivial rfl (OpW.pick (b := true) (v := .bool true) (congrArg Value.bool hb5) rfl ?_)
        refine RL.nil ?_
        exact ⟨true, rfl, h⟩
      · have h := hc hb5; clear ha hc
        refine RL.opS (wanted_of rfl rfl hb5) rfl (OpW.move (v := .int .i64 p1) rfl ?_)
        refine RL.opS (wanted_of rfl rfl hb5) rfl (OpW.fieldAddr (off := 0) field_49_0 rfl ?_)
        obtain ⟨x7, h1, h⟩ := h
        refine RL.opS (wanted_of rfl rfl hb5) rfl (OpW.load1 (v := Sl.v x7) one_45 rfl h1 ?_)
        refine RL.opS (wanted_of rfl rfl hb5) rfl (OpW.len (s := x7) slice_45 rfl ?_)
        refine RL.opS (wanted_of rfl rfl hb5) rfl (OpW.bin (k := .i64) (a := p1) (b := (x7.len : Int)) (v := .bool (decide ((x7.len : Int) ≤ p1))) rfl rfl rfl ?_)
        refine RL.opS trivial rfl (OpW.pick (b := false) (v := .bool (decide ((x7.len : Int) ≤ p1))) (congrArg Value.bool hb5) rfl ?_)
        refine RL.nil ?_
        exact ⟨(decide ((x7.len : Int) ≤ p1)), rfl, h⟩
end Go.Proofs.Ytagkcbbbdlmcjaa
end
section
/- The typed readings of the functions, and that the program meets each: written by gen.py (a program of this session). -/
set_option linter.unusedVariables false
set_option linter.unusedSimpArgs false
namespace Go.Proofs.Ytagkcbbbdlmcjaa
open Go.Lift
set_option maxRecDepth 100000 in
set_option maxHeartbeats 4000000 in
theorem s68_calls (K : List Value × Int → World → Prop) (p0 : List Value) (w : World) (h : s68 K p0 w) :
    Calls Try.prog 68 #[aggv p0] w (Ret r68 K) := by
  unfold s68 at h
  refine calls_of_CW (n := 35) Try.func68 rfl rfl rfl ?_
  refine CW.seq ?_
  refine CW.region ?_
  obtain ⟨b1, hb1_⟩ : ∃ b_, b_ = w.heap.size := ⟨_, rfl⟩
  obtain ⟨w2, hw2_⟩ : ∃ w_, w_ = w.alloc (.cells (List.toArray p0) 49) := ⟨_, rfl⟩
  have h := h b1 w2 hb1_ hw2_
  refine RL.opS trivial rfl (OpW.boxE (cs := p0) (rfl) hb1_ hw2_ ?_)
  obtain ⟨b3, hb3_⟩ : ∃ b_, b_ = w2.heap.size := ⟨_, rfl⟩
  obtain ⟨w4, hw4_⟩ : ∃ w_, w_ = w2.alloc (.cells (List.toArray [Value.slice none 0 0, Value.slice none 0 0, Value.slice none 0 0, Value.int .i64 0, Value.bool false]) 49) := ⟨_, rfl⟩
  have h := h b3 w4 hb3_ hw4_
  refine RL.opS trivial rfl (OpW.allocE (b := b3) zero_49 hb3_ hw4_ ?_)
  refine RL.opS trivial rfl (OpW.assign (v := .int .i64 0) rfl ?_)
  refine RL.nil ?_
  refine CW.seq ?_
  refine CW.region ?_
  refine RL.opS trivial rfl (OpW.fieldAddr field_49_3 rfl ?_)
  obtain ⟨x5, h1, h⟩ := h
  refine RL.opS trivial rfl (OpW.load1 (v := .int .i64 x5) one_3 rfl h1 ?_)
  refine RL.opS trivial rfl (OpW.assign (v := .int .i64 x5) rfl ?_)
  refine RL.nil ?_
  refine CW.seq ?_
  refine CW.region ?_
  refine RL.opS trivial rfl (OpW.fieldAddr field_49_3 rfl ?_)
  obtain ⟨x6, h1, h⟩ := h
  refine RL.opS trivial rfl (OpW.load1 (v := .int .i64 x6) one_3 rfl h1 ?_)
  refine RL.opS trivial rfl (OpW.bin (k := .i64) (a := x6) (b := 1) (v := .int .i64 (IntKind.i64.wrap (x6 + 1))) rfl rfl rfl ?_)
  refine RL.opS trivial rfl (OpW.fieldAddr field_49_3 rfl ?_)
  obtain ⟨u_, h1, h2, h⟩ := h
  obtain ⟨w7, hw7_⟩ : ∃ w_, w_ = w4.setCell (Addr.add ⟨b1, 0, none⟩ 3) (.int .i64 (IntKind.i64.wrap (x6 + 1))) := ⟨_, rfl⟩
  have h := h w7 hw7_
  refine RL.opN trivial (OpW.store1E (v := .int .i64 (IntKind.i64.wrap (x6 + 1))) size_3 rfl rfl rfl h1 h2 hw7_ ?_)
  refine RL.nil ?_
  refine CW.seq ?_
  refine CW.seq ?_
  refine CW.region ?_
  refine RL.opS trivial rfl (OpW.assign (v := .int .i64 0) rfl ?_)
  refine RL.nil ?_
  refine CW.block ?_
  obtain ⟨I36, mu37, hI, hs⟩ := h
  refine CW.loop (σ := Int) (fun s8 ρ => ρ 5 = .int .i64 s8 ∧ ρ 1 = .pointer (some ⟨b1, 0, none⟩) ∧ ρ 2 = .pointer (some ⟨b3, 0, none⟩) ∧ ρ 4 = .int .i64 x5) I36 mu37 0 ⟨rfl, rfl, rfl, rfl⟩ hI ?_
  rintro s8 ρ w9 ⟨e11, e12, e13, e14⟩ hI
  have h := hs s8 w9 hI
  clear hs hI
  refine CW.seq ?_
  refine CW.seq ?_
  refine CW.region ?_
  refine RL.opS trivial rfl (OpW.move (v := .int .i64 s8) e11 ?_)
  refine RL.opS trivial rfl (OpW.fieldAddr field_49_2 e12 ?_)
  obtain ⟨x15, h1, h⟩ := h
  refine RL.opS trivial rfl (OpW.load1 (v := Sl.v x15) one_47 rfl h1 ?_)
  refine RL.opS trivial rfl (OpW.len (s := x15) slice_47 rfl ?_)
  refine RL.opS trivial rfl (OpW.bin (k := .i64) (a := s8) (b := (x15.len : Int)) (v := .bool (decide (s8 < (x15.len : Int)))) rfl rfl rfl ?_)
  refine RL.nil ?_
  obtain ⟨ha, hc⟩ := h
  refine CW.cond (b := (decide (s8 < (x15.len : Int)))) rfl (fun hb16 => ?_) (fun hb16 => ?_)
  · have h := ha hb16; clear ha hc
    refine CW.skip ?_
    refine CW.seq ?_
    refine CW.block ?_
    refine CW.seq ?_
    refine CW.region ?_
    refine RL.opS trivial rfl (OpW.fieldAddr field_49_2 e12 ?_)
    obtain ⟨x17, h1, h⟩ := h
    refine RL.opS trivial rfl (OpW.load1 (v := Sl.v x17) one_47 rfl h1 ?_)
    refine RL.opS trivial rfl (OpW.move (v := .int .i64 s8) e11 ?_)
    obtain ⟨a18_, a18, h1, h2, h3, h4, h⟩ := h
    refine RL.opS trivial rfl (OpW.indexE (a' := a18) slice_47 rfl rfl h1 h2 h3 h4 ?_)
    refine RL.opS trivial rfl (OpW.fieldAddr (off := 0) field_27_0 rfl ?_)
    obtain ⟨x20, h1, h⟩ := h
    refine RL.opS trivial rfl (OpW.load1 (v := .int .i64 x20) one_3 rfl h1 ?_)
    refine RL.opS trivial rfl (OpW.move (v := .int .i64 x5) e14 ?_)
    refine RL.opS trivial rfl (OpW.bin (k := .i64) (a := x20) (b := x5) (v := .bool (decide (x20 = x5))) rfl rfl rfl ?_)
    refine RL.nil ?_
    obtain ⟨ha, hc⟩ := h
    refine CW.cond (b := (decide (x20 = x5))) rfl (fun hb21 => ?_) (fun hb21 => ?_)
    · have h := ha hb21; clear ha hc
      refine CW.seq ?_
      obtain ⟨w22, hw22_⟩ : ∃ w_, w_ = w9.drew := ⟨_, rfl⟩
      have h := h w22 hw22_
      have hx23 : Ext w9 w22 := by rw [hw22_]; exact Ext.drew _
      refine CW.draws (m := 9) (listed := #[false, false, false, false, false, false, false, false, false]) mixed [0, 1, 2, 3, 4, 5, 8] (Ext w9) rfl rfl ?_
      rw [← hw22_]
      obtain ⟨x24, h1, h2, h⟩ := h
      refine DL.takeK (listed' := #[true, false, false, false, false, false, false, false, false]) (v := aggv x24) 0 rfl rfl (by kernel_rfl) (by kernel_rfl) rfl trivial rfl hx23 (fun w_ hS_ K_ h_ => OpW.loadA agg_49 e12 h1 (hS_.at h2) h_) ?_
      refine DL.takeP (listed' := #[true, true, false, false, false, false, false, false, false]) (v := .pointer (some (Addr.add ⟨b1, 0, none⟩ 2))) 1 rfl rfl (by kernel_rfl) rfl trivial rfl (fun w_ K_ h_ => OpW.fieldAddr field_49_2 e12 h_) ?_
      obtain ⟨x25, h1, h⟩ := h
      refine DL.takeK (listed' := #[true, true, true, false, false, false, false, false, false]) (v := Sl.v x25) 2 rfl rfl (by kernel_rfl) (by kernel_rfl) rfl trivial rfl hx23 (fun w_ hS_ K_ h_ => OpW.load1 (v := Sl.v x25) one_47 rfl (hS_.cell h1) h_) ?_
      refine DL.takeP (listed' := #[true, true, true, true, false, false, false, false, false]) (v := .int .i64 s8) 3 rfl rfl (by kernel_rfl) rfl trivial rfl (fun w_ K_ h_ => OpW.move (v := .int .i64 s8) e11 h_) ?_
      obtain ⟨a26_, a26, h1, h2, h3, h4, h⟩ := h
      refine DL.takeP (listed' := #[true, true, true, true, true, false, false, false, false]) (v := .pointer (some a26)) 4 rfl rfl (by kernel_rfl) rfl trivial rfl (fun w_ K_ h_ => OpW.indexE (a' := a26) slice_47 rfl rfl h1 h2 h3 h4 h_) ?_
      obtain ⟨x28, h1, h2, h⟩ := h
      refine DL.takeK (listed' := #[true, true, true, true, true, true, false, false, false]) (v := aggv x28) 5 rfl rfl (by kernel_rfl) (by kernel_rfl) rfl trivial rfl hx23 (fun w_ hS_ K_ h_ => OpW.loadA agg_27 rfl h1 (hS_.at h2) h_) ?_
      refine DL.execS (listed' := #[true, true, true, true, true, true, true, false, false]) 6 rfl (by kernel_rfl) rfl trivial rfl (OpW.callR (al := [aggv x24, aggv x28]) Try.func58 fb_58 fn_58 rfl h (fun x29 w30 h => ?_))
      refine ⟨(fun h_ => absurd h_ (by decide)), ?_⟩
      obtain ⟨g_, o_, e_, cur_, ha_, h1, h2, h3, h4, h⟩ := h
      obtain ⟨w31, hw31_⟩ : ∃ w_, w_ = w30.setRow g_ (cur_.toList.take o_ ++ x29 ++ cur_.toList.drop (o_ + List.length x29)).toArray := ⟨_, rfl⟩
      have h := h w31 hw31_
      refine DL.execN (listed' := #[true, true, true, true, true, true, true, true, false]) 7 rfl (by kernel_rfl) rfl trivial (OpW.storeAE (cs := x29) size_49 e13 rfl ha_ h1 h2 h3 h4 hw31_ ?_)
      refine ⟨(fun h_ => absurd h_ (by decide)), ?_⟩
      refine DL.takeP (listed' := #[true, true, true, true, true, true, true, true, true]) (v := .int .i64 6) 8 rfl rfl (by kernel_rfl) rfl trivial rfl (fun w_ K_ h_ => OpW.assign (v := .int .i64 6) rfl h_) ?_
      refine DL.done (by kernel_rfl) ?_
      refine CW.ret ?_
      obtain ⟨x32, hc1, hc2, h⟩ := h
      exact ret_intro (res2c rfl agg_49 e13 hc1 hc2 rfl) ⟨(x32, 6), rfl, h⟩
    · have h := hc hb21; clear ha hc
      refine CW.skip ?_
      refine CW.region ?_
      refine RL.opS trivial rfl (OpW.move (v := .int .i64 s8) e11 ?_)
      refine RL.opS trivial rfl (OpW.bin (k := .i64) (a := s8) (b := 1) (v := .int .i64 (IntKind.i64.wrap (s8 + 1))) rfl rfl rfl ?_)
      refine RL.opS trivial rfl (OpW.assign (v := .int .i64 (IntKind.i64.wrap (s8 + 1))) rfl ?_)
      refine RL.nil ?_
      exact ⟨(IntKind.i64.wrap (s8 + 1)), ⟨rfl, e12, e13, e14⟩, h⟩
  · have h := hc hb16; clear ha hc
    refine CW.exit ?_
    refine CW.seq ?_
    refine CW.region ?_
    obtain ⟨x33, h1, h2, h⟩ := h
    refine RL.opS trivial rfl (OpW.loadA agg_49 e12 h1 h2 ?_)
    obtain ⟨g_, o_, e_, cur_, ha_, h1, h2, h3, h4, h⟩ := h
    obtain ⟨w34, hw34_⟩ : ∃ w_, w_ = w9.setRow g_ (cur_.toList.take o_ ++ x33 ++ cur_.toList.drop (o_ + List.length x33)).toArray := ⟨_, rfl⟩
    have h := h w34 hw34_
    refine RL.opN trivial (OpW.storeAE (cs := x33) size_49 e13 rfl ha_ h1 h2 h3 h4 hw34_ ?_)
    refine RL.opS trivial rfl (OpW.assign (v := .int .i64 0) rfl ?_)
    refine RL.nil ?_
    refine CW.ret ?_
    obtain ⟨x35, hc1, hc2, h⟩ := h
    exact ret_intro (res2c rfl agg_49 e13 hc1 hc2 rfl) ⟨(x35, 0), rfl, h⟩
end Go.Proofs.Ytagkcbbbdlmcjaa
end
section
/- The typed readings of the functions, and that the program meets each: written by gen.py (a program of this session). -/
set_option linter.unusedVariables false
set_option linter.unusedSimpArgs false
namespace Go.Proofs.Ytagkcbbbdlmcjaa
open Go.Lift
set_option maxRecDepth 100000 in
set_option maxHeartbeats 4000000 in
theorem s82_calls (K : Sl → World → Prop) (p0 : Sl) (p1 : Int) (p2 : List UInt8) (w : World) (h : s82 K p0 p1 p2 w) :
    Calls Try.prog 82 #[Sl.v p0, .int .i64 p1, str p2] w (Ret r82 K) := by
  unfold s82 at h
  refine calls_of_CW (n := 16) Try.func82 rfl rfl rfl ?_
  refine CW.seq ?_
  refine CW.region ?_
  refine RL.opS trivial rfl (OpW.assign (v := Sl.v nilSl) rfl ?_)
  refine RL.nil ?_
  refine CW.seq ?_
  refine CW.region ?_
  obtain ⟨b1, hb1_⟩ : ∃ b_, b_ = w.heap.size := ⟨_, rfl⟩
  obtain ⟨w2, hw2_⟩ : ∃ w_, w_ = w.alloc (.cells (List.toArray []) 9) := ⟨_, rfl⟩
  have h := h b1 w2 hb1_ hw2_
  refine RL.opS trivial rfl (OpW.buildSliceE (vs := []) (cs := []) (by rfl) (by kernel_rfl) hb1_ hw2_ ?_)
  refine RL.opS trivial rfl (OpW.move (v := Sl.v p0) rfl ?_)
  obtain ⟨x3, w4, hr_, h⟩ := h
  refine RL.opS trivial rfl (OpW.appendL (v := Sl.v x3) rfl hr_ ?_)
  refine RL.opS trivial rfl (OpW.assign (v := Sl.v x3) rfl ?_)
  refine RL.nil ?_
  refine CW.seq ?_
  refine CW.region ?_
  refine RL.opS trivial rfl (OpW.move (v := Sl.v x3) rfl ?_)
  refine RL.opS trivial rfl (OpW.move (v := .int .i64 p1) rfl ?_)
  refine RL.opS trivial rfl (OpW.move (v := str p2) rfl ?_)
  obtain ⟨a5_, a5, h1, h2, h3, h4, h⟩ := h
  refine RL.opS trivial rfl (OpW.indexE (a' := a5) slice_45 rfl rfl h1 h2 h3 h4 ?_)
  obtain ⟨u_, h1, h2, h⟩ := h
  obtain ⟨w7, hw7_⟩ : ∃ w_, w_ = w4.setCell a5 (str p2) := ⟨_, rfl⟩
  have h := h w7 hw7_
  refine RL.opN trivial (OpW.store1E (v := str p2) size_9 rfl rfl rfl h1 h2 hw7_ ?_)
  refine RL.nil ?_
  refine CW.seq ?_
  refine CW.region ?_
  refine RL.opS trivial rfl (OpW.move (v := Sl.v x3) rfl ?_)
  refine RL.opS trivial rfl (OpW.assign (v := Sl.v x3) rfl ?_)
  refine RL.nil ?_
  refine CW.ret ?_
  exact ret_intro (res1 rfl rfl) ⟨x3, rfl, h⟩
end Go.Proofs.Ytagkcbbbdlmcjaa
end
section
/- The document's disk: what its functions answer, over the same plain disk. -/
set_option linter.unusedVariables false
set_option linter.unusedSimpArgs false
namespace Go.Proofs.Ytagkcbbbdlmcjaa
open Go.Lift Go.Lift.Disk Go.RowKit
variable {B : Nat → Prop}
theorem mkz_45 : mkCells Try.prog 45 = some (9, 1, 16, [str []]) := by kernel_rfl
abbrev txts (l : List (List UInt8)) : List Value := l.map str
theorem txts_one (l : List (List UInt8)) : ∀ u ∈ txts l, u.oneCell' = true := by
  intro u hu
  obtain ⟨x, _, rfl⟩ := List.mem_map.1 hu
  rfl
theorem txts_get {l : List (List UInt8)} {i : Nat} (hi : i < l.length) : (txts l)[i]? = some (str l[i]) := by simp [hi]
theorem txts_set (l : List (List UInt8)) (i : Nat) (b : List UInt8) : (txts l).set i (str b) = txts (l.set i b) := by simp [txts, List.map_set]
def pairC (p : Nat × List UInt8) : List Value := [.int .i64 (p.1 : Int), str p.2]
structure StrsAt (w : World) (s : Sl) (l : List (List UInt8)) : Prop where
  len : s.len = l.length
  cells : AtO w s.a (txts l)
structure PairsAt (w : World) (s : Sl) (l : List (Nat × List UInt8)) : Prop where
  len : s.len = l.length
  cells : AtO w s.a (l.flatMap pairC)
theorem StrsAt.ext {w w' : World} {s : Sl} {l : List (List UInt8)} (h : StrsAt w s l) (hx : Ext w w') : StrsAt w' s l := ⟨h.len, Ext.atO hx h.cells⟩
theorem PairsAt.ext {w w' : World} {s : Sl} {l : List (Nat × List UInt8)} (h : PairsAt w s l) (hx : Ext w w') : PairsAt w' s l := ⟨h.len, Ext.atO hx h.cells⟩
theorem StrsAt.get {w : World} {s : Sl} {l : List (List UInt8)} (h : StrsAt w s l) {i : Nat} (hi : i < l.length) : ∃ a, s.a = some a ∧ w.cell? (a.add i) = some (str l[i]) := h.cells.some_of (txts_get hi)
theorem PairsAt.get {w : World} {s : Sl} {l : List (Nat × List UInt8)} (h : PairsAt w s l) {k : Nat} (hk : k < l.length) : ∃ a, s.a = some a ∧ At w (a.add (k * 2)) (pairC l[k]) := by
  have e := flatMap_at pairC (n := 2) (fun _ => rfl) l k hk
  have hl : k * 2 < (l.flatMap pairC).length := by rw [flatMap_len pairC (n := 2) (fun _ => rfl)]; omega
  obtain ⟨a, ha, _⟩ := h.cells.some_of (List.getElem?_eq_getElem hl)
  have hc := h.cells
  rw [ha] at hc
  exact ⟨a, ha, by rw [← e]; exact At.sub hc _ _⟩
/-- where its cells lie, if it has any -/
def Far (B : Nat → Prop) (s : Sl) : Prop := s.len ≠ 0 → ∀ a, s.a = some a → B a.block
theorem Far.nil : Far B nilSl := fun h => absurd rfl h
/-- the document's disk in a struct's cells -/
structure RX (w : World) (B : Nat → Prop) (ss sp sf : Sl) (D : Dk) : Prop where
  sure : StrsAt w ss (D.bl.map (·.2))
  pend : PairsAt w sp D.pend
  falls : FallsAt w sf D.falls
  f1 : Far B ss
  f2 : Far B sp
  f3 : Far B sf
abbrev rc (ss sp sf : Sl) (c : Int) (d : Bool) : List Value := [ss.v, sp.v, sf.v, .int .i64 c, .bool d]
def RAt (w : World) (B : Nat → Prop) (cs : List Value) (D : Dk) : Prop := ∃ ss sp sf, cs = rc ss sp sf D.changes D.down ∧ RX w B ss sp sf D
theorem RX.ext {w w' : World} {ss sp sf : Sl} {D : Dk} (h : RX w B ss sp sf D) (hx : Ext w w') : RX w' B ss sp sf D := ⟨h.sure.ext hx, h.pend.ext hx, h.falls.ext hx, h.f1, h.f2, h.f3⟩
theorem RAt.ext {w w' : World} {cs : List Value} {D : Dk} (h : RAt w B cs D) (hx : Ext w w') : RAt w' B cs D := by
  obtain ⟨ss, sp, sf, h1, h2⟩ := h
  exact ⟨ss, sp, sf, h1, h2.ext hx⟩
theorem rc_one (ss sp sf : Sl) (c : Int) (d : Bool) : ∀ v ∈ rc ss sp sf c d, v.oneCell' = true := by
  intro v hv
  simp only [rc, List.mem_cons, List.not_mem_nil, or_false] at hv
  rcases hv with rfl | rfl | rfl | rfl | rfl <;> rfl
theorem RAt.len {w : World} {cs : List Value} {D : Dk} (h : RAt w B cs D) : cs.length = 5 := by obtain ⟨_, _, _, rfl, _⟩ := h; rfl
theorem RAt.one {w : World} {cs : List Value} {D : Dk} (h : RAt w B cs D) : ∀ v ∈ cs, v.oneCell' = true := by obtain ⟨_, _, _, rfl, _⟩ := h; exact rc_one _ _ _ _ _

theorem with_ok (w : World) (s : Sl) (l : List (List UInt8)) (h : StrsAt w s l) (i : Nat) (hi : i < l.length) (hl : l.length ≤ 1000000) (t : List UInt8) :
    Calls Try.prog 82 #[s.v, .int .i64 (i : Int), str t] w (Ret r82 fun x w' => StrsAt w' x (l.set i t) ∧ Ext w w' ∧ ∀ a, x.a = some a → w.heap.size ≤ a.block) := by
  apply s82_calls
  intro b1 w2 hb1 hw2
  have hx2 : Ext w w2 := Ext.new hw2
  have hsl := h.len
  refine app_ok (base := w.heap.size) mkz_45 rfl (by decide) (Own.made (e := 9) (size := 1) (c := 0) hb1 hw2 (Nat.le_refl _) rfl (by simp [maxLen])) (news := txts l)
    (by simp [hsl]) (Ext.atO hx2 h.cells) (txts_one l) (by simp only [maxLen]; omega) (by simp only; omega) hx2.size ?_
  intro s' w4 hl' ho' _ hB'
  have hx4 : Ext w w4 := hB' _ _ hx2 (Nat.le_refl _) hx2.size
  have hl4 : s'.len = l.length := by rw [hl']; simp [hsl]
  rw [List.nil_append] at ho'
  refine ix_own ho' (by decide) rfl (by omega) fun g hg hbg hgs => ?_
  rw [Nat.mul_one]
  refine st1_own ho' hg (by omega) fun w7 hw7 ho7 hB7 => ?_
  rw [txts_set] at ho7
  refine ⟨⟨by rw [hl4]; simp, ho7.at⟩, hB7 _ _ hx4 (Nat.le_refl _), fun a ha => ?_⟩
  rw [hg] at ha
  cases ha
  exact hbg
theorem why_ok (w : World) (cs : List Value) (D : Dk) (h : RAt w B cs D) (i : Int) : Calls Try.prog 66 #[aggv cs, .int .i64 i] w (Ret r66 fun x w' => x = D.why i ∧ Ext w w') := by
  obtain ⟨ss, sp, sf, rfl, h⟩ := h
  apply s66_calls
  intro b1 w2 hb1 hw2
  have hx2 : Ext w w2 := Ext.new hw2
  have hB : Blk w2 b1 49 (rc ss sp sf D.changes D.down) := Blk.new hb1 hw2
  refine ⟨D.down, by rw [add_plain]; exact hB.cell rfl, ?_⟩
  unfold Dk.why
  refine ⟨fun hd => ?_, fun hd => ?_⟩
  · rw [if_pos hd]; exact ⟨rfl, hx2⟩
  rw [if_neg (by rw [hd]; simp)]
  have hsl := h.sure.len
  rw [List.length_map] at hsl
  refine jn_of fun k hk => ?_
  have key : ∀ b : Bool, (b = true ↔ (i < 0 ∨ (D.bl.length : Int) ≤ i)) → k b w2 := by
    intro b hb
    rw [hk]
    refine ⟨fun ht => ?_, fun hf => ?_⟩
    · rw [if_pos (hb.1 ht)]; exact ⟨rfl, hx2⟩
    · rw [if_neg fun h => by rw [hb.2 h] at hf; cases hf]; exact ⟨rfl, hx2⟩
  refine ⟨fun h0 => key _ ?_, fun h0 => ?_⟩
  · have := of_decide_eq_true h0; simp [this]
  · have h0 := of_decide_eq_false h0
    refine ⟨ss, by rw [add_plain]; exact hB.cell rfl, key _ ?_⟩
    simp only [decide_eq_true_eq]
    omega
theorem now_ok (w : World) (cs : List Value) (D : Dk) (h : RAt w B cs D) (hpl : D.pend.length ≤ 1000000) (i : Nat) (hi : i < D.bl.length) :
    Calls Try.prog 29 #[aggv cs, .int .i64 (i : Int)] w (Ret r29 fun x w' => x = lastOf D.pend i (bAt D.bl i).2 ∧ Ext w w') := by
  obtain ⟨ss, sp, sf, rfl, h⟩ := h
  apply s29_calls
  intro b1 w2 hb1 hw2
  have hx2 : Ext w w2 := Ext.new hw2
  have hB : Blk w2 b1 49 (rc ss sp sf D.changes D.down) := Blk.new hb1 hw2
  have h2 := h.ext hx2
  have hsl := h.sure.len
  rw [List.length_map] at hsl
  have hpl2 := h.pend.len
  obtain ⟨a, ha, hc⟩ := h2.sure.get (i := i) (by rw [List.length_map]; exact hi)
  refine ⟨ss, by rw [add_plain]; exact hB.cell rfl, a, _, ha, by omega, by omega, rfl, ?_⟩
  rw [Int.toNat_natCast, Nat.mul_one]
  refine ⟨_, hc, ?_⟩
  refine ⟨fun st w' => w2 = w' ∧ ∃ k : Nat, k ≤ D.pend.length ∧ st.2 = (k : Int) ∧ st.1 = lastOf (D.pend.take k) i (bAt D.bl i).2, fun st _ => D.pend.length - st.2.toNat, ⟨rfl, 0, Nat.zero_le _, rfl, ?_⟩, ?_⟩
  · rw [List.take_zero, List.getElem_map, bAt_lt hi]; rfl
  rintro ⟨acc, st⟩ w8 ⟨rfl, k, hk, rfl, rfl⟩
  refine ⟨sp, by rw [add_plain]; exact hB.cell rfl, ?_⟩
  refine ⟨fun hlt => ?_, fun hge => ?_⟩
  · have hkp : k < D.pend.length := by have := of_decide_eq_true hlt; simp only at this; omega
    obtain ⟨a2, ha2, hat⟩ := h2.pend.get hkp
    refine jn_of fun k1 hk1 => ?_
    have hnext : lastOf (D.pend.take (k + 1)) i (bAt D.bl i).2 = if D.pend[k].1 = i then D.pend[k].2 else lastOf (D.pend.take k) i (bAt D.bl i).2 := by
      rw [List.take_succ_eq_append_getElem hkp, lastOf_append]
    have next : ∀ x, x = lastOf (D.pend.take (k + 1)) i (bAt D.bl i).2 → k1 x w2 := by
      intro x hx
      rw [hk1]
      simp only
      rw [w64_eq (by omega) (by omega)]
      exact ⟨⟨trivial, k + 1, by omega, by omega, hx⟩, by omega⟩
    refine ⟨sp, by rw [add_plain]; exact hB.cell rfl, a2, _, ha2, by simp only; omega, by simp only; omega, rfl, ?_⟩
    simp only [Int.toNat_natCast]
    have hc0 := hat 0 _ rfl
    have hc1 := hat 1 _ rfl
    refine ⟨(D.pend[k].1 : Int), hc0, ?_⟩
    refine ⟨fun he => ?_, fun he => ?_⟩
    · have he := of_decide_eq_true he
      refine ⟨sp, by rw [add_plain]; exact hB.cell rfl, a2, _, ha2, by omega, by omega, rfl, ?_⟩
      simp only [Int.toNat_natCast]
      refine ⟨D.pend[k].2, hc1, next _ ?_⟩
      rw [hnext, if_pos (by omega)]
    · have he := of_decide_eq_false he
      refine next _ ?_
      rw [hnext, if_neg (by omega)]
  · have hge : k = D.pend.length := by have := of_decide_eq_false hge; simp only at this; omega
    subst hge
    rw [List.take_length]
    exact ⟨rfl, hx2⟩
theorem rnew_ok (w : World) (hB : ∀ k, w.heap.size ≤ k → B k) (n : Nat) (hn : n ≤ 4096) : Calls Try.prog 24 #[.int .i64 (n : Int)] w (Ret r24 fun x w' => RAt w' B x (fresh n) ∧ Ext w w') := by
  apply s24_calls
  intro b1 w2 hb1 hw2
  have hx2 : Ext w w2 := Ext.new hw2
  have hB2 : Blk w2 b1 49 (rc nilSl nilSl nilSl 0 false) := Blk.new hb1 hw2
  refine ⟨by decide, by decide, by decide, by decide, fun b4 w4 hb4 hw4 => ?_⟩
  have hx4 : Ext w2 w4 := Ext.new hw4
  have hz : Bytes w4 ⟨some ⟨b4, 0, none⟩, Int.toNat 512, Int.toNat 512⟩ zero512 := by
    refine ⟨List.length_replicate .., ?_⟩
    rw [zeros_u8'] at hw4
    exact At.new hb4 hw4
  refine ⟨_, hz.1, hz.2, ?_⟩
  refine ⟨fun st w' => ∃ k : Nat, k ≤ n ∧ st.2 = (k : Int) ∧ Own w' w4.heap.size 9 1 st.1 (txts (List.replicate k zero512)) ∧ Ext w4 w', fun st _ => n - st.2.toNat, ⟨0, Nat.zero_le _, rfl, Own.nil _ _ _ _, Ext.refl _⟩, ?_⟩
  rintro ⟨s, st⟩ w8 ⟨k, hk, rfl, ho, hx8⟩
  refine ⟨fun hlt => ?_, fun hge => ?_⟩
  · have hkn : k < n := by have := of_decide_eq_true hlt; simp only at this; omega
    intro b16 w17 hb16 hw17
    have hx17 : Ext w8 w17 := Ext.new hw17
    have hol := ho.length
    simp only [List.length_map, List.length_replicate] at hol
    refine app_ok (base := w4.heap.size) mkz_45 rfl (by decide) (ho.ext hx17) (news := txts [zero512]) rfl (At.new hb16 hw17) (txts_one _) (by simp only [maxLen]; omega) (by simp only; omega) (hx8.trans hx17).size ?_
    intro s' w' hl' ho' _ hB'
    simp only
    rw [w64_eq (by omega) (by omega)]
    refine ⟨⟨k + 1, by omega, by omega, ?_, hB' _ _ (hx8.trans hx17) (Nat.le_refl _) (hx8.trans hx17).size⟩, by omega⟩
    rw [List.replicate_succ', txts, List.map_append]
    exact ho'
  · have hge : k = n := by have := of_decide_eq_false hge; simp only at this; omega
    subst hge
    have hB8 := (hB2.ext hx4).ext hx8
    refine stA_blk hB8 rfl (by simp) (by intro v hv; exact rc_one s nilSl nilSl 0 false v hv) fun w20 hB20 hf20 => ?_
    have hx20 : Ext w w20 := hf20.ext ((hx2.trans hx4).trans hx8) fun k _ e => by rw [e, hb1]; exact Nat.le_refl _
    have hsp : splice (rc nilSl nilSl nilSl 0 false) 0 [s.v, Value.slice none 0 0, Value.slice none 0 0, Value.int .i64 0, Value.bool false] = rc s nilSl nilSl 0 false := rfl
    have hB20 : Blk w20 b1 49 (rc s nilSl nilSl 0 false) := hB20
    refine ⟨rc s nilSl nilSl 0 false, rfl, hB20.at rfl, ?_⟩
    have hol := ho.length
    simp only [List.length_map, List.length_replicate] at hol
    have hge4 : ∀ b, s.a = some b → w4.heap.size ≤ b.block := by
      intro b hb
      obtain ⟨sa, l, c⟩ := s
      simp only at hb
      subst hb
      rcases ho.2 with ⟨h1, h2⟩ | ⟨g, cap, cur, h1, h3, _⟩
      · simp at h1
      · simp only [Value.slice.injEq, Option.some.injEq] at h1
        obtain ⟨rfl, _, _⟩ := h1
        exact h3
    have hb1l : b1 < w4.heap.size := Nat.lt_of_lt_of_le (Blk.lt hB2) hx4.size
    refine ⟨⟨s, nilSl, nilSl, rfl, ⟨⟨by simp [fresh]; omega, ?_⟩, ⟨rfl, rfl⟩, ⟨rfl, Nat.le_refl _, rfl, fun _ => rfl, by simp [fresh]⟩, fun _ b hb => hB _ (Nat.le_trans (hx2.trans hx4).size (hge4 b hb)), Far.nil, Far.nil⟩⟩, hx20⟩
    have hat := (hf20.own (fun b hb e => by
      have hge : w4.heap.size ≤ b.block := by
        obtain ⟨sa, l, c⟩ := s
        simp only at hb
        subst hb
        rcases ho.2 with ⟨h1, h2⟩ | ⟨g, cap, cur, h1, h3, _⟩
        · simp at h1
        · simp only [Value.slice.injEq, Option.some.injEq] at h1
          obtain ⟨rfl, _, _⟩ := h1
          exact h3
      have e : b.block = b1 := e
      omega) ho).at
    have : (fresh k).bl.map (·.2) = List.replicate k zero512 := by simp [fresh]
    rw [this]
    exact hat
end Go.Proofs.Ytagkcbbbdlmcjaa
end
section
/- The document's disk: a loss of power, a change, a flush, a write. -/
set_option linter.unusedVariables false
set_option linter.unusedSimpArgs false
namespace Go.Proofs.Ytagkcbbbdlmcjaa
open Go.Lift Go.Lift.Disk Go.RowKit
variable {B : Nat → Prop}
theorem sures_set (l : List Bl) (i : Nat) (b : List UInt8) : (setSure l i b).map (·.2) = (l.map (·.2)).set i b := by
  unfold setSure
  rw [List.map_set]
theorem bAt_sure {l : List Bl} {i : Nat} (hi : i < l.length) : (l.map (·.2))[i]'(by simpa using hi) = (bAt l i).2 := by
  rw [List.getElem_map, bAt_lt hi]
theorem set_same {l : List (List UInt8)} {i : Nat} (hi : i < l.length) : l.set i l[i] = l := List.set_getElem_self hi
/-- the step of a loss of power, over what surely is -/
def cut3 (f : Fall) (last : Int) (k : Nat) : Nat := if k < 64 ∧ f.2.1.toNat.testBit k = true then 512 else if (k : Int) = last then torn f else 0
theorem step_sure {f : Fall} {last : Int} {l : List Bl} {k : Nat} {p : Nat × List UInt8} (hi : p.1 < l.length) (hp : p.2.length = 512) (hb : (bAt l p.1).2.length = 512) :
    (crashStep f last l k p).map (·.2) = (l.map (·.2)).set p.1 (p.2.take (cut3 f last k) ++ (bAt l p.1).2.drop (cut3 f last k)) := by
  unfold crashStep cut3
  split
  · rw [sures_set, List.take_of_length_le (by omega), List.drop_of_length_le (by omega), List.append_nil]
  · split
    · rw [sures_set]
    · have hs : p.1 < (l.map (·.2)).length := by simpa using hi
      rw [List.take_zero, List.drop_zero, List.nil_append, ← bAt_sure hi, List.set_getElem_self hs]
theorem halve_bit {x : Nat} (k : Nat) (hx : x < 18446744073709551616) : (Int.tmod ((x / 2 ^ k : Nat) : Int) 2 = 1) ↔ (k < 64 ∧ x.testBit k = true) := by
  have hnn : (0 : Int) ≤ ((x / 2 ^ k : Nat) : Int) := Int.natCast_nonneg _
  rw [Int.tmod_eq_emod_of_nonneg hnn, Nat.testBit_eq_decide_div_mod_eq, decide_eq_true_iff]
  constructor
  · intro h
    refine ⟨?_, by generalize x / 2 ^ k = m at h ⊢; omega⟩
    rcases Nat.lt_or_ge k 64 with h' | h'
    · exact h'
    · have : x / 2 ^ k = 0 := Nat.div_eq_of_lt (Nat.lt_of_lt_of_le hx (Nat.pow_le_pow_right (by decide : 0 < 2) h'))
      rw [this] at h
      cases h
  · rintro ⟨_, h⟩
    generalize x / 2 ^ k = m at h ⊢
    omega
theorem halve (x k : Nat) : IntKind.u64.wrap (Int.tdiv ((x / 2 ^ k : Nat) : Int) 2) = (((x % 18446744073709551616) / 2 ^ (k + 1) : Nat) : Int) ∨ 18446744073709551616 ≤ x := by
  rcases Nat.lt_or_ge x 18446744073709551616 with h | h
  · left
    have h1 : x / 2 ^ k ≤ x := Nat.div_le_self _ _
    have e : x / 2 ^ (k + 1) = x / 2 ^ k / 2 := by rw [Nat.pow_succ, Nat.div_div_eq_div_mul]
    rw [Nat.mod_eq_of_lt h, e]
    generalize x / 2 ^ k = m at h1 ⊢
    rw [Int.tdiv_eq_ediv_of_nonneg (by omega), wu64_eq (by omega) (by omega)]
    omega
  · exact .inr h
theorem rcrash_ok (w : World) (cs : List Value) (D : Dk) (h : RAt w B cs D) (hwf : D.Wf) (hBn : ∀ k, w.heap.size ≤ k → B k) (f : Fall) (hf : 0 ≤ f.2.1 ∧ f.2.1 < 18446744073709551616) :
    Calls Try.prog 58 #[aggv cs, aggv (fallOf f)] w (Ret r58 fun x w' => RAt w' B x (D.crash f) ∧ Ext w w') := by
  obtain ⟨ss, sp, sf, rfl, h⟩ := h
  apply s58_calls
  intro b1 w2 hb1 hw2
  have hx2 : Ext w w2 := Ext.new hw2
  have hB2 : Blk w2 b1 49 (rc ss sp sf D.changes D.down) := Blk.new hb1 hw2
  intro b3 w4 hb3 hw4
  have hx4 : Ext w2 w4 := Ext.new hw4
  have hF4 : Blk w4 b3 27 (fallOf f) := Blk.new hb3 hw4
  intro b5 w6 hb5 hw6
  have hx6 : Ext w4 w6 := Ext.new hw6
  have hR6 : Blk w6 b5 49 (rc nilSl nilSl nilSl 0 false) := Blk.new hb5 hw6
  have hB6 := (hB2.ext hx4).ext hx6
  have hF6 := hF4.ext hx6
  have hxw6 := (hx2.trans hx4).trans hx6
  have h13 : b1 < b3 := by rw [hb3]; exact hB2.lt
  have h35 : b3 < b5 := by rw [hb5]; exact hF4.lt
  have hwb1 : w.heap.size ≤ b1 := by rw [hb1]; exact Nat.le_refl _
  have h6 := h.ext hxw6
  refine ⟨D.down, by rw [add_plain]; exact hB6.cell rfl, ?_⟩
  -- the answer is put into its place
  have fin : ∀ (w' : World) (ss' sp' sf' : Sl) (c : Int) (d : Bool), Blk w' b5 49 (rc nilSl nilSl nilSl 0 false) → Ext w w' → ∀ K : World → Prop, (∀ w'', Blk w'' b5 49 (rc ss' sp' sf' c d) → Ext w w'' → Fr (· = b5) w' w'' → K w'') → stA 5 ⟨b5, 0, none⟩ (rc ss' sp' sf' c d) w' K := by
    intro w' ss' sp' sf' c d hB hx K hK
    refine stA_blk hB rfl (by simp) (rc_one _ _ _ _ _) fun w'' hB'' hf'' => hK w'' hB'' (hf''.ext hx fun k _ e => by rw [e]; omega) hf''
  refine ⟨fun hd => ?_, fun hd => ?_⟩
  · refine ⟨rc ss sp sf D.changes D.down, rfl, hB6.at rfl, ?_⟩
    refine fin w6 _ _ _ _ _ hR6 hxw6 _ fun w10 hB10 hx10 _ => ?_
    refine ⟨rc ss sp sf D.changes D.down, rfl, hB10.at rfl, ?_⟩
    have : D.crash f = D := by unfold Dk.crash; rw [if_pos hd]
    rw [this]
    exact ⟨⟨ss, sp, sf, rfl, h.ext hx10⟩, hx10⟩
  obtain ⟨kp, hkp⟩ := Int.eq_ofNat_of_zero_le hf.1
  have hkp2 : kp < 18446744073709551616 := by omega
  refine ⟨f.2.1, by rw [add_plain]; exact hF6.cell rfl, ?_⟩
  have hss : ∀ a, ss.a = some a → a.block ≠ b1 ∧ a.block ≠ b5 := by
    intro a ha
    obtain ⟨a', ha', hc⟩ := h.sure.get (i := 0) (by rw [List.length_map]; exact hwf.pos)
    rw [ha] at ha'
    cases ha'
    have := World.block_lt_of_cell? w _ hc
    rw [add_block] at this
    omega
  have hpl := h.pend.len
  have hple := hwf.plen
  refine ⟨fun st w' => ∃ (k : Nat) (l : List Bl) (s' : Sl), k ≤ D.pend.length ∧ st.2 = (k : Int) ∧ st.1 = ((kp / 2 ^ k : Nat) : Int) ∧ Blk w' b1 49 (rc s' sp sf D.changes D.down) ∧ Blk w' b3 27 (fallOf f) ∧ Blk w' b5 49 (rc nilSl nilSl nilSl 0 false) ∧
      StrsAt w' s' (l.map (·.2)) ∧ (∀ a, s'.a = some a → a.block ≠ b1 ∧ a.block ≠ b5) ∧ Far B s' ∧ Ext w w' ∧ l.length = D.bl.length ∧ WfB l ∧ crashL f ((D.pend.length : Int) - 1) k (D.pend.drop k) l = crashL f ((D.pend.length : Int) - 1) 0 D.pend D.bl,
    fun st _ => D.pend.length - st.2.toNat, ⟨0, D.bl, ss, Nat.zero_le _, rfl, by rw [hkp]; simp, hB6, hF6, hR6, h6.sure, hss, h.f1, hxw6, rfl, hwf.bl, rfl⟩, ?_⟩
  rintro ⟨kk, st⟩ w14 ⟨k, l, s', hk, rfl, rfl, hB, hF, hR, hS, hfar, hFs, hx, hll, hwl, hcr⟩
  have hpe := h.pend.ext hx
  refine ⟨sp, by rw [add_plain]; exact hB.cell rfl, ?_⟩
  refine ⟨fun hlt => ?_, fun hge => ?_⟩
  · have hkl : k < D.pend.length := by have := of_decide_eq_true hlt; simp only at this; omega
    obtain ⟨hpi, hp512⟩ := hwf.pend _ (List.getElem_mem hkl)
    have hpi' : D.pend[k].1 < l.length := by rw [hll]; exact hpi
    have hb512 := (bAt_len hwl hpi').2
    obtain ⟨a, ha, hat⟩ := hpe.get hkl
    refine ⟨sp, by rw [add_plain]; exact hB.cell rfl, a, _, ha, by simp only; omega, by simp only; omega, rfl, ?_⟩
    simp only [Int.toNat_natCast]
    refine ⟨pairC D.pend[k], rfl, hat, rfl, ?_, fun b27 w28 hb27 hw28 => ?_⟩
    · intro v hv
      simp only [pairC, List.mem_cons, List.not_mem_nil, or_false] at hv
      rcases hv with rfl | rfl <;> rfl
    have hx28 : Ext w14 w28 := Ext.new hw28
    have hP : Blk w28 b27 114 (pairC D.pend[k]) := Blk.new hb27 hw28
    have hB28 := hB.ext hx28
    refine jn_of fun k1 hk1 => ?_
    have next : ∀ n : Int, n = (cut3 f ((D.pend.length : Int) - 1) k : Int) → k1 n w28 := by
      intro n hn
      subst hn
      have hc512 : cut3 f ((D.pend.length : Int) - 1) k ≤ 512 := by
        unfold cut3
        have := (torn_eq f).2
        split
        · omega
        · split <;> omega
      generalize hcu : cut3 f ((D.pend.length : Int) - 1) k = n at hc512
      rw [hk1]
      intro w43 hw43
      have hx43 : Ext w28 w43 := by subst hw43; exact Ext.drew _
      have hS28 := hS.ext hx28
      have hsl := hS.len
      rw [List.length_map] at hsl
      obtain ⟨a2, ha2, hc2⟩ := hS28.get (i := D.pend[k].1) (by rw [List.length_map]; exact hpi')
      rw [bAt_sure hpi'] at hc2
      refine ⟨s', by rw [add_plain]; exact hB28.cell rfl, (D.pend[k].1 : Int), by rw [add_plain]; exact hP.cell rfl, D.pend[k].2, by rw [add_plain]; exact hP.cell rfl, ⟨by omega, by omega, by rw [hp512]; omega⟩, ?_⟩
      refine ⟨s', by rw [add_plain]; exact hB28.cell rfl, (D.pend[k].1 : Int), by rw [add_plain]; exact hP.cell rfl, a2, _, ha2, by omega, by omega, rfl, ?_⟩
      simp only [Int.toNat_natCast, Nat.mul_one]
      refine ⟨(bAt l D.pend[k].1).2, hc2, ⟨by omega, by rw [hb512]; omega, by omega⟩, ?_, ?_⟩
      · simp only [Int.toNat_zero, List.drop_zero, List.length_take, List.length_drop, hp512, hb512]; omega
      have earg : ((D.pend[k].2.take n).drop (Int.toNat 0) ++ ((bAt l D.pend[k].1).2.take (bAt l D.pend[k].1).2.length).drop n) = D.pend[k].2.take n ++ (bAt l D.pend[k].1).2.drop n := by
        rw [List.take_length]; rfl
      rw [earg]
      have hfew := hwf.few
      refine cR_of (with_ok w43 s' _ (hS28.ext hx43) D.pend[k].1 (by rw [List.length_map]; exact hpi') (by rw [List.length_map]; omega) _) ?_
      rintro x53 w54 ⟨hS54, hx54, hg54⟩
      have hxx := hx43.trans hx54
      rw [add_plain]
      refine st1_blk (hB28.ext hxx) (by simp) fun w55 hB55 hf55 => ?_
      have hx55 : Ext w w55 := hf55.ext ((hx.trans hx28).trans hxx) fun k _ e => by rw [e]; exact hwb1
      have hhalf : IntKind.u64.wrap (Int.tdiv ((kp / 2 ^ k : Nat) : Int) 2) = ((kp / 2 ^ (k + 1) : Nat) : Int) := by
        rcases halve kp k with h | h
        · rw [Nat.mod_eq_of_lt hkp2] at h; exact h
        · omega
      rw [w64_eq (by omega) (by omega), hhalf]
      have hst := step_sure (f := f) (last := (D.pend.length : Int) - 1) (k := k) hpi' hp512 hb512
      rw [hcu] at hst
      have hb5w : b5 < w43.heap.size := Nat.lt_of_lt_of_le (hR.ext hx28).lt hx43.size
      refine ⟨⟨k + 1, crashStep f ((D.pend.length : Int) - 1) l k D.pend[k], x53, by omega, by omega, rfl, hB55, (((hF.ext hx28).ext hxx).fr hf55 (by omega)), (((hR.ext hx28).ext hxx).fr hf55 (by omega)), ?_, (fun a ha => by have := hg54 a ha; omega), (fun _ a ha => hBn _ (Nat.le_trans (Nat.le_trans (hx.trans hx28).size hx43.size) (hg54 a ha))), hx55, by rw [crashStep_len, hll], ?_, ?_⟩, by omega⟩
      · rw [hst]
        refine ⟨hS54.len, hf55.atO (fun a ha e => ?_) hS54.cells⟩
        have := hg54 a ha
        have e : a.block = b1 := e
        omega
      · unfold crashStep
        split
        · exact setSure_wf hwl hpi' hp512
        · split
          · exact setSure_wf hwl hpi' (by have := (torn_eq f).2; rw [List.length_append, List.length_take, List.length_drop, hp512, hb512]; omega)
          · exact hwl
      · rw [← hcr, List.drop_eq_getElem_cons hkl, crashL]
    have hbit := halve_bit k hkp2
    have ef : f.2.1.toNat = kp := by rw [hkp]; rfl
    refine ⟨fun ho => ?_, fun ho => ?_⟩
    · have ho := hbit.1 (of_decide_eq_true ho)
      refine next 512 ?_
      unfold cut3
      rw [if_pos (by rw [ef]; exact ho)]
      rfl
    · have ho := of_decide_eq_false ho
      have hno : ¬ (k < 64 ∧ f.2.1.toNat.testBit k = true) := by rw [ef]; exact fun h => ho (hbit.2 h)
      refine ⟨sp, by rw [add_plain]; exact hB28.cell rfl, ?_⟩
      have el : IntKind.i64.wrap ((sp.len : Int) - 1) = (D.pend.length : Int) - 1 := by rw [hpl, w64_eq (by omega) (by omega)]
      show ifB _ _ _
      rw [el]
      refine ⟨fun hla => ?_, fun hla => ?_⟩
      · have hla := of_decide_eq_true hla
        refine ⟨f.2.2, by rw [add_plain]; exact (hF.ext hx28).cell rfl, next _ ?_⟩
        unfold cut3
        rw [if_neg hno, if_pos hla]
        exact (torn_eq f).1
      · have hla := of_decide_eq_false hla
        refine next 0 ?_
        unfold cut3
        rw [if_neg hno, if_neg hla]
        rfl
  · have hge : k = D.pend.length := by have := of_decide_eq_false hge; simp only at this; omega
    subst hge
    rw [List.drop_length, crashL] at hcr
    refine ⟨s', by rw [add_plain]; exact hB.cell rfl, sf, by rw [add_plain]; exact hB.cell rfl, (D.changes : Int), by rw [add_plain]; exact hB.cell rfl, ?_⟩
    refine fin w14 s' nilSl sf D.changes true hR hx _ fun w61 hB61 hx61 hf61 => ?_
    refine ⟨rc s' nilSl sf D.changes true, rfl, hB61.at rfl, ?_⟩
    have ec := crash_up hd f
    rw [← hcr] at ec
    refine ⟨⟨s', nilSl, sf, by rw [ec], ?_⟩, hx61⟩
    rw [ec]
    refine ⟨?_, ⟨rfl, rfl⟩, h.falls.ext hx61, hFs, Far.nil, h.f3⟩
    have e2 : ((l.map fun p : Bl => (p.2, p.2)).map (·.2)) = l.map (·.2) := by rw [List.map_map]; rfl
    show StrsAt w61 s' ((l.map fun p : Bl => (p.2, p.2)).map (·.2))
    rw [e2]
    exact ⟨hS.len, hf61.atO (fun a ha e => (hfar a ha).2 e) hS.cells⟩
end Go.Proofs.Ytagkcbbbdlmcjaa
end
section
/- The document's disk: a change, a flush, a write. -/
set_option linter.unusedVariables false
set_option linter.unusedSimpArgs false
namespace Go.Proofs.Ytagkcbbbdlmcjaa
open Go.Lift Go.Lift.Disk Go.RowKit
variable {B : Nat → Prop}
theorem blk_mem {w : World} {g : Nat} {e : TypeId} {cs : List Value} {a : Addr} {v : Value} (hB : Blk w g e cs) (hc : w.cell? a = some v) (hb : a.block = g) : v ∈ cs := by
  have hB' : w.heap[g]? = some (.cells cs.toArray e (0, 0)) := hB
  unfold World.cell? at hc
  rw [hb, hB'] at hc
  simp only at hc
  split at hc
  · cases hc
  · exact List.mem_of_getElem? (by simpa using hc)
section
variable {w w' : World} {g : Nat} {e : TypeId} {s1 s2 s3 : Sl} {c : Int} {d : Bool}
theorem StrsAt.fr {s : Sl} {l : List (List UInt8)} (h : StrsAt w s l) (hB : Blk w g e (rc s1 s2 s3 c d)) (hf : Fr (· = g) w w') : StrsAt w' s l := by
  refine ⟨h.len, ?_⟩
  by_cases hl : 0 < l.length
  · refine hf.atO (fun a ha e => ?_) h.cells
    obtain ⟨a', ha', hc⟩ := h.get hl
    rw [ha] at ha'
    cases ha'
    have := blk_mem hB hc (by rw [add_block]; exact e)
    simp [rc] at this
  · have : l = [] := List.eq_nil_of_length_eq_zero (by omega)
    subst this
    have h0 := h.cells
    cases hs : s.a with
    | none => rfl
    | some a => exact fun j v hj => by simp at hj
theorem PairsAt.fr {s : Sl} {l : List (Nat × List UInt8)} (h : PairsAt w s l) (hB : Blk w g e (rc s1 s2 s3 c d)) (hf : Fr (· = g) w w') : PairsAt w' s l := by
  refine ⟨h.len, ?_⟩
  by_cases hl : 0 < l.length
  · refine hf.atO (fun a ha e => ?_) h.cells
    obtain ⟨a', ha', hc⟩ := h.get hl
    rw [ha] at ha'
    cases ha'
    have h1 := hc 1 _ rfl
    have := blk_mem hB h1 (by rw [add_block, add_block]; exact e)
    simp [rc] at this
  · have : l = [] := List.eq_nil_of_length_eq_zero (by omega)
    subst this
    cases hs : s.a with
    | none => rfl
    | some a => exact fun j v hj => by simp at hj
theorem FallsAt.fr {s : Sl} {l : List Fall} (h : FallsAt w s l) (hB : Blk w g e (rc s1 s2 s3 c d)) (hf : Fr (· = g) w w') : FallsAt w' s l := by
  refine ⟨h.len, h.cap, ?_, h.nil, h.keep⟩
  by_cases hl : 0 < l.length
  · refine hf.atO (fun a ha e => ?_) h.cells
    have hc := h.cells
    rw [ha] at hc
    have h0 := fallC_at (l := l) (k := 0) hl
    have hg : (fallC l)[1]? = some (.int .u64 l[0].2.1) := by
      have := congrArg (fun x : List Value => x[1]?) h0
      simp only [Nat.zero_mul, List.drop_zero] at this
      rw [List.getElem?_take_of_lt (by decide)] at this
      exact this
    have := blk_mem hB (hc 1 _ hg) (by rw [add_block]; exact e)
    simp [rc] at this
  · have : l = [] := List.eq_nil_of_length_eq_zero (by omega)
    subst this
    cases hs : s.a with
    | none => rfl
    | some a => exact fun j v hj => by simp [fallC] at hj
theorem RX.fr {ss sp sf : Sl} {D : Dk} (h : RX w B ss sp sf D) (hB : Blk w g e (rc s1 s2 s3 c d)) (hf : Fr (· = g) w w') : RX w' B ss sp sf D := ⟨h.sure.fr hB hf, h.pend.fr hB hf, h.falls.fr hB hf, h.f1, h.f2, h.f3⟩
theorem RAt.fr {cs : List Value} {D : Dk} (h : RAt w B cs D) (hB : Blk w g e (rc s1 s2 s3 c d)) (hf : Fr (· = g) w w') : RAt w' B cs D := by
  obtain ⟨ss, sp, sf, h1, h2⟩ := h
  exact ⟨ss, sp, sf, h1, h2.fr hB hf⟩
/-- an answer is put into its place -/
theorem put_ans {cs : List Value} {D : Dk} {K : World → Prop} (h : RAt w B cs D) (hB : Blk w g e (rc s1 s2 s3 c d)) (hK : ∀ w'', RAt w'' B cs D → Blk w'' g e cs → Fr (· = g) w w'' → K w'') : stA 5 ⟨g, 0, none⟩ cs w K := by
  have hl := h.len
  refine stA_blk hB hl (by simp) h.one fun w'' hB'' hf'' => hK w'' (h.fr hB hf'') ?_ hf''
  have : splice (rc s1 s2 s3 c d) 0 cs = cs := by
    unfold splice
    rw [List.take_zero, List.nil_append, List.drop_of_length_le (by rw [hl]; simp), List.append_nil]
  rw [this] at hB''
  exact hB''
end
theorem tick_wf {D : Dk} (h : D.Wf) (hc : D.changes < 1000000000) : (Dk.tick D).Wf := ⟨h.pos, h.few, h.bl, h.pend, h.plen, h.keep, h.flen, by show D.changes + 1 ≤ _; omega⟩
theorem rstrike_ok (w : World) (cs : List Value) (D : Dk) (h : RAt w B cs D) (hwf : D.Wf) (hch : D.changes < 1000000000) (hBn : ∀ k, w.heap.size ≤ k → B k) :
    Calls Try.prog 68 #[aggv cs] w (Ret r68 fun x w' => x.2 = D.strike.2 ∧ RAt w' B x.1 D.strike.1 ∧ Ext w w') := by
  obtain ⟨ss, sp, sf, rfl, h⟩ := h
  apply s68_calls
  intro b1 w2 hb1 hw2
  have hx2 : Ext w w2 := Ext.new hw2
  have hB2 : Blk w2 b1 49 (rc ss sp sf D.changes D.down) := Blk.new hb1 hw2
  intro b3 w4 hb3 hw4
  have hx4 : Ext w2 w4 := Ext.new hw4
  have hR4 : Blk w4 b3 49 (rc nilSl nilSl nilSl 0 false) := Blk.new hb3 hw4
  have hB4 := hB2.ext hx4
  have h13 : b1 < b3 := by rw [hb3]; exact hB2.lt
  have hwb1 : w.heap.size ≤ b1 := by rw [hb1]; exact Nat.le_refl _
  refine ⟨(D.changes : Int), by rw [add_plain]; exact hB4.cell rfl, (D.changes : Int), by rw [add_plain]; exact hB4.cell rfl, ?_⟩
  show st1 _ _ _ _
  rw [add_plain, w64_eq (by omega) (by omega)]
  refine st1_blk hB4 (by simp) fun w7 hB7 hf7 => ?_
  have hx7 : Ext w w7 := hf7.ext (hx2.trans hx4) fun k _ e => by rw [e]; exact hwb1
  have hB7 : Blk w7 b1 49 (rc ss sp sf ((D.changes : Int) + 1) D.down) := hB7
  have hR7 := hR4.fr hf7 (by omega)
  have hc1 : (((Dk.tick D).changes : Nat) : Int) = (D.changes : Int) + 1 := by unfold Dk.tick; simp only; omega
  have hT : ∀ {w'}, Ext w w' → RAt w' B (rc ss sp sf ((D.changes : Int) + 1) D.down) (Dk.tick D) := fun hx => ⟨ss, sp, sf, by rw [hc1]; rfl, ⟨h.sure.ext hx, h.pend.ext hx, h.falls.ext hx, h.f1, h.f2, h.f3⟩⟩
  have hfl := h.falls.len
  have hfln := hwf.flen
  have hfa := h.falls.ext hx7
  refine ⟨fun st w' => w7 = w' ∧ ∃ k : Nat, k ≤ D.falls.length ∧ st = (k : Int) ∧ (D.falls.take k).find? (fun f => f.1 == (D.changes : Int)) = none, fun st _ => D.falls.length - st.toNat, ⟨rfl, 0, Nat.zero_le _, rfl, by simp⟩, ?_⟩
  rintro st w9 ⟨rfl, k, hk, rfl, hno⟩
  refine ⟨sf, by rw [add_plain]; exact hB7.cell rfl, ?_⟩
  refine ⟨fun hlt => ?_, fun hge => ?_⟩
  · have hkl : k < D.falls.length := by have := of_decide_eq_true hlt; omega
    have hsplit : D.falls = D.falls.take k ++ D.falls[k] :: D.falls.drop (k + 1) := by rw [← List.drop_eq_getElem_cons hkl, List.take_append_drop]
    have hl3 : k * 3 < (fallC D.falls).length := by rw [fallC_len]; omega
    obtain ⟨a, ha, _⟩ := hfa.cells.some_of (List.getElem?_eq_getElem hl3)
    have hat : At w7 (a.add (k * 3)) (fallOf D.falls[k]) := by
      have hc := hfa.cells
      rw [ha] at hc
      rw [← fallC_at hkl]
      exact At.sub hc _ _
    refine ⟨sf, by rw [add_plain]; exact hB7.cell rfl, a, _, ha, by omega, by omega, rfl, ?_⟩
    simp only [Int.toNat_natCast]
    have hc0 := hat 0 _ rfl
    refine ⟨D.falls[k].1, hc0, ?_⟩
    refine ⟨fun he => ?_, fun hne => ?_⟩
    · have he := of_decide_eq_true he
      have hfind : D.falls.find? (fun f => f.1 == (D.changes : Int)) = some D.falls[k] := by
        have e2 := congrArg (fun l : List Fall => l.find? (fun f => f.1 == (D.changes : Int))) hsplit
        refine e2.trans ?_
        show List.find? _ (_ ++ _) = _
        rw [List.find?_append, hno, List.find?_cons_of_pos (by simp [he])]
        rfl
      intro w22 hw22
      have hx22 : Ext w7 w22 := by subst hw22; exact Ext.drew _
      refine ⟨rc ss sp sf ((D.changes : Int) + 1) D.down, rfl, hB7.at rfl, sf, by rw [add_plain]; exact hB7.cell rfl, a, _, ha, by omega, by omega, rfl, ?_⟩
      simp only [Int.toNat_natCast]
      refine ⟨fallOf D.falls[k], rfl, hat, ?_⟩
      refine cR_of (rcrash_ok w22 _ _ (hT (hx7.trans hx22)) (tick_wf hwf hch) (fun k hk => hBn k (Nat.le_trans (hx7.trans hx22).size hk)) D.falls[k] (hwf.keep _ (List.getElem_mem hkl))) ?_
      rintro x29 w30 ⟨hA30, hx30⟩
      have hxx := hx22.trans hx30
      refine put_ans hA30 (hR7.ext hxx) fun w31 hA31 hB31 hf31 => ?_
      refine ⟨x29, hA31.len, hB31.at (by rw [List.drop_zero, List.take_length]), ?_⟩
      rw [strike_some hfind]
      exact ⟨rfl, hA31, hf31.ext (hx7.trans hxx) fun k _ e => by rw [e]; omega⟩
    · have hne := of_decide_eq_false hne
      rw [w64_eq (by omega) (by omega)]
      refine ⟨⟨trivial, k + 1, by omega, by omega, ?_⟩, by omega⟩
      rw [List.take_succ_eq_append_getElem hkl, List.find?_append, hno]
      simp [hne]
  · have hge : k = D.falls.length := by have := of_decide_eq_false hge; omega
    subst hge
    rw [List.take_length] at hno
    refine ⟨rc ss sp sf ((D.changes : Int) + 1) D.down, rfl, hB7.at rfl, ?_⟩
    refine put_ans (hT hx7) hR7 fun w31 hA31 hB31 hf31 => ?_
    refine ⟨rc ss sp sf ((D.changes : Int) + 1) D.down, rfl, hB31.at rfl, ?_⟩
    rw [strike_none hno]
    exact ⟨rfl, hA31, hf31.ext hx7 fun k _ e => by rw [e]; omega⟩
end Go.Proofs.Ytagkcbbbdlmcjaa
end
