/- A region that draws its order: what only reads may be taken first, the rest comes up alone; what was there when the region began stays as it was as long as something is still to be read. -/
import Derived.Test.YtagkcbbbdlmcjaaLiftSh
set_option linter.unusedVariables false
set_option linter.unusedSimpArgs false
namespace Go.Lift
open Go.RowKit
/-- All that was there is as it was; there may be more. -/
abbrev Ext (w w' : World) : Prop := Below w.heap.size w w'
theorem Ext.refl (w : World) : Ext w w := Below.refl _ _
theorem Ext.trans {a b c : World} (h : Ext a b) (k : Ext b c) : Ext a c := Below.trans h (Below.mono k h.size)
theorem Ext.cell {w w' : World} (h : Ext w w') {a : Addr} {v : Value} (hc : w.cell? a = some v) : w'.cell? a = some v :=
  (Below.cell h (World.block_lt_of_cell? w a hc)).trans hc
theorem Ext.at {w w' : World} (h : Ext w w') {a : Addr} {cs : List Value} (hc : At w a cs) : At w' a cs := fun j v hj => Ext.cell h (hc j v hj)
theorem Ext.atO {w w' : World} (h : Ext w w') {a : Option Addr} {cs : List Value} (hc : AtO w a cs) : AtO w' a cs := by
  cases a with
  | none => exact hc
  | some a => exact Ext.at h hc
theorem Ext.drew (w : World) : Ext w w.drew := ⟨rfl, rfl, rfl, Nat.le_refl _, fun _ _ => rfl⟩
theorem Ext.alloc {w0 w : World} (h : Ext w0 w) (o : Obj) : Ext w0 (w.alloc o) := Below.alloc h h.size o
theorem Ext.heap {w w' : World} (h : Ext w w') {b : Nat} {o : Obj} (hb : w.heap[b]? = some o) : w'.heap[b]? = some o :=
  (h.block b (Array.getElem?_eq_some_iff.1 hb).1).trans hb

/-- A part of a region that may come up before or behind others: what it leaves lasts as long as nothing is written. -/
def nd {δ α : Type} (w1 : World) (pre : δ → World → Prop) (step : δ → (α → World → Prop) → World → Prop) (k : (δ → α → World → Prop) → Prop) : Prop :=
  ∃ F : δ → α → World → Prop, (∀ d x a b, Ext a b → F d x a → F d x b) ∧ (∀ d w, Ext w1 w → pre d w → step d (fun x w' => Ext w w' ∧ F d x w') w) ∧ k F

/-- The same but for a block, which may be written. -/
def ExtB (b : Option Nat) (w w' : World) : Prop := w.heap.size ≤ w'.heap.size ∧ ∀ k, k < w.heap.size → some k ≠ b → w'.heap[k]? = w.heap[k]?
theorem ExtB.of {b : Option Nat} {w w' : World} (h : Ext w w') : ExtB b w w' := ⟨h.size, fun k hk _ => h.block k hk⟩
theorem ExtB.trans_ext {b : Option Nat} {w0 w w' : World} (h : ExtB b w0 w) (k : Ext w w') : ExtB b w0 w' :=
  ⟨Nat.le_trans h.1 k.size, fun i hi hne => (k.block i (Nat.lt_of_lt_of_le hi h.1)).trans (h.2 i hi hne)⟩
theorem ExtB.cell {b : Option Nat} {w w' : World} (h : ExtB b w w') {a : Addr} {v : Value} (hne : some a.block ≠ b) (hc : w.cell? a = some v) : w'.cell? a = some v :=
  (World.cell?_of_block (h.2 a.block (World.block_lt_of_cell? w a hc) hne)).trans hc
theorem add_block (a : Addr) (n : Nat) : (a.add n).block = a.block := by unfold Addr.add; split <;> rfl
theorem ExtB.at {b : Option Nat} {w w' : World} (h : ExtB b w w') {a : Addr} {cs : List Value} (hne : some a.block ≠ b) (hc : At w a cs) : At w' a cs := fun j v hj => h.cell (by rw [add_block]; exact hne) (hc j v hj)
theorem ExtB.atO {b : Option Nat} {w w' : World} (h : ExtB b w w') {a : Option Addr} {cs : List Value} (hne : ∀ x, a = some x → some x.block ≠ b) (hc : AtO w a cs) : AtO w' a cs := by
  cases a with
  | none => exact hc
  | some a => exact h.at (hne a rfl) hc
theorem ExtB.setCell {b : Option Nat} {w0 w : World} (h : ExtB b w0 w) {a : Addr} {v : Value} (hb : some a.block = b) : ExtB b w0 (w.setCell a v) :=
  ⟨by simpa [World.setCell] using h.1, fun k hk hne => (Below.heap_setCell w a v k (fun e => hne (by rw [e]; exact hb))).trans (h.2 k hk hne)⟩
theorem ExtB.setRow {b : Option Nat} {w0 w : World} (h : ExtB b w0 w) {g : Nat} {cs : Array Value} (hb : some g = b) : ExtB b w0 (w.setRow g cs) := by
  refine ⟨by simpa [World.setRow] using h.1, fun k hk hne => Eq.trans ?_ (h.2 k hk hne)⟩
  unfold World.setRow
  simp only [Array.getElem?_modify]
  rw [if_neg (fun e => hne (by rw [← e]; exact hb))]

def anc (ops : Array Oper) : Nat → Nat → Nat → Bool
  | 0, _, _ => false
  | f + 1, j, i => match ops[j]? with
    | none => false
    | some o => o.after.any (fun e => Region.binds .any e && e.on == i) || o.after.any (fun e => Region.binds .any e && anc ops f e.on i)
def keepOk (ops : Array Oper) (keep : List Nat) (i : Nat) : Bool := (List.range ops.size).all fun j => j == i || keep.contains j || anc ops ops.size j i
/-- What has come up is closed downward. -/
def DC (ops : Array Oper) (listed : Array Bool) : Prop := ∀ k o, ops[k]? = some o → listed.getD k false = true → ∀ e ∈ o.after, Region.binds .any e = true → listed.getD e.on false = true

theorem getD_tf {listed : Array Bool} {i : Nat} (h : listed.getD i false = true) : listed.getD i true = true := by
  rcases Nat.lt_or_ge i listed.size with h' | h'
  · simp [h'] at h ⊢; exact h
  · simp [Array.getElem?_eq_none h'] at h
theorem getD_ft {listed : Array Bool} {i : Nat} (h : listed.getD i true = false) : listed.getD i false = false := by
  rcases Nat.lt_or_ge i listed.size with h' | h'
  · simp [h'] at h ⊢; exact h
  · simp [Array.getElem?_eq_none h'] at h

theorem anc_listed {ops : Array Oper} {listed : Array Bool} (hDC : DC ops listed) {i : Nat} : ∀ (f j : Nat), (∀ o, ops[j]? = some o → ∀ e ∈ o.after, Region.binds .any e = true → listed.getD e.on false = true) →
    anc ops f j i = true → listed.getD i false = true
  | 0, _, _, h => by simp [anc] at h
  | f + 1, j, hj, h => by
    unfold anc at h
    split at h
    · simp at h
    · rename_i o ho
      rw [Bool.or_eq_true] at h
      rcases h with h | h
      · obtain ⟨e, he, hb⟩ := Array.any_eq_true'.1 h
        simp only [Bool.and_eq_true, beq_iff_eq] at hb
        have := hj o ho e he hb.1
        rwa [hb.2] at this
      · obtain ⟨e, he, hb⟩ := Array.any_eq_true'.1 h
        simp only [Bool.and_eq_true] at hb
        have hl := hj o ho e he hb.1
        exact anc_listed hDC f e.on (fun o' ho' e' he' hb' => hDC e.on o' ho' hl e' he' hb') hb.2

theorem DC.set {ops : Array Oper} {listed : Array Bool} {i : Nat} (h : DC ops listed) (hr : i ∈ Region.ready .any ops listed) : DC ops (listed.setIfInBounds i true) := by
  intro k o ho hk e he hb
  obtain ⟨_, oi, hoi, hall⟩ := mem_ready.1 hr
  by_cases e1 : i = k
  · subst e1
    rw [hoi] at ho
    cases ho
    exact getD_set_true (hall e he hb)
  · rw [getD_set_ne false e1] at hk
    exact getD_set_true (h k o ho hk e he hb)
theorem DC.start (ops : Array Oper) (n : Nat) : DC ops (Array.replicate n false) := by
  intro k o _ hk
  simp at hk
  rcases Nat.lt_or_ge k n with h | h
  · simp [h] at hk
  · simp [Array.getElem?_eq_none (show (Array.replicate n false).size ≤ k by simpa using h)] at hk

def wpAnyK (P : Program) (ops : Array Oper) (Q : Exit → Act → World → Prop) (keep : List Nat) (S : World → Prop) : Nat → Array Bool → Act → World → Prop
  | 0, listed, a, w => Region.ready .any ops listed = [] ∧ Q .normal a w
  | fuel + 1, listed, a, w =>
    (Region.ready .any ops listed = [] → Q .normal a w) ∧
    ∀ i ∈ Region.ready .any ops listed, wpOp P ops Q i (fun a' w' => (keep.contains i = true → S w → S w') ∧ wpAnyK P ops Q keep S fuel (listed.setIfInBounds i true) a' w') a w

section
variable {P : Program} {ops : Array Oper} {Q : Exit → Act → World → Prop} {keep : List Nat} {S : World → Prop}
theorem wpAny_of_K : ∀ (fuel : Nat) (listed : Array Bool) (a : Act) (w : World), wpAnyK P ops Q keep S fuel listed a w → wpAny P .any ops Q fuel listed a w
  | 0, _, _, _, h => h
  | fuel + 1, _, _, _, h => ⟨h.1, fun i hi => wpOp_mono (fun a' w' h' => wpAny_of_K fuel _ a' w' h'.2) (h.2 i hi)⟩

theorem keepOk_spec {i : Nat} (h : keepOk ops keep i = true) {j : Nat} (hj : j < ops.size) (hne : j ≠ i) (hk : keep.contains j = false) : anc ops ops.size j i = true := by
  unfold keepOk at h
  rw [List.all_eq_true] at h
  have := h j (List.mem_range.2 hj)
  simp only [Bool.or_eq_true, beq_iff_eq, hne, false_or, hk, Bool.false_eq_true] at this
  exact this

theorem wpAnyK_first {i : Nat} {oi : Oper} {v : Value} {T : World → Prop} (hi : ops[i]? = some oi) (hsel : ∀ (j : Nat) (o : Oper) cs b, ops[j]? = some o → o.op ≠ .select cs b)
    (hQ : ∀ c a w, Q (.panic c) (a.put oi.dst v) w → Q (.panic c) a w) (b : Bool) (hb : b = true → keepOk ops keep i = true) (hT : (∀ w, T w) ∨ (b = true ∧ ∀ w, S w → T w)) :
    ∀ (fuel : Nat) (listed : Array Bool) (a : Act) (w : World), DC ops listed →
      (∀ j oj, ops[j]? = some oj → j ≠ i → listed.getD j true = false → (∀ e ∈ oj.after, Region.binds .any e = true → e.on ≠ i) → oi.apart ops oj = true) →
      i ∈ Region.ready .any ops listed → YieldsIf P ops T oi v a → (b = true → S w) →
      wpAnyK P ops Q keep S fuel (listed.setIfInBounds i true) (a.put oi.dst v) w → wpAnyK P ops Q keep S (fuel + 1) listed a w := by
  intro fuel
  induction fuel with
  | zero =>
    intro listed a w hDC _ hr hy hS H
    refine ⟨fun h => (by rw [h] at hr; cases hr), fun j hj => ?_⟩
    by_cases hji : j = i
    · subst hji
      refine hy.wpOp hi ?_ ⟨fun _ h => h, H⟩
      rcases hT with hT | ⟨hd, hT⟩
      · exact hT w
      · exact hT w (hS hd)
    · have := ready_mono hj hji
      rw [H.1] at this
      cases this
  | succ fuel ih =>
    intro listed a w hDC hfree hr hy hS H
    refine ⟨fun h => (by rw [h] at hr; cases hr), fun j hj => ?_⟩
    by_cases hji : j = i
    · subst hji
      refine hy.wpOp hi ?_ ⟨fun _ h => h, H⟩
      rcases hT with hT | ⟨hd, hT⟩
      · exact hT w
      · exact hT w (hS hd)
    · have h1 := H.2 j (ready_mono hj hji)
      obtain ⟨hjun, oj, hoj, hall⟩ := mem_ready.1 hj
      have hiun : listed.getD i true = false := (mem_ready.1 hr).1
      have hnot : ∀ e ∈ oj.after, Region.binds .any e = true → e.on ≠ i := fun e he hb heq => by
        have h1 := hall e he hb
        rw [heq, getD_ft hiun] at h1
        cases h1
      have hjlt : j < ops.size := (Array.getElem?_eq_some_iff.1 hoj).1
      have notAnc : anc ops ops.size j i = true → False := fun ha => by
        have := anc_listed hDC ops.size j (fun o ho e he hb => by rw [hoj] at ho; cases ho; exact hall e he hb) ha
        rw [getD_ft hiun] at this
        cases this
      have h2 := wpOp_putIf hoj (hfree j oj hoj hji hjun hnot) (fun cs b => hsel i oi cs b hi) (fun cs b => hsel j oj cs b hoj) hQ hy h1
      have hfree' : ∀ k ok, ops[k]? = some ok → k ≠ i → (listed.setIfInBounds j true).getD k true = false →
          (∀ e ∈ ok.after, Region.binds .any e = true → e.on ≠ i) → oi.apart ops ok = true := fun k ok hk hki hun hno => by
        refine hfree k ok hk hki ?_ hno
        by_cases hjk : j = k
        · subst hjk; exact hjun
        · rw [getD_set_ne true hjk] at hun; exact hun
      refine wpOp_mono (fun a' w' h3 => ?_) h2
      have hS' : b = true → S w' := fun h => by
        cases hkj : keep.contains j with
        | true => exact h3.2.1 hkj (hS h)
        | false => exact (notAnc (keepOk_spec (hb h) hjlt hji hkj)).elim
      exact ⟨h3.2.1, ih (listed.setIfInBounds j true) a' w' (hDC.set hj) hfree' (ready_mono hr (Ne.symm hji)) h3.1 hS' (by rw [Array.setIfInBounds_comm _ _ hji]; exact h3.2.2)⟩
end

/-! ### over typed values -/
def quietOp : Op → Bool
  | .move _ | .assign _ | .pick .. | .load .. | .nilCheck _ | .binOp .. | .unOp .. | .convert .. | .slice .. | .fieldAddr .. | .indexAddr .. | .index .. | .extract .. | .build .. => true
  | .call { callee := .builtin .len, .. } | .call { callee := .builtin .min, .. } | .call { callee := .builtin .max, .. } => true
  | _ => false
theorem quiet_value {P : Program} {ρ : Operand → Value} {o : Oper} (h : quietOp o.op = true) (w : World) {nx : Next} {w' : World} (hr : (execOp ρ o).run P w = .ok nx w') : ∃ v, nx = .value v := by
  obtain ⟨dst, op, type, pos, after, guard⟩ := o
  have bindv : ∀ (s : Sem Value), ((do pure (.value (← s)) : Sem Next)).run P w = .ok nx w' → ∃ v, nx = .value v := fun s hs => by
    rw [Sem.run_bind] at hs
    cases hr : s.run P w with
    | ok x w2 => rw [hr] at hs; simp only [Result.andThen_ok, Sem.run_pure, Result.ok.injEq] at hs; exact ⟨x, hs.1.symm⟩
    | halt x w2 => rw [hr] at hs; simp [Result.andThen] at hs
  cases op <;> simp only [quietOp, Bool.false_eq_true] at h <;> simp only [execOp] at hr
  case nilCheck x =>
    split at hr
    · exact absurd hr (by simp [runtimePanic, program, Sem.run, goPanic])
    · exact absurd hr (by simp [runtimePanic, program, Sem.run, goPanic])
    · exact absurd hr (by simp [runtimePanic, program, Sem.run, goPanic])
    · rename_i name first captured _
      split at hr
      · exact absurd hr (by simp [runtimePanic, program, Sem.run, goPanic])
      · rename_i t w2 _
        simp only [Sem.run_bind] at hr
        cases h1 : (program : Sem Program).run P w with
        | halt x w3 => rw [h1] at hr; simp [Result.andThen] at hr
        | ok p w3 =>
          rw [h1] at hr
          simp only [Result.andThen_ok] at hr
          cases h2 : (nilAhead (p.types.size + Made.depth) t w2 name).run P w3 with
          | halt x w4 => rw [h2] at hr; simp [Result.andThen] at hr
          | ok b w4 =>
            rw [h2] at hr
            simp only [Result.andThen_ok] at hr
            split at hr
            · simp [unsupported, Sem.run, Result.andThen] at hr
            · simp only [Sem.run_pure, Result.andThen_ok, Result.ok.injEq] at hr
              exact ⟨_, hr.1.symm⟩
      · simp only [Sem.run_pure, Result.ok.injEq] at hr; exact ⟨_, hr.1.symm⟩
    · simp only [Sem.run_pure, Result.ok.injEq] at hr; exact ⟨_, hr.1.symm⟩
  case call c =>
    obtain ⟨callee, args, argTypes⟩ := c
    cases callee with
    | value f => simp at h
    | invoke r m => simp at h
    | builtin b =>
      cases b <;> simp only [Bool.false_eq_true] at h
      all_goals
        simp only [resolve, Sem.run_bind, Sem.run_pure, Result.andThen_ok, invoke, builtin] at hr
        exact bindv _ (by rw [Sem.run_bind]; exact hr)
  case pick c x y =>
    rw [Sem.run_bind] at hr
    cases h1 : (asBool (ρ c)).run P w with
    | ok b w2 => rw [h1] at hr; simp only [Result.andThen_ok, Sem.run_pure, Result.ok.injEq] at hr; exact ⟨_, hr.1.symm⟩
    | halt x w2 => rw [h1] at hr; simp [Result.andThen] at hr
  all_goals first
    | (exact bindv _ hr)
    | (simp only [Sem.run_pure, Result.ok.injEq] at hr; exact ⟨_, hr.1.symm⟩)

/-- the state of a region that draws, over typed values -/
def DL (P : Program) (n : Nat) (ops : Array Oper) (Q : Exit → Env → World → Prop) (keep : List Nat) (S : World → Prop) (fuel : Nat) (listed : Array Bool) (ρ : Env) (w : World) : Prop :=
  DC ops listed → ∀ a : Act, a.tmps.size = n → a.defers = [] → envOf a = ρ → wpAnyK P ops (lift n Q) keep S fuel listed a w

section
variable {P : Program} {n : Nat} {ops : Array Oper} {Q : Exit → Env → World → Prop} {keep : List Nat} {S : World → Prop} {fuel : Nat} {listed listed' : Array Bool} {ρ : Env} {w : World}

theorem CW.draws {id m : Nat} {l : List Oper} (hm : P.follows .mixedOrders = true) (keep : List Nat) (S : World → Prop) (hl : l.length = m) (hL : Array.replicate m false = listed)
    (h : DL P n l.toArray Q keep S m listed ρ w.drew) : CW P n (.region id l.toArray true) Q ρ w := fun a hs hd he => by
  subst hl
  subst hL
  refine wp_region_any hm ?_
  have := wpAny_of_K _ _ _ _ (h (DC.start _ _) a hs hd he)
  rw [List.size_toArray]
  exact this

def side (ops : Array Oper) (listed : Array Bool) (i : Nat) : Bool := Region.noSelect ops && Region.free .any ops listed i && (Region.ready .any ops listed).contains i

theorem put_env {a : Act} {d : Nat} {v : Value} (hs : a.tmps.size = n) (hd : Nat.blt d n = true) : envOf (a.put (some d) v) = upd (envOf a) d v :=
  env_put (by rw [hs]; exact Nat.le_of_ble_eq_true hd)

theorem yields_of {T : World → Prop} {d : Nat} {op : Op} {ty : TypeId} {pos : String} {after : Array Edge} {g : Option (Nat × Bool)} {v : Value} {a : Act} (hq : quietOp op = true) (hw : Wanted ops (envOf a) g)
    (hy : ∀ w', T w' → ∀ K : Value → World → Prop, K v w' → OpW P op ty (envOf a) K w') : YieldsIf P ops T ⟨some d, op, ty, pos, after, g⟩ v a := by
  refine .inl ⟨Wanted.wanted (o := ⟨some d, op, ty, pos, after, g⟩) hw, fun w' hT => ?_⟩
  have h := hy w' hT (fun v' w'' => v' = v ∧ w'' = w') ⟨rfl, rfl⟩
  unfold OpW at h
  rw [eval_env, execOp_strip]
  generalize hr : (execOp (ev (envOf a)) ⟨none, op, ty, "", #[], none⟩).run P w' = r at h
  cases r with
  | halt x w2 => exact h.elim
  | ok nx w2 =>
    obtain ⟨v', rfl⟩ := quiet_value (o := ⟨none, op, ty, "", #[], none⟩) hq w' hr
    obtain ⟨rfl, rfl⟩ := h
    rfl

theorem DL.takeK {d : Nat} {op : Op} {ty : TypeId} {pos : String} {after : Array Edge} {g : Option (Nat × Bool)} {v : Value} (i : Nat) (hi : ops[i]? = some ⟨some d, op, ty, pos, after, g⟩) (hq : quietOp op = true)
    (hc : side ops listed i = true) (hk : keepOk ops keep i = true) (hl : listed.setIfInBounds i true = listed') (hw : Wanted ops ρ g) (hd : Nat.blt d n = true) (hS : S w)
    (hy : ∀ w', S w' → ∀ K : Value → World → Prop, K v w' → OpW P op ty ρ K w') (h : DL P n ops Q keep S fuel listed' (upd ρ d v) w) : DL P n ops Q keep S (fuel + 1) listed ρ w := by
  intro hDC a hs hdf he
  subst he
  subst hl
  simp only [side, Bool.and_eq_true] at hc
  have hr : i ∈ Region.ready .any ops listed := by simpa using hc.2
  refine wpAnyK_first hi (Region.noSelect_spec hc.1.1) (fun _ _ _ h => h) true (fun _ => hk) (.inr ⟨rfl, fun _ h => h⟩) fuel listed a w hDC (Region.free_spec hi hc.1.2) hr (yields_of hq hw hy) (fun _ => hS) ?_
  exact h (hDC.set hr) _ ((put_size _ _ _).trans hs) ((put_defers _ _ _).trans hdf) (put_env hs hd)

theorem DL.takeP {d : Nat} {op : Op} {ty : TypeId} {pos : String} {after : Array Edge} {g : Option (Nat × Bool)} {v : Value} (i : Nat) (hi : ops[i]? = some ⟨some d, op, ty, pos, after, g⟩) (hq : quietOp op = true)
    (hc : side ops listed i = true) (hl : listed.setIfInBounds i true = listed') (hw : Wanted ops ρ g) (hd : Nat.blt d n = true)
    (hy : ∀ w', ∀ K : Value → World → Prop, K v w' → OpW P op ty ρ K w') (h : DL P n ops Q keep S fuel listed' (upd ρ d v) w) : DL P n ops Q keep S (fuel + 1) listed ρ w := by
  intro hDC a hs hdf he
  subst he
  subst hl
  simp only [side, Bool.and_eq_true] at hc
  have hr : i ∈ Region.ready .any ops listed := by simpa using hc.2
  refine wpAnyK_first (T := fun _ => True) hi (Region.noSelect_spec hc.1.1) (fun _ _ _ h => h) false (fun h => by cases h) (.inl fun _ => trivial) fuel listed a w hDC (Region.free_spec hi hc.1.2) hr (yields_of hq hw (fun w' _ => hy w'))
    (fun h => by cases h) ?_
  exact h (hDC.set hr) _ ((put_size _ _ _).trans hs) ((put_defers _ _ _).trans hdf) (put_env hs hd)

theorem DL.skipP {d : Nat} {op : Op} {ty : TypeId} {pos : String} {after : Array Edge} {g : Option (Nat × Bool)} (i : Nat) (hi : ops[i]? = some ⟨some d, op, ty, pos, after, g⟩)
    (hc : side ops listed i = true) (hl : listed.setIfInBounds i true = listed') (hw : NotWanted ops ρ g) (hd : Nat.blt d n = true)
    (h : DL P n ops Q keep S fuel listed' (upd ρ d undef) w) : DL P n ops Q keep S (fuel + 1) listed ρ w := by
  intro hDC a hs hdf he
  subst he
  subst hl
  simp only [side, Bool.and_eq_true] at hc
  have hr : i ∈ Region.ready .any ops listed := by simpa using hc.2
  refine wpAnyK_first (T := fun _ => True) hi (Region.noSelect_spec hc.1.1) (fun _ _ _ h => h) false (fun h => by cases h) (.inl fun _ => trivial) fuel listed a w hDC (Region.free_spec hi hc.1.2) hr
    (.inr ⟨NotWanted.wanted (o := ⟨some d, op, ty, pos, after, g⟩) hw, rfl⟩)
    (fun h => by cases h) ?_
  exact h (hDC.set hr) _ ((put_size _ _ _).trans hs) ((put_defers _ _ _).trans hdf) (put_env hs hd)

theorem DL.execS {d : Nat} {op : Op} {ty : TypeId} {pos : String} {after : Array Edge} {g : Option (Nat × Bool)} (i : Nat) (hi : ops[i]? = some ⟨some d, op, ty, pos, after, g⟩)
    (hr : Region.ready .any ops listed = [i]) (hl : listed.setIfInBounds i true = listed') (hw : Wanted ops ρ g) (hd : Nat.blt d n = true)
    (h : OpW P op ty ρ (fun v w' => (keep.contains i = true → S w → S w') ∧ DL P n ops Q keep S fuel listed' (upd ρ d v) w') w) : DL P n ops Q keep S (fuel + 1) listed ρ w := by
  intro hDC a hs hdf he
  subst he
  subst hl
  have hmem : i ∈ Region.ready .any ops listed := by rw [hr]; simp
  refine And.intro (fun h0 => by rw [hr] at h0; cases h0) (fun j hj => ?_)
  rw [hr] at hj
  have hji : j = i := by simpa using hj
  subst hji
  unfold wpOp
  simp only [hi]
  rw [if_pos (Wanted.wanted (o := ⟨some d, op, ty, pos, after, g⟩) hw)]
  refine .inl (OpW.wp (o := ⟨some d, op, ty, pos, after, g⟩) h fun v w' hk => ⟨hk.1, ?_⟩)
  exact hk.2 (hDC.set hmem) _ ((put_size _ _ _).trans hs) ((put_defers _ _ _).trans hdf) (put_env hs hd)

theorem DL.execN {op : Op} {ty : TypeId} {pos : String} {after : Array Edge} {g : Option (Nat × Bool)} (i : Nat) (hi : ops[i]? = some ⟨none, op, ty, pos, after, g⟩)
    (hr : Region.ready .any ops listed = [i]) (hl : listed.setIfInBounds i true = listed') (hw : Wanted ops ρ g)
    (h : OpW P op ty ρ (fun _ w' => (keep.contains i = true → S w → S w') ∧ DL P n ops Q keep S fuel listed' ρ w') w) : DL P n ops Q keep S (fuel + 1) listed ρ w := by
  intro hDC a hs hdf he
  subst he
  subst hl
  have hmem : i ∈ Region.ready .any ops listed := by rw [hr]; simp
  refine And.intro (fun h0 => by rw [hr] at h0; cases h0) (fun j hj => ?_)
  rw [hr] at hj
  have hji : j = i := by simpa using hj
  subst hji
  unfold wpOp
  simp only [hi]
  rw [if_pos (Wanted.wanted (o := ⟨none, op, ty, pos, after, g⟩) hw)]
  refine .inl (OpW.wp (o := ⟨none, op, ty, pos, after, g⟩) h fun v w' hk => ⟨hk.1, ?_⟩)
  exact hk.2 (hDC.set hmem) _ hs hdf rfl

theorem DL.skipX {d : Nat} {op : Op} {ty : TypeId} {pos : String} {after : Array Edge} {g : Option (Nat × Bool)} (i : Nat) (hi : ops[i]? = some ⟨some d, op, ty, pos, after, g⟩)
    (hr : Region.ready .any ops listed = [i]) (hl : listed.setIfInBounds i true = listed') (hw : NotWanted ops ρ g) (hd : Nat.blt d n = true)
    (h : DL P n ops Q keep S fuel listed' (upd ρ d undef) w) : DL P n ops Q keep S (fuel + 1) listed ρ w := by
  intro hDC a hs hdf he
  subst he
  subst hl
  have hmem : i ∈ Region.ready .any ops listed := by rw [hr]; simp
  refine And.intro (fun h0 => by rw [hr] at h0; cases h0) (fun j hj => ?_)
  rw [hr] at hj
  have hji : j = i := by simpa using hj
  subst hji
  unfold wpOp
  simp only [hi]
  rw [if_neg (by rw [NotWanted.wanted (o := ⟨some d, op, ty, pos, after, g⟩) hw]; simp)]
  exact ⟨fun _ h => h, h (hDC.set hmem) _ ((put_size _ _ _).trans hs) ((put_defers _ _ _).trans hdf) (put_env hs hd)⟩

/-- one of several that may come up -/
def DLop (P : Program) (n : Nat) (ops : Array Oper) (Q : Exit → Env → World → Prop) (keep : List Nat) (S : World → Prop) (fuel : Nat) (listed : Array Bool) (ρ : Env) (w : World) (i : Nat) : Prop :=
  i ∈ Region.ready .any ops listed → DC ops listed → ∀ a : Act, a.tmps.size = n → a.defers = [] → envOf a = ρ →
    wpOp P ops (lift n Q) i (fun a' w' => (keep.contains i = true → S w → S w') ∧ wpAnyK P ops (lift n Q) keep S fuel (listed.setIfInBounds i true) a' w') a w
theorem DL.branch (l : List Nat) (hr : Region.ready .any ops listed = l) (hne : l.isEmpty = false) (h : ∀ i ∈ l, DLop P n ops Q keep S fuel listed ρ w i) : DL P n ops Q keep S (fuel + 1) listed ρ w := by
  intro hDC a hs hdf he
  refine And.intro (fun h0 => by rw [hr] at h0; subst h0; cases hne) (fun j hj => ?_)
  exact h j (by rwa [hr] at hj) hj hDC a hs hdf he
theorem all_nil {p : Nat → Prop} : ∀ i ∈ ([] : List Nat), p i := fun i h => by cases h
theorem all_cons {p : Nat → Prop} {x : Nat} {l : List Nat} (h1 : p x) (h2 : ∀ i ∈ l, p i) : ∀ i ∈ x :: l, p i := fun i h => by
  rcases List.mem_cons.1 h with rfl | h
  · exact h1
  · exact h2 i h
theorem DLop.execS {d : Nat} {op : Op} {ty : TypeId} {pos : String} {after : Array Edge} {g : Option (Nat × Bool)} {i : Nat} (hi : ops[i]? = some ⟨some d, op, ty, pos, after, g⟩)
    (hl : listed.setIfInBounds i true = listed') (hw : Wanted ops ρ g) (hd : Nat.blt d n = true)
    (h : OpW P op ty ρ (fun v w' => (keep.contains i = true → S w → S w') ∧ DL P n ops Q keep S fuel listed' (upd ρ d v) w') w) : DLop P n ops Q keep S fuel listed ρ w i := by
  intro hmem hDC a hs hdf he
  subst he
  subst hl
  unfold wpOp
  simp only [hi]
  rw [if_pos (Wanted.wanted (o := ⟨some d, op, ty, pos, after, g⟩) hw)]
  refine .inl (OpW.wp (o := ⟨some d, op, ty, pos, after, g⟩) h fun v w' hk => ⟨hk.1, ?_⟩)
  exact hk.2 (hDC.set hmem) _ ((put_size _ _ _).trans hs) ((put_defers _ _ _).trans hdf) (put_env hs hd)

theorem DL.done (hr : Region.ready .any ops listed = []) (h : Q .normal ρ w) : DL P n ops Q keep S fuel listed ρ w := by
  intro hDC a hs hdf he
  subst he
  cases fuel with
  | zero => exact ⟨hr, hs, hdf, h⟩
  | succ f => exact ⟨fun _ => ⟨hs, hdf, h⟩, by rw [hr]; simp⟩

theorem DL.state (T : Env → World → Prop) (fuel' : Nat) (listed' : Array Bool) (h1 : ∀ ρ w, T ρ w → DL P n ops Q keep S fuel' listed' ρ w)
    (h2 : (∀ ρ w, T ρ w → DL P n ops Q keep S fuel' listed' ρ w) → DL P n ops Q keep S fuel listed ρ w) : DL P n ops Q keep S fuel listed ρ w := h2 h1
theorem DL.cutS {A : Type} (E : A → Env → Prop) (k : A → World → Prop) (fuel' : Nat) (listed' : Array Bool) (h1 : ∀ s ρ w, E s ρ → S w → k s w → DL P n ops Q keep S fuel' listed' ρ w)
    (h2 : (∀ ρ w, (∃ s, E s ρ ∧ S w ∧ k s w) → DL P n ops Q keep S fuel' listed' ρ w) → DL P n ops Q keep S fuel listed ρ w) : DL P n ops Q keep S fuel listed ρ w :=
  h2 fun ρ w ⟨s, hE, hS, hk⟩ => h1 s ρ w hE hS hk
theorem DL.cut {A : Type} (E : A → Env → Prop) (k : A → World → Prop) (fuel' : Nat) (listed' : Array Bool) (h1 : ∀ s ρ w, E s ρ → k s w → DL P n ops Q keep S fuel' listed' ρ w)
    (h2 : (∀ ρ w, (∃ s, E s ρ ∧ k s w) → DL P n ops Q keep S fuel' listed' ρ w) → DL P n ops Q keep S fuel listed ρ w) : DL P n ops Q keep S fuel listed ρ w :=
  h2 fun ρ w ⟨s, hE, hk⟩ => h1 s ρ w hE hk
end
end Go.Lift
