/- The rules by which a Go function's code is read as a predicate transformer over typed values: soundness of each step, once for all programs. -/
import Derived.OrdersHeld
import Derived.Deep.LoopGhost
import Derived.Tactics
import Derived.Below
import Derived.Laws.AppendOwn
import Derived.KernelRfl
set_option linter.unusedVariables false
set_option linter.unusedSimpArgs false
namespace Go.Lift

abbrev Env := Nat → Value
def upd (ρ : Env) (d : Nat) (v : Value) : Env := fun i => cond (Nat.beq i d) v (ρ i)
def ev (ρ : Env) : Operand → Value
  | .tmp t => ρ t
  | .const v => v
  | .global g => .pointer (some ⟨g, 0, none⟩)
  | .func f => .func (.func f) #[] #[]
def envOf (a : Act) : Env := fun i => a.tmps.getD i undef

theorem eval_env (a : Act) : a.eval = ev (envOf a) := funext fun x => by cases x <;> rfl

theorem env_put {a : Act} {d : Nat} {v : Value} (h : d < a.tmps.size) : envOf (a.put (some d) v) = upd (envOf a) d v := by
  funext i
  simp only [envOf, Act.put, upd]
  by_cases e : i = d
  · subst e
    simp [h]
  · have : Nat.beq i d = false := by
      cases hb : Nat.beq i d
      · rfl
      · exact absurd (Nat.eq_of_beq_eq_true hb) e
    simp only [this, cond]
    simp [Array.getElem?_setIfInBounds_ne (Ne.symm e)]

theorem put_size (a : Act) (d : Option Tmp) (v : Value) : (a.put d v).tmps.size = a.tmps.size := by
  cases d <;> simp [Act.put]
theorem put_defers (a : Act) (d : Option Tmp) (v : Value) : (a.put d v).defers = a.defers := by
  cases d <;> rfl

def Wanted (ops : Array Oper) (ρ : Env) : Option (Nat × Bool) → Prop
  | none => True
  | some (j, want) => ∃ t, (ops[j]?).bind (·.dst) = some t ∧ ρ t = .bool want
def NotWanted (ops : Array Oper) (ρ : Env) : Option (Nat × Bool) → Prop
  | none => False
  | some (j, want) => ∃ t, (ops[j]?).bind (·.dst) = some t ∧ (ρ t = .bool (!want) ∨ ρ t = undef)

theorem yielded_bool {ops : Array Oper} {tmps : Array Value} {j t : Nat} {b : Bool} (h : (ops[j]?).bind (·.dst) = some t) (h1 : tmps.getD t undef = .bool b) : yielded ops tmps j = some b := by
  unfold yielded
  rw [h]
  simp only [Option.bind_some]
  cases ht : tmps[t]? with
  | none => rw [Array.getD_eq_getD_getElem?, ht] at h1; simp [undef] at h1
  | some v => rw [Array.getD_eq_getD_getElem?, ht] at h1; simp at h1; subst h1; rfl
theorem yielded_undef {ops : Array Oper} {tmps : Array Value} {j t : Nat} (h : (ops[j]?).bind (·.dst) = some t) (h1 : tmps.getD t undef = undef) : yielded ops tmps j = none := by
  unfold yielded
  rw [h]
  simp only [Option.bind_some]
  cases ht : tmps[t]? with
  | none => rfl
  | some v => rw [Array.getD_eq_getD_getElem?, ht] at h1; simp at h1; subst h1; rfl
theorem Wanted.wanted {ops : Array Oper} {a : Act} {o : Oper} (h : Wanted ops (envOf a) o.guard) : Region.wanted o (yielded ops a.tmps) = true := by
  unfold Region.wanted
  cases hg : o.guard with
  | none => rfl
  | some g =>
    obtain ⟨j, want⟩ := g
    rw [hg] at h
    obtain ⟨t, h1, h2⟩ := h
    show (yielded ops a.tmps j == some want) = true
    rw [yielded_bool h1 h2]
    simp
theorem NotWanted.wanted {ops : Array Oper} {a : Act} {o : Oper} (h : NotWanted ops (envOf a) o.guard) : Region.wanted o (yielded ops a.tmps) = false := by
  unfold Region.wanted
  cases hg : o.guard with
  | none => rw [hg] at h; exact h.elim
  | some g =>
    obtain ⟨j, want⟩ := g
    rw [hg] at h
    obtain ⟨t, h1, h2⟩ := h
    show (yielded ops a.tmps j == some want) = false
    rcases h2 with h2 | h2
    · rw [yielded_bool h1 h2]
      cases want <;> rfl
    · rw [yielded_undef h1 h2]
      cases want <;> rfl

/-- What one operation needs, and what it hands on. -/
def OpW (P : Program) (op : Op) (ty : TypeId) (ρ : Env) (K : Value → World → Prop) (w : World) : Prop :=
  match (execOp (ev ρ) ⟨none, op, ty, "", #[], none⟩).run P w with
  | .ok (.value v) w' => K v w'
  | .ok .skip w' => K undef w'
  | .ok (.enter f args) w' => Calls P f args w' fun e w'' => match e with
      | .returned v => K v w''
      | _ => False
  | _ => False

theorem execOp_strip (ρ : Operand → Value) (o : Oper) : execOp ρ o = execOp ρ ⟨none, o.op, o.type, "", #[], none⟩ := by
  obtain ⟨dst, op, type, pos, after, guard⟩ := o
  cases op <;> rfl

theorem OpW.wp {P : Program} {o : Oper} {a : Act} {K : Value → World → Prop} {Q : Exit → Act → World → Prop} {next : Act → World → Prop} {w : World}
    (h : OpW P o.op o.type (envOf a) K w) (hk : ∀ v w', K v w' → next (a.put o.dst v) w') : o.wp P a w next Q := by
  unfold Oper.wp
  rw [eval_env, execOp_strip]
  unfold OpW at h
  generalize (execOp (ev (envOf a)) ⟨none, o.op, o.type, "", #[], none⟩).run P w = r at h ⊢
  cases r with
  | halt x w' => exact h.elim
  | ok nx w' =>
    cases nx <;> first
      | exact hk _ _ h
      | exact h.elim
      | (refine Calls.mono h fun e w'' he => ?_
         cases e with
         | returned v => exact hk _ _ he
         | panicked c => exact he.elim
         | outgrown => exact he.elim)

def lift (n : Nat) (Q : Exit → Env → World → Prop) : Exit → Act → World → Prop
  | .panic _, _, _ => False
  | .outgrown, _, _ => False
  | e, a, w => a.tmps.size = n ∧ a.defers = [] ∧ Q e (envOf a) w

def CW (P : Program) (n : Nat) (c : Code) (Q : Exit → Env → World → Prop) (ρ : Env) (w : World) : Prop :=
  ∀ a : Act, a.tmps.size = n → a.defers = [] → envOf a = ρ → c.wp P (lift n Q) a w
def RL (P : Program) (n : Nat) (ops : Array Oper) (Q : Exit → Env → World → Prop) (l : List Oper) (ρ : Env) (w : World) : Prop :=
  ∀ a : Act, a.tmps.size = n → a.defers = [] → envOf a = ρ → wpList P ops (lift n Q) l a w

section
variable {P : Program} {n : Nat} {ops : Array Oper} {Q : Exit → Env → World → Prop} {ρ : Env} {w : World} {rest : List Oper}

theorem RL.nil (h : Q .normal ρ w) : RL P n ops Q [] ρ w := fun a hs hd he => by
  subst he
  exact ⟨hs, hd, h⟩

theorem RL.opS {d : Nat} {op : Op} {ty : TypeId} {pos : String} {after : Array Edge} {g : Option (Nat × Bool)} (hw : Wanted ops ρ g) (hd : Nat.blt d n = true)
    (h : OpW P op ty ρ (fun v w' => RL P n ops Q rest (upd ρ d v) w') w) : RL P n ops Q (⟨some d, op, ty, pos, after, g⟩ :: rest) ρ w := by
  intro a hs hdf he
  subst he
  have hdn : d < a.tmps.size := by rw [hs]; exact Nat.le_of_ble_eq_true hd
  unfold wpList
  rw [if_pos (Wanted.wanted (o := ⟨some d, op, ty, pos, after, g⟩) hw)]
  refine .inl (OpW.wp (o := ⟨some d, op, ty, pos, after, g⟩) h fun v w' hk => ?_)
  exact hk _ ((put_size _ _ _).trans hs) ((put_defers _ _ _).trans hdf) (env_put hdn)

theorem RL.opN {op : Op} {ty : TypeId} {pos : String} {after : Array Edge} {g : Option (Nat × Bool)} (hw : Wanted ops ρ g)
    (h : OpW P op ty ρ (fun _ w' => RL P n ops Q rest ρ w') w) : RL P n ops Q (⟨none, op, ty, pos, after, g⟩ :: rest) ρ w := by
  intro a hs hdf he
  subst he
  unfold wpList
  rw [if_pos (Wanted.wanted (o := ⟨none, op, ty, pos, after, g⟩) hw)]
  exact .inl (OpW.wp (o := ⟨none, op, ty, pos, after, g⟩) h fun v w' hk => hk _ hs hdf rfl)

theorem RL.skipS {d : Nat} {op : Op} {ty : TypeId} {pos : String} {after : Array Edge} {g : Option (Nat × Bool)} (hw : NotWanted ops ρ g) (hd : Nat.blt d n = true)
    (h : RL P n ops Q rest (upd ρ d undef) w) : RL P n ops Q (⟨some d, op, ty, pos, after, g⟩ :: rest) ρ w := by
  intro a hs hdf he
  subst he
  have hdn : d < a.tmps.size := by rw [hs]; exact Nat.le_of_ble_eq_true hd
  unfold wpList
  rw [if_neg (by rw [NotWanted.wanted (o := ⟨some d, op, ty, pos, after, g⟩) hw]; simp)]
  exact h _ ((put_size _ _ _).trans hs) ((put_defers _ _ _).trans hdf) (env_put hdn)

theorem RL.skipN {op : Op} {ty : TypeId} {pos : String} {after : Array Edge} {g : Option (Nat × Bool)} (hw : NotWanted ops ρ g)
    (h : RL P n ops Q rest ρ w) : RL P n ops Q (⟨none, op, ty, pos, after, g⟩ :: rest) ρ w := by
  intro a hs hdf he
  subst he
  unfold wpList
  rw [if_neg (by rw [NotWanted.wanted (o := ⟨none, op, ty, pos, after, g⟩) hw]; simp)]
  exact h _ hs hdf rfl

/-! ### Code -/
theorem CW.skip (h : Q .normal ρ w) : CW P n .skip Q ρ w := fun a hs hd he => wp_skip (by subst he; exact ⟨hs, hd, h⟩)
theorem CW.ret (h : Q .ret ρ w) : CW P n .ret Q ρ w := fun a hs hd he => wp_ret (by subst he; exact ⟨hs, hd, h⟩)
theorem CW.exit {id : Nat} (h : Q (.exit id) ρ w) : CW P n (.exit id) Q ρ w := fun a hs hd he => wp_exit (by subst he; exact ⟨hs, hd, h⟩)

abbrev thenQ (K : Env → World → Prop) (Q : Exit → Env → World → Prop) : Exit → Env → World → Prop
  | .normal, ρ, w => K ρ w
  | e, ρ, w => Q e ρ w
abbrev blockQ (id : Nat) (Q : Exit → Env → World → Prop) : Exit → Env → World → Prop
  | .exit id', ρ, w => if id' = id then Q .normal ρ w else Q (.exit id') ρ w
  | e, ρ, w => Q e ρ w

theorem CW.seq {x y : Code} (h : CW P n x (thenQ (CW P n y Q) Q) ρ w) : CW P n (.seq x y) Q ρ w := fun a hs hd he => by
  refine wp_seq (wp_mono (h a hs hd he) ?_)
  intro e a' w' hq
  cases e with
  | normal => exact hq.2.2 a' hq.1 hq.2.1 rfl
  | panic c => exact hq.elim
  | outgrown => exact hq.elim
  | exit id => exact hq
  | goto l => exact hq
  | ret => exact hq

theorem CW.block {id : Nat} {c : Code} (h : CW P n c (blockQ id Q) ρ w) : CW P n (.block id c) Q ρ w := fun a hs hd he => by
  refine wp_block (wp_mono (h a hs hd he) ?_)
  intro e a' w' hq
  cases e with
  | normal => exact hq
  | panic c => exact hq.elim
  | outgrown => exact hq.elim
  | exit id' =>
    obtain ⟨h1, h2, h3⟩ := hq
    simp only [blockQ] at h3
    simp only [Exit.inBlock]
    split
    · rename_i e; rw [if_pos e] at h3; exact ⟨h1, h2, h3⟩
    · rename_i e; rw [if_neg e] at h3; exact ⟨h1, h2, h3⟩
  | goto l => exact hq
  | ret => exact hq

theorem CW.cond {c : Operand} {x y : Code} {b : Bool} (hc : ev ρ c = .bool b) (h1 : b = true → CW P n x Q ρ w) (h2 : b = false → CW P n y Q ρ w) :
    CW P n (.cond c x y) Q ρ w := fun a hs hd he => by
  have hc' : a.eval c = .bool b := by rw [eval_env, he]; exact hc
  cases b with
  | true => exact Go.wp_cond hc' (h1 rfl a hs hd he)
  | false => exact Go.wp_cond hc' (h2 rfl a hs hd he)

theorem CW.region {id : Nat} {l : List Oper} (h : RL P n l.toArray Q l ρ w) : CW P n (.region id l.toArray false) Q ρ w := fun a hs hd he =>
  wp_region_lit (h a hs hd he)

theorem CW.scope_none {c : Code} : True := trivial

/-- A loop: a state of the typed variables, an invariant, a measure. -/
theorem CW.loop {c : Code} {σ : Type} (E : σ → Env → Prop) (I : σ → World → Prop) (μ : σ → World → Nat) (s0 : σ) (hE : E s0 ρ) (hI : I s0 w)
    (round : ∀ s ρ w, E s ρ → I s w → CW P n c (thenQ (fun ρ' w' => ∃ s', E s' ρ' ∧ I s' w' ∧ μ s' w' < μ s w) Q) ρ w) : CW P n (.loop c) Q ρ w := fun a hs hd he => by
  refine wp_loop_ghost (fun k a w => a.tmps.size = n ∧ a.defers = [] ∧ ∃ s, E s (envOf a) ∧ I s w ∧ μ s w = k) (μ s0 w) ⟨hs, hd, s0, by rw [he]; exact hE, hI, rfl⟩ ?_
  intro k a w ⟨hs, hd, s, hE, hI, hk⟩
  refine wp_mono (round s _ w hE hI a hs hd rfl) ?_
  intro e a' w' hq
  cases e with
  | normal =>
    obtain ⟨h1, h2, s', h3, h4, h5⟩ := hq
    exact ⟨μ s' w', by omega, h1, h2, s', h3, h4, rfl⟩
  | panic c => exact hq.elim
  | outgrown => exact hq.elim
  | exit id => exact hq
  | goto l => exact hq
  | ret => exact hq

/-- The typed loop: 'step next s w'. -/
def LoopS {σ : Type} (step : (σ → World → Prop) → σ → World → Prop) (s0 : σ) (w : World) : Prop :=
  ∃ (I : σ → World → Prop) (μ : σ → World → Nat), I s0 w ∧ ∀ s w, I s w → step (fun s' w' => I s' w' ∧ μ s' w' < μ s w) s w

def startEnv (args : Array Value) : Env := fun i => args.getD i undef
/-- What a return hands on. -/
abbrev retQ (P : Program) (fn : Func) (R : Ending → World → Prop) : Exit → Env → World → Prop
  | .normal, ρ, w | .ret, ρ, w => ∃ v, (∀ tmps : Array Value, (∀ i, tmps.getD i undef = ρ i) → (results fn tmps).run P w = .ok v w) ∧ R (.returned v) w
  | _, _, _ => False

theorem start_env (args : Array Value) (n : Nat) (h : args.size ≤ n) : envOf { tmps := args ++ Array.replicate (n - args.size) undef, defers := [] } = startEnv args := by
  funext i
  simp only [envOf, startEnv, Array.getD_eq_getD_getElem?]
  by_cases h1 : i < args.size
  · rw [Array.getElem?_append_left h1]
  · rw [Array.getElem?_append_right (by omega), Array.getElem?_eq_none (xs := args) (by omega)]
    by_cases h2 : i - args.size < n - args.size
    · rw [Array.getElem?_eq_getElem (by simpa using h2)]; simp
    · rw [Array.getElem?_eq_none (by simpa using h2)]

theorem calls_of_CW {f : FuncId} {fn : Func} {c : Code} {args : Array Value} {R : Ending → World → Prop} (hf : P.funcs[f]? = some fn) (hb : fn.body = some c) (hn : fn.ntmps = n)
    (ha : Nat.ble args.size n = true) (h : CW P n c (retQ P fn R) (startEnv args) w) : Calls P f args w R := by
  subst hn
  have ha' : args.size ≤ fn.ntmps := Nat.le_of_ble_eq_true ha
  refine calls_of_wp hf hb (wp_mono (h _ (by simp; omega) rfl (start_env _ _ ha')) ?_)
  intro e a' w' hq
  cases e with
  | normal =>
    obtain ⟨h1, h2, v, h3, h4⟩ := hq
    exact ⟨h2, v, h3 _ (fun _ => rfl), h4⟩
  | ret =>
    obtain ⟨h1, h2, v, h3, h4⟩ := hq
    exact ⟨h2, v, h3 _ (fun _ => rfl), h4⟩
  | panic c => exact hq.elim
  | outgrown => exact hq.elim
  | exit id => exact hq.2.2.elim
  | goto l => exact hq.2.2.elim

theorem res0 {fn : Func} (h : fn.results = #[]) (tmps : Array Value) (hρ : ∀ i, tmps.getD i undef = ρ i) : (results fn tmps).run P w = .ok (.tuple #[]) w := results_none h tmps P w
theorem res1 {fn : Func} {t : Tmp} {v : Value} (h : fn.results = #[.tmp t]) (hv : ρ t = v) (tmps : Array Value) (hρ : ∀ i, tmps.getD i undef = ρ i) : (results fn tmps).run P w = .ok v w := by
  rw [results_tmp h, hρ, hv]
theorem res2 {fn : Func} {t u : Tmp} {v x : Value} (h : fn.results = #[.tmp t, .tmp u]) (hv : ρ t = v) (hx : ρ u = x) (tmps : Array Value) (hρ : ∀ i, tmps.getD i undef = ρ i) : (results fn tmps).run P w = .ok (.tuple #[v, x]) w := by
  rw [results_tmp2 h, hρ, hv, hρ, hx]
theorem res3 {fn : Func} {t u s : Tmp} {v x y : Value} (h : fn.results = #[.tmp t, .tmp u, .tmp s]) (hv : ρ t = v) (hx : ρ u = x) (hy : ρ s = y) (tmps : Array Value) (hρ : ∀ i, tmps.getD i undef = ρ i) : (results fn tmps).run P w = .ok (.tuple #[v, x, y]) w := by
  have h1 := hρ t; have h2 := hρ u; have h3 := hρ s
  simp only [Array.getD_eq_getD_getElem?] at h1 h2 h3
  simp [results, h, h1, h2, h3, hv, hx, hy]
end
end Go.Lift
