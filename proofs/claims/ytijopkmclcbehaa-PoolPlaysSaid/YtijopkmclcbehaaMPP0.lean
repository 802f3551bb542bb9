/- Parts of a proof, one behind the other: readings of functions, what they do, and what follows. -/
import Derived.Test.YtijopkmclcbehaaRows
import Derived.OrdersHeld
import Derived.Deep.LoopGhost
import Derived.Tactics
import Derived.Below
import Derived.Laws.AppendOwn
import Derived.KernelRfl
import Derived.Laws.CopyRow
import Derived.Laws.Rows
import Derived.Laws.IdiomStrings
import Derived.Laws.BytesArg
import Derived.Lib.Bytes
import Derived.Lib.IndexBytes
import Derived.Laws.OwnMore
import Derived.WalkKit
import Derived.ProofKit
import Derived.OpenShut
import Derived.ShutString
import Derived.ChangeOld
import Derived.Deep.Slices
import Derived.SizedLaws
import Derived.Test.YtijopkmclcbehaaProg
import Derived.Lib.AppendZerosOnto
set_option linter.unusedVariables false
set_option linter.unusedSimpArgs false
section
/- The rules by which a Go function's code is read as a predicate transformer over typed values: soundness of each step, once for all programs. -/
namespace Go.Lift

abbrev Env := Nat → Value
def upd (ρ : Env) (d : Nat) (v : Value) : Env := fun i => cond (Nat.beq i d) v (ρ i)
def ev (ρ : Env) : Operand → Value
  | .tmp t => ρ t
  | .const v => v
  | .global g => .pointer (some ⟨g, 0, none⟩)
  | .func f => .func (.func f) #[] #[]
def envOf (a : Act) : Env := fun i => a.tmps.getD i undef

theorem eval_env (a : Act) : a.eval = ev (envOf a) := funext fun x => by cases x <;> rfl

theorem env_put {a : Act} {d : Nat} {v : Value} (h : d < a.tmps.size) : envOf (a.put (some d) v) = upd (envOf a) d v := by
  funext i
  simp only [envOf, Act.put, upd]
  by_cases e : i = d
  · subst e
    simp [h]
  · have : Nat.beq i d = false := by
      cases hb : Nat.beq i d
      · rfl
      · exact absurd (Nat.eq_of_beq_eq_true hb) e
    simp only [this, cond]
    simp [Array.getElem?_setIfInBounds_ne (Ne.symm e)]

theorem put_size (a : Act) (d : Option Tmp) (v : Value) : (a.put d v).tmps.size = a.tmps.size := by
  cases d <;> simp [Act.put]
theorem put_defers (a : Act) (d : Option Tmp) (v : Value) : (a.put d v).defers = a.defers := by
  cases d <;> rfl

def Wanted (ops : Array Oper) (ρ : Env) : Option (Nat × Bool) → Prop
  | none => True
  | some (j, want) => ∃ t, (ops[j]?).bind (·.dst) = some t ∧ ρ t = .bool want
def NotWanted (ops : Array Oper) (ρ : Env) : Option (Nat × Bool) → Prop
  | none => False
  | some (j, want) => ∃ t, (ops[j]?).bind (·.dst) = some t ∧ (ρ t = .bool (!want) ∨ ρ t = undef)

theorem yielded_bool {ops : Array Oper} {tmps : Array Value} {j t : Nat} {b : Bool} (h : (ops[j]?).bind (·.dst) = some t) (h1 : tmps.getD t undef = .bool b) : yielded ops tmps j = some b := by
  unfold yielded
  rw [h]
  simp only [Option.bind_some]
  cases ht : tmps[t]? with
  | none => rw [Array.getD_eq_getD_getElem?, ht] at h1; simp [undef] at h1
  | some v => rw [Array.getD_eq_getD_getElem?, ht] at h1; simp at h1; subst h1; rfl
theorem yielded_undef {ops : Array Oper} {tmps : Array Value} {j t : Nat} (h : (ops[j]?).bind (·.dst) = some t) (h1 : tmps.getD t undef = undef) : yielded ops tmps j = none := by
  unfold yielded
  rw [h]
  simp only [Option.bind_some]
  cases ht : tmps[t]? with
  | none => rfl
  | some v => rw [Array.getD_eq_getD_getElem?, ht] at h1; simp at h1; subst h1; rfl
theorem Wanted.wanted {ops : Array Oper} {a : Act} {o : Oper} (h : Wanted ops (envOf a) o.guard) : Region.wanted o (yielded ops a.tmps) = true := by
  unfold Region.wanted
  cases hg : o.guard with
  | none => rfl
  | some g =>
    obtain ⟨j, want⟩ := g
    rw [hg] at h
    obtain ⟨t, h1, h2⟩ := h
    show (yielded ops a.tmps j == some want) = true
    rw [yielded_bool h1 h2]
    simp
theorem NotWanted.wanted {ops : Array Oper} {a : Act} {o : Oper} (h : NotWanted ops (envOf a) o.guard) : Region.wanted o (yielded ops a.tmps) = false := by
  unfold Region.wanted
  cases hg : o.guard with
  | none => rw [hg] at h; exact h.elim
  | some g =>
    obtain ⟨j, want⟩ := g
    rw [hg] at h
    obtain ⟨t, h1, h2⟩ := h
    show (yielded ops a.tmps j == some want) = false
    rcases h2 with h2 | h2
    · rw [yielded_bool h1 h2]
      cases want <;> rfl
    · rw [yielded_undef h1 h2]
      cases want <;> rfl

/-- What one operation needs, and what it hands on. -/
def OpW (P : Program) (op : Op) (ty : TypeId) (ρ : Env) (K : Value → World → Prop) (w : World) : Prop :=
  match (execOp (ev ρ) ⟨none, op, ty, "", #[], none⟩).run P w with
  | .ok (.value v) w' => K v w'
  | .ok .skip w' => K undef w'
  | .ok (.enter f args) w' => Calls P f args w' fun e w'' => match e with
      | .returned v => K v w''
      | _ => False
  | _ => False

theorem execOp_strip (ρ : Operand → Value) (o : Oper) : execOp ρ o = execOp ρ ⟨none, o.op, o.type, "", #[], none⟩ := by
  obtain ⟨dst, op, type, pos, after, guard⟩ := o
  cases op <;> rfl

theorem OpW.wp {P : Program} {o : Oper} {a : Act} {K : Value → World → Prop} {Q : Exit → Act → World → Prop} {next : Act → World → Prop} {w : World}
    (h : OpW P o.op o.type (envOf a) K w) (hk : ∀ v w', K v w' → next (a.put o.dst v) w') : o.wp P a w next Q := by
  unfold Oper.wp
  rw [eval_env, execOp_strip]
  unfold OpW at h
  generalize (execOp (ev (envOf a)) ⟨none, o.op, o.type, "", #[], none⟩).run P w = r at h ⊢
  cases r with
  | halt x w' => exact h.elim
  | ok nx w' =>
    cases nx <;> first
      | exact hk _ _ h
      | exact h.elim
      | (refine Calls.mono h fun e w'' he => ?_
         cases e with
         | returned v => exact hk _ _ he
         | panicked c => exact he.elim
         | outgrown => exact he.elim)

def lift (n : Nat) (Q : Exit → Env → World → Prop) : Exit → Act → World → Prop
  | .panic _, _, _ => False
  | .outgrown, _, _ => False
  | e, a, w => a.tmps.size = n ∧ a.defers = [] ∧ Q e (envOf a) w

def CW (P : Program) (n : Nat) (c : Code) (Q : Exit → Env → World → Prop) (ρ : Env) (w : World) : Prop :=
  ∀ a : Act, a.tmps.size = n → a.defers = [] → envOf a = ρ → c.wp P (lift n Q) a w
def RL (P : Program) (n : Nat) (ops : Array Oper) (Q : Exit → Env → World → Prop) (l : List Oper) (ρ : Env) (w : World) : Prop :=
  ∀ a : Act, a.tmps.size = n → a.defers = [] → envOf a = ρ → wpList P ops (lift n Q) l a w

section
variable {P : Program} {n : Nat} {ops : Array Oper} {Q : Exit → Env → World → Prop} {ρ : Env} {w : World} {rest : List Oper}

theorem RL.nil (h : Q .normal ρ w) : RL P n ops Q [] ρ w := fun a hs hd he => by
  subst he
  exact ⟨hs, hd, h⟩

theorem RL.opS {d : Nat} {op : Op} {ty : TypeId} {pos : String} {after : Array Edge} {g : Option (Nat × Bool)} (hw : Wanted ops ρ g) (hd : Nat.blt d n = true)
    (h : OpW P op ty ρ (fun v w' => RL P n ops Q rest (upd ρ d v) w') w) : RL P n ops Q (⟨some d, op, ty, pos, after, g⟩ :: rest) ρ w := by
  intro a hs hdf he
  subst he
  have hdn : d < a.tmps.size := by rw [hs]; exact Nat.le_of_ble_eq_true hd
  unfold wpList
  rw [if_pos (Wanted.wanted (o := ⟨some d, op, ty, pos, after, g⟩) hw)]
  refine .inl (OpW.wp (o := ⟨some d, op, ty, pos, after, g⟩) h fun v w' hk => ?_)
  exact hk _ ((put_size _ _ _).trans hs) ((put_defers _ _ _).trans hdf) (env_put hdn)

theorem RL.opN {op : Op} {ty : TypeId} {pos : String} {after : Array Edge} {g : Option (Nat × Bool)} (hw : Wanted ops ρ g)
    (h : OpW P op ty ρ (fun _ w' => RL P n ops Q rest ρ w') w) : RL P n ops Q (⟨none, op, ty, pos, after, g⟩ :: rest) ρ w := by
  intro a hs hdf he
  subst he
  unfold wpList
  rw [if_pos (Wanted.wanted (o := ⟨none, op, ty, pos, after, g⟩) hw)]
  exact .inl (OpW.wp (o := ⟨none, op, ty, pos, after, g⟩) h fun v w' hk => hk _ hs hdf rfl)

theorem RL.skipS {d : Nat} {op : Op} {ty : TypeId} {pos : String} {after : Array Edge} {g : Option (Nat × Bool)} (hw : NotWanted ops ρ g) (hd : Nat.blt d n = true)
    (h : RL P n ops Q rest (upd ρ d undef) w) : RL P n ops Q (⟨some d, op, ty, pos, after, g⟩ :: rest) ρ w := by
  intro a hs hdf he
  subst he
  have hdn : d < a.tmps.size := by rw [hs]; exact Nat.le_of_ble_eq_true hd
  unfold wpList
  rw [if_neg (by rw [NotWanted.wanted (o := ⟨some d, op, ty, pos, after, g⟩) hw]; simp)]
  exact h _ ((put_size _ _ _).trans hs) ((put_defers _ _ _).trans hdf) (env_put hdn)

theorem RL.skipN {op : Op} {ty : TypeId} {pos : String} {after : Array Edge} {g : Option (Nat × Bool)} (hw : NotWanted ops ρ g)
    (h : RL P n ops Q rest ρ w) : RL P n ops Q (⟨none, op, ty, pos, after, g⟩ :: rest) ρ w := by
  intro a hs hdf he
  subst he
  unfold wpList
  rw [if_neg (by rw [NotWanted.wanted (o := ⟨none, op, ty, pos, after, g⟩) hw]; simp)]
  exact h _ hs hdf rfl

/-! ### Code -/
theorem CW.skip (h : Q .normal ρ w) : CW P n .skip Q ρ w := fun a hs hd he => wp_skip (by subst he; exact ⟨hs, hd, h⟩)
theorem CW.ret (h : Q .ret ρ w) : CW P n .ret Q ρ w := fun a hs hd he => wp_ret (by subst he; exact ⟨hs, hd, h⟩)
theorem CW.exit {id : Nat} (h : Q (.exit id) ρ w) : CW P n (.exit id) Q ρ w := fun a hs hd he => wp_exit (by subst he; exact ⟨hs, hd, h⟩)

abbrev thenQ (K : Env → World → Prop) (Q : Exit → Env → World → Prop) : Exit → Env → World → Prop
  | .normal, ρ, w => K ρ w
  | e, ρ, w => Q e ρ w
abbrev blockQ (id : Nat) (Q : Exit → Env → World → Prop) : Exit → Env → World → Prop
  | .exit id', ρ, w => if id' = id then Q .normal ρ w else Q (.exit id') ρ w
  | e, ρ, w => Q e ρ w

theorem CW.seq {x y : Code} (h : CW P n x (thenQ (CW P n y Q) Q) ρ w) : CW P n (.seq x y) Q ρ w := fun a hs hd he => by
  refine wp_seq (wp_mono (h a hs hd he) ?_)
  intro e a' w' hq
  cases e with
  | normal => exact hq.2.2 a' hq.1 hq.2.1 rfl
  | panic c => exact hq.elim
  | outgrown => exact hq.elim
  | exit id => exact hq
  | goto l => exact hq
  | ret => exact hq

theorem CW.block {id : Nat} {c : Code} (h : CW P n c (blockQ id Q) ρ w) : CW P n (.block id c) Q ρ w := fun a hs hd he => by
  refine wp_block (wp_mono (h a hs hd he) ?_)
  intro e a' w' hq
  cases e with
  | normal => exact hq
  | panic c => exact hq.elim
  | outgrown => exact hq.elim
  | exit id' =>
    obtain ⟨h1, h2, h3⟩ := hq
    simp only [blockQ] at h3
    simp only [Exit.inBlock]
    split
    · rename_i e; rw [if_pos e] at h3; exact ⟨h1, h2, h3⟩
    · rename_i e; rw [if_neg e] at h3; exact ⟨h1, h2, h3⟩
  | goto l => exact hq
  | ret => exact hq

theorem CW.cond {c : Operand} {x y : Code} {b : Bool} (hc : ev ρ c = .bool b) (h1 : b = true → CW P n x Q ρ w) (h2 : b = false → CW P n y Q ρ w) :
    CW P n (.cond c x y) Q ρ w := fun a hs hd he => by
  have hc' : a.eval c = .bool b := by rw [eval_env, he]; exact hc
  cases b with
  | true => exact Go.wp_cond hc' (h1 rfl a hs hd he)
  | false => exact Go.wp_cond hc' (h2 rfl a hs hd he)

theorem CW.region {id : Nat} {l : List Oper} (h : RL P n l.toArray Q l ρ w) : CW P n (.region id l.toArray false) Q ρ w := fun a hs hd he =>
  wp_region_lit (h a hs hd he)

theorem CW.scope_none {c : Code} : True := trivial

/-- A loop: a state of the typed variables, an invariant, a measure. -/
theorem CW.loop {c : Code} {σ : Type} (E : σ → Env → Prop) (I : σ → World → Prop) (μ : σ → World → Nat) (s0 : σ) (hE : E s0 ρ) (hI : I s0 w)
    (round : ∀ s ρ w, E s ρ → I s w → CW P n c (thenQ (fun ρ' w' => ∃ s', E s' ρ' ∧ I s' w' ∧ μ s' w' < μ s w) Q) ρ w) : CW P n (.loop c) Q ρ w := fun a hs hd he => by
  refine wp_loop_ghost (fun k a w => a.tmps.size = n ∧ a.defers = [] ∧ ∃ s, E s (envOf a) ∧ I s w ∧ μ s w = k) (μ s0 w) ⟨hs, hd, s0, by rw [he]; exact hE, hI, rfl⟩ ?_
  intro k a w ⟨hs, hd, s, hE, hI, hk⟩
  refine wp_mono (round s _ w hE hI a hs hd rfl) ?_
  intro e a' w' hq
  cases e with
  | normal =>
    obtain ⟨h1, h2, s', h3, h4, h5⟩ := hq
    exact ⟨μ s' w', by omega, h1, h2, s', h3, h4, rfl⟩
  | panic c => exact hq.elim
  | outgrown => exact hq.elim
  | exit id => exact hq
  | goto l => exact hq
  | ret => exact hq

/-- The typed loop: 'step next s w'. -/
def LoopS {σ : Type} (step : (σ → World → Prop) → σ → World → Prop) (s0 : σ) (w : World) : Prop :=
  ∃ (I : σ → World → Prop) (μ : σ → World → Nat), I s0 w ∧ ∀ s w, I s w → step (fun s' w' => I s' w' ∧ μ s' w' < μ s w) s w

def startEnv (args : Array Value) : Env := fun i => args.getD i undef
/-- What a return hands on. -/
abbrev retQ (P : Program) (fn : Func) (R : Ending → World → Prop) : Exit → Env → World → Prop
  | .normal, ρ, w | .ret, ρ, w => ∃ v, (∀ tmps : Array Value, (∀ i, tmps.getD i undef = ρ i) → (results fn tmps).run P w = .ok v w) ∧ R (.returned v) w
  | _, _, _ => False

theorem start_env (args : Array Value) (n : Nat) (h : args.size ≤ n) : envOf { tmps := args ++ Array.replicate (n - args.size) undef, defers := [] } = startEnv args := by
  funext i
  simp only [envOf, startEnv, Array.getD_eq_getD_getElem?]
  by_cases h1 : i < args.size
  · rw [Array.getElem?_append_left h1]
  · rw [Array.getElem?_append_right (by omega), Array.getElem?_eq_none (xs := args) (by omega)]
    by_cases h2 : i - args.size < n - args.size
    · rw [Array.getElem?_eq_getElem (by simpa using h2)]; simp
    · rw [Array.getElem?_eq_none (by simpa using h2)]

theorem calls_of_CW {f : FuncId} {fn : Func} {c : Code} {args : Array Value} {R : Ending → World → Prop} (hf : P.funcs[f]? = some fn) (hb : fn.body = some c) (hn : fn.ntmps = n)
    (ha : Nat.ble args.size n = true) (h : CW P n c (retQ P fn R) (startEnv args) w) : Calls P f args w R := by
  subst hn
  have ha' : args.size ≤ fn.ntmps := Nat.le_of_ble_eq_true ha
  refine calls_of_wp hf hb (wp_mono (h _ (by simp; omega) rfl (start_env _ _ ha')) ?_)
  intro e a' w' hq
  cases e with
  | normal =>
    obtain ⟨h1, h2, v, h3, h4⟩ := hq
    exact ⟨h2, v, h3 _ (fun _ => rfl), h4⟩
  | ret =>
    obtain ⟨h1, h2, v, h3, h4⟩ := hq
    exact ⟨h2, v, h3 _ (fun _ => rfl), h4⟩
  | panic c => exact hq.elim
  | outgrown => exact hq.elim
  | exit id => exact hq.2.2.elim
  | goto l => exact hq.2.2.elim

theorem res0 {fn : Func} (h : fn.results = #[]) (tmps : Array Value) (hρ : ∀ i, tmps.getD i undef = ρ i) : (results fn tmps).run P w = .ok (.tuple #[]) w := results_none h tmps P w
theorem res1 {fn : Func} {t : Tmp} {v : Value} (h : fn.results = #[.tmp t]) (hv : ρ t = v) (tmps : Array Value) (hρ : ∀ i, tmps.getD i undef = ρ i) : (results fn tmps).run P w = .ok v w := by
  rw [results_tmp h, hρ, hv]
theorem res2 {fn : Func} {t u : Tmp} {v x : Value} (h : fn.results = #[.tmp t, .tmp u]) (hv : ρ t = v) (hx : ρ u = x) (tmps : Array Value) (hρ : ∀ i, tmps.getD i undef = ρ i) : (results fn tmps).run P w = .ok (.tuple #[v, x]) w := by
  rw [results_tmp2 h, hρ, hv, hρ, hx]
theorem res3 {fn : Func} {t u s : Tmp} {v x y : Value} (h : fn.results = #[.tmp t, .tmp u, .tmp s]) (hv : ρ t = v) (hx : ρ u = x) (hy : ρ s = y) (tmps : Array Value) (hρ : ∀ i, tmps.getD i undef = ρ i) : (results fn tmps).run P w = .ok (.tuple #[v, x, y]) w := by
  have h1 := hρ t; have h2 := hρ u; have h3 := hρ s
  simp only [Array.getD_eq_getD_getElem?] at h1 h2 h3
  simp [results, h, h1, h2, h3, hv, hx, hy]
end
end Go.Lift
end
section
/- What each operation needs and hands on, over typed values: one law for each kind of operation, once for all programs. -/
namespace Go.Lift
structure Sl where
 a : Option Addr
 len : Nat
 cap : Nat
abbrev Sl.v (s : Sl) : Value := .slice s.a s.len s.cap
abbrev nilSl : Sl := ⟨none, 0, 0⟩
abbrev str (xs : List UInt8) : Value := .string ⟨xs.toArray⟩
abbrev aggv (cs : List Value) : Value := .agg cs.toArray
/-- Bytes as cells. -/
def u8s (bs : List UInt8) : List Value := bs.map fun b => .int .u8 (b.toNat : Int)
theorem u8s_length (bs : List UInt8) : (u8s bs).length = bs.length := by simp [u8s]
/-- The cells that lie from an address on. -/
def At (w : World) (a : Addr) (cs : List Value) : Prop := ∀ j v, cs[j]? = some v → w.cell? (a.add j) = some v
/-- The same for a slice's address, which may be none where there are no cells. -/
def AtO (w : World) (a : Option Addr) (cs : List Value) : Prop := match a with
 | some a => At w a cs
 | none => cs = []

def oneT (P : Program) (t : TypeId) : Bool := match P.underlying t with
 | some (.struct _) | some (.array _ _) => false
 | some _ => true
 | none => false
def aggT (P : Program) (t : TypeId) : Option Nat := match P.underlying t, P.info? t with
 | some (.struct _), some i | some (.array _ _), some i => some i.size
 | _, _ => none
def sizeT (P : Program) (t : TypeId) : Option Nat := (P.info? t).map (·.size)
def zeroT (P : Program) (t : TypeId) : Option (List Value) := (P.info? t).bind fun i => i.zero.map fun z => z.cells.toList
def fieldT (P : Program) (s : TypeId) (f : Nat) : Option Nat := match P.underlying s with
 | some (.struct fs) => match fs[f]? with
  | some fd => match P.info? fd.type with
   | some i => if i.size = 0 then none else some fd.offset
   | none => none
  | none => none
 | _ => none
def sliceT (P : Program) (t : TypeId) : Option (TypeId × Nat) := match P.underlying t with
 | some (.slice e) => match P.info? e with
  | some i => some (e, i.size)
  | none => none
 | _ => none
def arrT (P : Program) (t : TypeId) : Option (Nat × Nat) := match P.underlying t with
 | some (.array n e) => match P.info? e with
  | some i => some (n, i.size)
  | none => none
 | _ => none

section
variable {P : Program} {ty : TypeId} {ρ : Env} {K : Value → World → Prop} {w : World} {x y z : Operand} {v : Value}

theorem OpW.val {op : Op} {w' : World} (hr : (execOp (ev ρ) ⟨none, op, ty, "", #[], none⟩).run P w = .ok (.value v) w') (h : K v w') : OpW P op ty ρ K w := by
 unfold OpW; rw [hr]; exact h
theorem OpW.unit {op : Op} {w' : World} (hr : (execOp (ev ρ) ⟨none, op, ty, "", #[], none⟩).run P w = .ok .skip w') (h : K undef w') : OpW P op ty ρ K w := by
 unfold OpW; rw [hr]; exact h

theorem OpW.move (hx : ev ρ x = v) (h : K v w) : OpW P (.move x) ty ρ K w := by subst hx; exact h
theorem OpW.assign (hx : ev ρ x = v) (h : K v w) : OpW P (.assign x) ty ρ K w := by subst hx; exact h
theorem OpW.pick {b : Bool} (hc : ev ρ x = .bool b) (hv : cond b (ev ρ y) (ev ρ z) = v) (h : K v w) : OpW P (.pick x y z) ty ρ K w := by
 refine OpW.val (w' := w) ?_ h
 subst hv
 cases b <;> simp [execOp, hc, asBool]
theorem OpW.extract {i : Nat} {vs : Array Value} (hx : ev ρ x = .tuple vs) (hv : vs[i]? = some v) (h : K v w) : OpW P (.extract x i) ty ρ K w :=
 OpW.val (w' := w) (by simp [execOp, hx, Instr.extract, hv]) h
theorem OpW.nilCheck {a : Addr} (hx : ev ρ x = .pointer (some a)) (h : K (.pointer (some a)) w) : OpW P (.nilCheck x) ty ρ K w :=
 OpW.val (w' := w) (by simp [execOp, hx]) h

/-- int arithmetic and comparison -/
def binInt (op : BinOp) (k : IntKind) (a b : Int) : Option Value := match op with
 | .add => some (.int k (k.wrap (a + b)))
 | .sub => some (.int k (k.wrap (a - b)))
 | .mul => some (.int k (k.wrap (a * b)))
 | .and => some (.int k (k.wrap (BitVec.ofInt k.bits a &&& BitVec.ofInt k.bits b).toNat))
 | .or => some (.int k (k.wrap (BitVec.ofInt k.bits a ||| BitVec.ofInt k.bits b).toNat))
 | .xor => some (.int k (k.wrap (BitVec.ofInt k.bits a ^^^ BitVec.ofInt k.bits b).toNat))
 | .lss => some (.bool (decide (a < b)))
 | .leq => some (.bool (decide (a ≤ b)))
 | .gtr => some (.bool (decide (b < a)))
 | .geq => some (.bool (decide (b ≤ a)))
 | .eql => some (.bool (decide (a = b)))
 | .neq => some (.bool (!decide (a = b)))
 | _ => none
theorem OpW.bin {op : BinOp} {k : IntKind} {a b : Int} {t u : TypeId} (hx : ev ρ x = .int k a) (hy : ev ρ y = .int k b) (hv : binInt op k a b = some v) (h : K v w) :
  OpW P (.binOp op t x y u) ty ρ K w := by
 refine OpW.val (w' := w) ?_ h
 cases op <;> simp only [binInt, Option.some.injEq, reduceCtorEq] at hv <;> subst hv <;>
  simp [execOp, hx, hy, eqGuard, binOp, Op.intArith, Op.intBits, Op.intCmp]
 ·rfl
 ·rfl

def quoInt (op : BinOp) (k : IntKind) (a b : Int) : Option Value := match op with
 | .quo => some (.int k (k.wrap (a.tdiv b)))
 | .rem => some (.int k (a.tmod b))
 | _ => none
theorem OpW.quo {op : BinOp} {k : IntKind} {a b : Int} {t u : TypeId} (hx : ev ρ x = .int k a) (hy : ev ρ y = .int k b) (hb : b ≠ 0) (hv : quoInt op k a b = some v) (h : K v w) :
  OpW P (.binOp op t x y u) ty ρ K w := by
 refine OpW.val (w' := w) ?_ h
 cases op <;> simp only [quoInt, Option.some.injEq, reduceCtorEq] at hv <;> subst hv <;>
  simp [execOp, hx, hy, eqGuard, binOp, Op.intDiv, hb]

def shiftInt (op : BinOp) (k : IntKind) (a b : Int) : Option Value := match op with
 | .shl => some (.int k (k.wrap (a * 2 ^ min b.toNat k.bits)))
 | .shr => some (.int k (a.fdiv (2 ^ min b.toNat k.bits)))
 | _ => none
theorem OpW.shift {op : BinOp} {k l : IntKind} {a b : Int} {t u : TypeId} (hx : ev ρ x = .int k a) (hy : ev ρ y = .int l b) (hb : 0 ≤ b) (hv : shiftInt op k a b = some v) (h : K v w) :
  OpW P (.binOp op t x y u) ty ρ K w := by
 refine OpW.val (w' := w) ?_ h
 have hb' : ¬ b < 0 := by omega
 cases op <;> simp only [shiftInt, Option.some.injEq, reduceCtorEq] at hv <;> subst hv <;>
  simp [execOp, hx, hy, eqGuard, binOp, Op.shift, hb']

theorem toList_mk (xs : List UInt8) : (ByteArray.mk xs.toArray).toList = xs := by
 rw [Lib.toList_data]
theorem beq_dec (l r : List UInt8) : (l == r) = decide (l = r) := by rw [Bool.eq_iff_iff]; simp

theorem OpW.strAdd {a b : List UInt8} {t u : TypeId} (hx : ev ρ x = str a) (hy : ev ρ y = str b) (hl : a.length + b.length ≤ 9223372036854775807) (h : K (str (a ++ b)) w) :
  OpW P (.binOp .add t x y u) ty ρ K w := by
 refine OpW.val (w' := w) ?_ h
 have e1 : (ByteArray.mk a.toArray ++ ByteArray.mk b.toArray) = ByteArray.mk (a ++ b).toArray := by
  apply ByteArray.ext
  simp
 have hs : ¬ (((ByteArray.mk a.toArray).size + (ByteArray.mk b.toArray).size : Nat) : Int) > IntKind.i64.max := by
  simp [ByteArray.size, IntKind.max, IntKind.signed, IntKind.bits]; omega
 simp only [execOp, hx, hy, eqGuard, binOp, Op.stringOp]
 rw [if_neg hs, e1]
 rfl
theorem OpW.strCmp {op : BinOp} {b : Bool} {l r : List UInt8} {t u : TypeId} (hx : ev ρ x = str l) (hy : ev ρ y = str r)
  (hv : (match op with | .eql => some (decide (l = r)) | .neq => some (!decide (l = r)) | _ => none) = some b) (h : K (.bool b) w) :
  OpW P (.binOp op t x y u) ty ρ K w := by
 refine OpW.val (w' := w) ?_ h
 cases op <;> simp only [Option.some.injEq, reduceCtorEq] at hv <;> subst hv <;>
  simp [execOp, hx, hy, eqGuard, binOp, Op.stringOp, toList_mk, beq_dec]
theorem equal_bool {t : TypeId} (ht : P.underlying t = some .bool) (a b : Bool) (w : World) : (Op.equal t (.bool a) (.bool b)).run P w = .ok (a == b) w := by
 have key : ∀ d, (Op.equalIn (d + 1) t (.bool a) (.bool b)).run P w = .ok (a == b) w := fun d => by
  unfold Op.equalIn
  simp only [Sem.run_bind, run_underlying ht, Result.andThen_ok]
  rfl
 exact key 9999
theorem equal_ptr {t e : TypeId} (ht : P.underlying t = some (.pointer e)) (p : Option Addr) (w : World) : (Op.equal t (.pointer p) (.pointer none)).run P w = .ok p.isNone w := by
 have key : ∀ d, (Op.equalIn (d + 1) t (.pointer p) (.pointer none)).run P w = .ok p.isNone w := fun d => by
  unfold Op.equalIn
  simp only [Sem.run_bind, run_underlying ht, Result.andThen_ok]
  cases p <;> rfl
 exact key 9999
theorem equal_slice {t e : TypeId} (ht : P.underlying t = some (.slice e)) (a : Option Addr) (l c : Nat) (w : World) : (Op.equal t (.slice a l c) (.slice none 0 0)).run P w = .ok a.isNone w := by
 have key : ∀ d, (Op.equalIn (d + 1) t (.slice a l c) (.slice none 0 0)).run P w = .ok a.isNone w := fun d => by
  unfold Op.equalIn
  simp only [Sem.run_bind, run_underlying ht, Result.andThen_ok]
  cases a <;> rfl
 exact key 9999
theorem OpW.boolCmp {op : BinOp} {b l r : Bool} {t u : TypeId} (ht : P.underlying t = some .bool) (hx : ev ρ x = .bool l) (hy : ev ρ y = .bool r)
  (hv : (match op with | .eql => some (l == r) | .neq => some (!(l == r)) | _ => none) = some b) (h : K (.bool b) w) :
  OpW P (.binOp op t x y u) ty ρ K w := by
 refine OpW.val (w' := w) ?_ h
 cases op <;> simp only [Option.some.injEq, reduceCtorEq] at hv <;> subst hv <;>
  simp [execOp, hx, hy, eqGuard, binOp, equal_bool ht]
def ptrT (P : Program) (t : TypeId) : Bool := match P.underlying t with
 | some (.pointer _) => true
 | _ => false
theorem OpW.ptrNil {op : BinOp} {b : Bool} {p : Option Addr} {t u : TypeId} (ht : ptrT P t = true) (hx : ev ρ x = .pointer p) (hy : ev ρ y = .pointer none)
  (hv : (match op with | .eql => some p.isNone | .neq => some (!p.isNone) | _ => none) = some b) (h : K (.bool b) w) :
  OpW P (.binOp op t x y u) ty ρ K w := by
 refine OpW.val (w' := w) ?_ h
 unfold ptrT at ht
 split at ht
 ·rename_i e hu
  cases op <;> simp only [Option.some.injEq, reduceCtorEq] at hv <;> subst hv <;>
   simp [execOp, hx, hy, eqGuard, binOp, equal_ptr hu]
 ·simp at ht
theorem OpW.slNil {op : BinOp} {b : Bool} {s : Sl} {e : TypeId} {n : Nat} {t u : TypeId} (ht : sliceT P t = some (e, n)) (hx : ev ρ x = s.v) (hy : ev ρ y = .slice none 0 0)
  (hv : (match op with | .eql => some s.a.isNone | .neq => some (!s.a.isNone) | _ => none) = some b) (h : K (.bool b) w) :
  OpW P (.binOp op t x y u) ty ρ K w := by
 refine OpW.val (w' := w) ?_ h
 obtain ⟨a, l, c⟩ := s
 unfold sliceT at ht
 split at ht
 ·rename_i e hu
  cases op <;> simp only [Option.some.injEq, reduceCtorEq] at hv <;> subst hv <;>
   simp [execOp, hx, hy, eqGuard, binOp, equal_slice hu]
 ·simp at ht

theorem OpW.not {b : Bool} {t : TypeId} (hx : ev ρ x = .bool b) (h : K (.bool (!b)) w) : OpW P (.unOp .not t x) ty ρ K w :=
 OpW.val (w' := w) (by simp [execOp, hx, Op.unary]) h
theorem OpW.compl {k : IntKind} {a : Int} {t : TypeId} (hx : ev ρ x = .int k a) (h : K (.int k (k.wrap (BitVec.ofInt k.bits (if k.signed then -1 else k.max) ^^^ BitVec.ofInt k.bits a).toNat)) w) :
  OpW P (.unOp .xor t x) ty ρ K w :=
 OpW.val (w' := w) (by simp [execOp, hx, Op.unary, Op.intBits]) h
theorem OpW.neg {k : IntKind} {a : Int} {t : TypeId} (hx : ev ρ x = .int k a) (h : K (.int k (k.wrap (0 - a))) w) : OpW P (.unOp .neg t x) ty ρ K w :=
 OpW.val (w' := w) (by simp [execOp, hx, Op.unary, Op.intArith]) h

def intT (P : Program) (t : TypeId) : Option IntKind := match P.underlying t with
 | some (.int k) => some k
 | _ => none
theorem OpW.convInt {k l : IntKind} {a : Int} {s d : TypeId} (hs : intT P s = some l) (hd : intT P d = some k) (hx : ev ρ x = .int l a) (h : K (.int k (k.wrap a)) w) : OpW P (.convert s d x) ty ρ K w := by
 refine OpW.val (w' := w) ?_ h
 unfold intT at hs hd
 split at hs
 ·rename_i h1
  split at hd
  ·rename_i h2
   simp only [Option.some.injEq] at hs hd
   subst hs; subst hd
   simp [execOp, hx, convert, run_underlying h1, run_underlying h2, Conv.intToInt]
  ·simp at hd
 ·simp at hs

/-! ### addresses -/
theorem OpW.fieldAddr {s : TypeId} {f off : Nat} {a : Addr} (ht : fieldT P s f = some off) (hx : ev ρ x = .pointer (some a)) (h : K (.pointer (some (a.add off))) w) :
  OpW P (.fieldAddr s x f) ty ρ K w := by
 refine OpW.val (w' := w) ?_ h
 unfold fieldT at ht
 split at ht
 ·rename_i fs hu
  split at ht
  ·rename_i fd hf
   split at ht
   ·rename_i i hi
    split at ht
    ·simp at ht
    ·rename_i hz
     simp only [Option.some.injEq] at ht
     subst ht
     simp [execOp, hx, Instr.fieldAt, run_underlying hu, hf, Instr.sureAddr, fieldPlace, sizeOf, typeInfo, hi, hz]
   ·simp at ht
  ·simp at ht
 ·simp at ht
theorem OpW.indexAddr {t e : TypeId} {n : Nat} {s : Sl} {i : Int} {a : Addr} {k : IntKind} (ht : sliceT P t = some (e, n)) (hx : ev ρ x = s.v) (hy : ev ρ y = .int k i)
  (ha : s.a = some a) (h0 : 0 ≤ i) (h1 : i < s.len) (h : K (.pointer (some (a.add (i.toNat * n)))) w) : OpW P (.indexAddr t x y) ty ρ K w := by
 refine OpW.val (w' := w) ?_ h
 obtain ⟨sa, l, c⟩ := s
 simp only at ha h1
 subst ha
 unfold sliceT at ht
 split at ht
 ·rename_i e' hu
  split at ht
  ·rename_i j hi
   simp only [Option.some.injEq, Prod.mk.injEq] at ht
   obtain ⟨rfl, rfl⟩ := ht
   simp [execOp, hx, hy, Instr.indexAt, asIntOf, run_underlying hu, h0, h1, sizeOf, typeInfo, hi]
  ·simp at ht
 ·simp at ht
theorem OpW.indexArr {t : TypeId} {len n : Nat} {i : Int} {a : Addr} {k : IntKind} (ht : arrT P t = some (len, n)) (hx : ev ρ x = .pointer (some a)) (hy : ev ρ y = .int k i)
  (h0 : 0 ≤ i) (h1 : i < len) (h : K (.pointer (some (a.add (i.toNat * n)))) w) : OpW P (.indexAddr t x y) ty ρ K w := by
 refine OpW.val (w' := w) ?_ h
 unfold arrT at ht
 split at ht
 ·rename_i m e' hu
  split at ht
  ·rename_i j hi
   simp only [Option.some.injEq, Prod.mk.injEq] at ht
   obtain ⟨rfl, rfl⟩ := ht
   simp [execOp, hx, hy, Instr.indexAt, Instr.sureAddr, asIntOf, run_underlying hu, h0, h1, sizeOf, typeInfo, hi]
  ·simp at ht
 ·simp at ht
theorem OpW.indexStr {t : TypeId} {xs : List UInt8} {i : Int} {k : IntKind} {c : UInt8} (ht : P.underlying t = some .string) (hx : ev ρ x = str xs) (hy : ev ρ y = .int k i)
  (h0 : 0 ≤ i) (h1 : xs[i.toNat]? = some c) (h : K (.int .u8 c.toNat) w) : OpW P (.index t x y) ty ρ K w := by
 refine OpW.val (w' := w) ?_ h
 have : (ByteArray.mk xs.toArray)[i.toNat]? = some c := by
  rw [← h1]
  by_cases hl : i.toNat < xs.length
  ·rw [List.getElem?_eq_getElem hl]
   have : i.toNat < (ByteArray.mk xs.toArray).size := by simpa [ByteArray.size] using hl
   rw [getElem?_pos (ByteArray.mk xs.toArray) i.toNat this]
   rfl
  ·rw [List.getElem?_eq_none (by omega)]
   have : ¬ i.toNat < (ByteArray.mk xs.toArray).size := by simpa [ByteArray.size] using hl
   rw [getElem?_neg (ByteArray.mk xs.toArray) i.toNat this]
 simp [execOp, hx, hy, Instr.index, asIntOf, run_underlying ht, h0, this]

/-! ### loads and stores -/
theorem run_isAgg_one {t : TypeId} (ht : oneT P t = true) (w : World) : (isAgg t).run P w = .ok false w := by
 unfold oneT at ht
 split at ht <;> rename_i hu
 ·simp at ht
 ·simp at ht
 ·rename_i d h1 h2
  unfold isAgg
  simp only [Sem.run_bind, run_underlying hu, Result.andThen_ok]
  cases d <;> first | rfl | exact absurd rfl (h1 _) | exact absurd rfl (h2 _ _)
 ·simp at ht
theorem OpW.load1 {t : TypeId} {a : Addr} (ht : oneT P t = true) (hx : ev ρ x = .pointer (some a)) (hc : w.cell? a = some v) (h : K v w) : OpW P (.load t x) ty ρ K w := by
 refine OpW.val (w' := w) ?_ h
 simp only [execOp, hx, Instr.loadAt, Instr.sureAddr, loadVar, load, Sem.run_bind, Sem.run_pure, Result.andThen_ok, run_isAgg_one ht, Bool.false_eq_true, if_false, Sem.run, hc]
theorem run_isAgg_agg {t : TypeId} {n : Nat} (ht : aggT P t = some n) (w : World) : (isAgg t).run P w = .ok true w := by
 unfold aggT at ht
 split at ht <;> rename_i hu _
 ·unfold isAgg
  simp only [Sem.run_bind, run_underlying hu, Result.andThen_ok]; rfl
 ·unfold isAgg
  simp only [Sem.run_bind, run_underlying hu, Result.andThen_ok]; rfl
 ·simp at ht
theorem run_sizeOf_agg {t : TypeId} {n : Nat} (ht : aggT P t = some n) (w : World) : (sizeOf t).run P w = .ok n w := by
 unfold aggT at ht
 split at ht <;> rename_i _ hi
 ·simp only [Option.some.injEq] at ht; subst ht; simp [sizeOf, typeInfo, hi]
 ·simp only [Option.some.injEq] at ht; subst ht; simp [sizeOf, typeInfo, hi]
 ·simp at ht
theorem OpW.loadA {t : TypeId} {a : Addr} {n : Nat} {cs : List Value} (ht : aggT P t = some n) (hx : ev ρ x = .pointer (some a)) (hl : cs.length = n) (hc : At w a cs) (h : K (aggv cs) w) :
  OpW P (.load t x) ty ρ K w := by
 refine OpW.val (w' := w) ?_ h
 subst hl
 simp only [execOp, hx, Instr.loadAt, Instr.sureAddr, loadVar, Sem.run_bind, Sem.run_pure, Result.andThen_ok, run_isAgg_agg ht, run_sizeOf_agg ht, if_true, run_loadCells_list w a cs hc]

theorem run_sizeOf {t : TypeId} {n : Nat} (ht : sizeT P t = some n) (w : World) : (sizeOf t).run P w = .ok n w := by
 unfold sizeT at ht
 cases hi : P.info? t with
 | none => simp [hi] at ht
 | some i => simp [hi] at ht; subst ht; simp [sizeOf, typeInfo, hi]
theorem OpW.store1 {t : TypeId} {a : Addr} {u : Value} (ht : sizeT P t = some 1) (hx : ev ρ x = .pointer (some a)) (hy : ev ρ y = v) (h1 : v.oneCell' = true) (hc : w.cell? a = some u) (hf : w.frozen? a = false)
  (h : K undef (w.setCell a v)) : OpW P (.store t x y) ty ρ K w := by
 refine OpW.unit (w' := w.setCell a v) ?_ h
 have hcs : v.cells = #[v] := by cases v <;> first | rfl | (simp [Value.oneCell'] at h1)
 simp only [execOp, hx, hy, Instr.storeAt, Instr.sureAddr, storeVar, Sem.run_bind, Sem.run_pure, Result.andThen_ok, run_sizeOf ht, hcs]
 cases v <;> first
  | (simp [storeCells, store, Addr.add, Sem.run, hc, hf]; done)
  | (simp [Value.oneCell'] at h1)
/-- a whole row, written into a block that is not frozen -/
theorem OpW.storeA {t : TypeId} {g o : Nat} {e : TypeId} {n : Nat} {cur : Array Value} {cs : List Value} (ht : sizeT P t = some n) (hx : ev ρ x = .pointer (some ⟨g, o, none⟩)) (hy : ev ρ y = aggv cs)
  (hl : cs.length = n) (hg : w.heap[g]? = some (.cells cur e (0, 0))) (hfit : o + cs.length ≤ cur.size) (h1 : ∀ v ∈ cs, v.oneCell' = true)
  (h : K undef (w.setRow g (cur.toList.take o ++ cs ++ cur.toList.drop (o + cs.length)).toArray)) : OpW P (.store t x y) ty ρ K w := by
 refine OpW.unit ?_ h
 subst hl
 have := run_storeCells_at P g o e cs 0 cur w hg (by omega) h1
 simp only [Nat.add_zero] at this
 simp [execOp, hx, hy, Instr.storeAt, Instr.sureAddr, storeVar, run_sizeOf ht, Value.cells, this]

/-! ### new memory -/
theorem run_zeroValue_cells {t : TypeId} {zs : List Value} (ht : zeroT P t = some zs) (w : World) : ∃ z : Value, (zeroValue t).run P w = .ok z w ∧ z.cells = zs.toArray := by
 unfold zeroT at ht
 cases hi : P.info? t with
 | none => simp [hi] at ht
 | some i =>
  simp only [hi, Option.bind_some] at ht
  cases hz : i.zero with
  | none => simp [hz] at ht
  | some z =>
   simp only [hz, Option.map_some, Option.some.injEq] at ht
   refine ⟨z, by simp [zeroValue, typeInfo, hi, hz], ?_⟩
   rw [← ht]
theorem OpW.alloc {t : TypeId} {zs : List Value} (ht : zeroT P t = some zs) (h : K (.pointer (some ⟨w.heap.size, 0, none⟩)) (w.alloc (.cells zs.toArray t))) : OpW P (.alloc t) ty ρ K w := by
 refine OpW.val (w' := w.alloc (.cells zs.toArray t)) ?_ h
 obtain ⟨z, hz, hc⟩ := run_zeroValue_cells ht w
 simp [execOp, Instr.alloc, hz, newVar, newRow, newObj, hc, Sem.run]
theorem OpW.box {t : TypeId} {cs : List Value} (hx : (ev ρ x).cells = cs.toArray) (h : K (.pointer (some ⟨w.heap.size, 0, none⟩)) (w.alloc (.cells cs.toArray t))) : OpW P (.box t x) ty ρ K w := by
 refine OpW.val (w' := w.alloc (.cells cs.toArray t)) ?_ h
 simp [execOp, Instr.box, newVar, newRow, newObj, hx, Sem.run]
/-- A variable that is made and at once given a value. -/
theorem setRow_alloc (w : World) (cs ds : Array Value) (t : TypeId) : (w.alloc (.cells cs t)).setRow w.heap.size ds = w.alloc (.cells ds t) := by
 unfold World.alloc World.setRow
 congr 1
 apply Array.ext
 ·simp
 ·intro i h1 h2
  simp only [Array.getElem_modify, Array.getElem_push]
  split
  ·rename_i e; subst e; simp
  ·rename_i e
   split
   ·rfl
   ·rename_i h3; simp at h1; omega
theorem heap_new (w : World) (o : Obj) : (w.alloc o).heap[w.heap.size]? = some o := by
 show (w.heap.push o)[w.heap.size]? = some o
 simp
theorem OpW.storeFresh {t : TypeId} {zs cs : List Value} {n : Nat} (ht : sizeT P t = some n) (hx : ev ρ x = .pointer (some ⟨w.heap.size, 0, none⟩)) (hy : (ev ρ y).cells = cs.toArray)
  (hl : cs.length = n) (hz : zs.length = n) (h1 : ∀ v ∈ cs, v.oneCell' = true) (h : K undef (w.alloc (.cells cs.toArray t))) : OpW P (.store t x y) ty ρ K (w.alloc (.cells zs.toArray t)) := by
 refine OpW.unit ?_ h
 have := run_storeCells_at P w.heap.size 0 t cs 0 zs.toArray (w.alloc (.cells zs.toArray t)) (heap_new _ _) (by simp; omega) h1
 simp only [Nat.add_zero, Nat.zero_add] at this
 have e : (zs.toArray.toList.take 0 ++ cs ++ zs.toArray.toList.drop cs.length) = cs := by simp [List.drop_of_length_le (show zs.length ≤ cs.length by omega)]
 rw [e, setRow_alloc] at this
 simp [execOp, hx, hy, Instr.storeAt, Instr.sureAddr, storeVar, run_sizeOf ht, hl, this]

/-! ### calls -/
theorem OpW.call {f : FuncId} {fn : Func} {xs : Array Operand} {ts : Array TypeId} {args : Array Value} (hf : P.funcs[f]? = some fn) (hb : fn.body.isNone = false) (hn : decide (fn.name = "runtime.NumGoroutine") = false)
  (ha : xs.map (ev ρ) = args)
  (h : Calls P f args w fun e w' => match e with | .returned v => K v w' | _ => False) : OpW P (.call { callee := .value (.func f), args := xs, argTypes := ts }) ty ρ K w := by
 unfold OpW
 have : (execOp (ev ρ) ⟨none, .call { callee := .value (.func f), args := xs, argTypes := ts }, ty, "", #[], none⟩).run P w = .ok (.enter f args) w := by
  have hn' : ¬ fn.name = "runtime.NumGoroutine" := of_decide_eq_false hn
  simp only [execOp, resolve, ev, Deferred.ofValue]
  have hb' : ¬ fn.body = none := fun e => by simp [e] at hb
  simp [invoke, callFunc, hf, hn', hb', ha, Sem.run, program]
 rw [this]
 exact h
theorem size_mk (xs : List UInt8) : (ByteArray.mk xs.toArray).size = xs.length := rfl
theorem OpW.len {t : TypeId} {s : Sl} {e : TypeId} {n : Nat} (ht : sliceT P t = some (e, n)) (hx : ev ρ x = s.v) (h : K (.int .i64 s.len) w) : OpW P (.call { callee := .builtin .len, args := #[x], argTypes := #[t] }) ty ρ K w := by
 refine OpW.val (w' := w) ?_ h
 unfold sliceT at ht
 split at ht
 ·rename_i e hu
  simp [execOp, resolve, invoke, builtin, Builtin.len_, run_underlying hu, hx, goInt]
 ·simp at ht
theorem OpW.cap {t : TypeId} {s : Sl} {e : TypeId} {n : Nat} (ht : sliceT P t = some (e, n)) (hx : ev ρ x = s.v) (h : K (.int .i64 s.cap) w) : OpW P (.call { callee := .builtin .cap, args := #[x], argTypes := #[t] }) ty ρ K w := by
 refine OpW.val (w' := w) ?_ h
 unfold sliceT at ht
 split at ht
 ·rename_i e hu
  simp [execOp, resolve, invoke, builtin, Builtin.cap_, run_underlying hu, hx, goInt]
 ·simp at ht
theorem OpW.lenStr {t : TypeId} {xs : List UInt8} (ht : P.underlying t = some .string) (hx : ev ρ x = str xs) (h : K (.int .i64 xs.length) w) : OpW P (.call { callee := .builtin .len, args := #[x], argTypes := #[t] }) ty ρ K w := by
 refine OpW.val (w' := w) ?_ h
 simp [execOp, resolve, invoke, builtin, Builtin.len_, run_underlying ht, hx, goInt, size_mk]
theorem OpW.lenArr {t : TypeId} {n m : Nat} (ht : arrT P t = some (n, m)) (h : K (.int .i64 n) w) : OpW P (.call { callee := .builtin .len, args := #[x], argTypes := #[t] }) ty ρ K w := by
 refine OpW.val (w' := w) ?_ h
 unfold arrT at ht
 split at ht
 ·rename_i m e' hu
  split at ht
  ·rename_i j hi
   simp only [Option.some.injEq, Prod.mk.injEq] at ht
   obtain ⟨rfl, rfl⟩ := ht
   simp [execOp, resolve, invoke, builtin, Builtin.len_, run_underlying hu, goInt]
  ·simp at ht
 ·simp at ht
/-- Any operation whose run is known. -/
theorem OpW.runBuiltin {b : Builtin} {xs : Array Operand} {ts : Array TypeId} {args : Array Value} {w' : World} (ha : xs.map (ev ρ) = args) (hr : (builtin b ts ty (xs.map fun | .const _ => true | _ => false) args).run P w = .ok (.value v) w')
  (h : K v w') : OpW P (.call { callee := .builtin b, args := xs, argTypes := ts }) ty ρ K w := by
 refine OpW.val (w' := w') ?_ h
 subst ha
 simp only [execOp, resolve, invoke, Sem.run_bind, Sem.run_pure, Result.andThen_ok]
 exact hr
theorem OpW.append {xs : Array Operand} {ts : Array TypeId} {args : Array Value} {w' : World} (ha : xs.map (ev ρ) = args) (hr : (Builtin.append_ ts ty args).run P w = .ok v w')
  (h : K v w') : OpW P (.call { callee := .builtin .append, args := xs, argTypes := ts }) ty ρ K w :=
 OpW.runBuiltin ha (by simp [builtin, hr]) h
theorem OpW.copy {xs : Array Operand} {ts : Array TypeId} {args : Array Value} {w' : World} (ha : xs.map (ev ρ) = args) (hr : (Builtin.copy_ ts ty args).run P w = .ok v w')
  (h : K v w') : OpW P (.call { callee := .builtin .copy, args := xs, argTypes := ts }) ty ρ K w :=
 OpW.runBuiltin ha (by simp [builtin, hr]) h
theorem OpW.min2 {k l : IntKind} {a b : Int} {t : Array TypeId} (hx : ev ρ x = .int k a) (hy : ev ρ y = .int l b) (h : K (.int k (if b < a then b else a)) w) :
  OpW P (.call { callee := .builtin .min, args := #[x, y], argTypes := t }) ty ρ K w :=
 OpW.runBuiltin (args := #[.int k a, .int l b]) (by simp [hx, hy]) (by simp [builtin, Builtin.min_, Builtin.min2]) h
theorem OpW.max2 {k l : IntKind} {a b : Int} {t : Array TypeId} (hx : ev ρ x = .int k a) (hy : ev ρ y = .int l b) (h : K (.int k (if b > a then b else a)) w) :
  OpW P (.call { callee := .builtin .max, args := #[x, y], argTypes := t }) ty ρ K w :=
 OpW.runBuiltin (args := #[.int k a, .int l b]) (by simp [hx, hy]) (by simp [builtin, Builtin.max_, Builtin.max2]) h
end
end Go.Lift
end
section
/- Operations that cut slices, build values and make memory, over typed values: one law for each. -/
namespace Go.Lift
/-- A slice of a slice, or of an array's variable. -/
def Sl.cut (s : Sl) (n : Nat) (l h m : Int) : Sl := ⟨if m.toNat = l.toNat then s.a else s.a.map (·.add (l.toNat * n)), h.toNat - l.toNat, m.toNat - l.toNat⟩
def optI (ρ : Env) (o : Option Operand) (d l : Int) : Prop := match o with
 | none => l = d
 | some x => ∃ k, ev ρ x = .int k l

def byteSl (P : Program) (t : TypeId) : Bool := match P.underlying t with
 | some (.slice e) => match P.underlying e with
  | some (.int .u8) => true
  | _ => false
 | _ => false
def strT (P : Program) (t : TypeId) : Bool := match P.underlying t with
 | some .string => true
 | _ => false
theorem strT_eq {P : Program} {t : TypeId} (h : strT P t = true) : P.underlying t = some .string := by
 unfold strT at h; split at h <;> simp_all
theorem byteSl_eq {P : Program} {t : TypeId} (h : byteSl P t = true) : ∃ e, P.underlying t = some (.slice e) ∧ P.underlying e = some (.int .u8) := by
 unfold byteSl at h
 split at h
 ·rename_i e he
  split at h
  ·rename_i h2; exact ⟨e, he, h2⟩
  ·simp at h
 ·simp at h

/-- What 'make' of a slice gives: its cells. -/
def mkCells (P : Program) (t : TypeId) : Option (TypeId × Nat × Nat × List Value) := match P.underlying t with
 | some (.slice e) => match P.info? e with
  | some i => match i.zero with
   | some z => some (e, i.size, i.bytes, z.cells.toList)
   | none => none
  | none => none
 | _ => none
def fillCells (P : Program) (t : TypeId) (len : Nat) (parts : List (Nat × Value)) : Option (TypeId × Array Value) := match P.underlying t with
 | some (.slice e) => match P.info? e with
  | some i => match i.zero with
   | some z => if len * i.size > 2 ^ 24 then none else
    let zero := if len * i.size = 0 then #[] else z.cells
    (Instr.fill (fun k => some (k * i.size, i.size)) ((Array.range (len * i.size)).map (zero[· % zero.size]!)) parts).map (e, ·)
   | none => none
  | none => none
 | _ => none
theorem foldl_set (l : List Value) : ∀ (k : Nat) (cells : Array Value), k + l.length ≤ cells.size →
  ((l.zipIdx k).foldl (fun (cs : Array Value) (p : Value × Nat) => cs.setIfInBounds (0 + p.2) p.1) cells).toList = cells.toList.take k ++ l ++ cells.toList.drop (k + l.length) := by
 induction l with
 | nil => intro k cells h; simp
 | cons c l ih =>
  intro k cells h
  simp only [List.length_cons] at h
  rw [List.zipIdx_cons, List.foldl_cons, ih (k + 1) _ (by simp; omega)]
  simp only [Nat.zero_add, Array.toList_setIfInBounds, List.length_cons]
  rw [List.take_set, List.drop_set_of_lt (by omega)]
  have hk : k < cells.toList.length := by simp; omega
  rw [List.take_succ_eq_append_getElem hk, List.set_append]
  have hlk : (List.take k cells.toList).length = k := by simp; omega
  rw [hlk, if_neg (by omega), Nat.sub_self]
  simp only [List.set_cons_zero, List.append_assoc, List.cons_append, List.nil_append]
  rw [show k + 1 + l.length = k + (l.length + 1) by omega]
theorem fillOne {P : Program} {t e : TypeId} {size bytes : Nat} {zs cs : List Value} (h : mkCells P t = some (e, size, bytes, zs)) (hz : zs.length = size) (hs : size ≤ 16777216) (h0 : 0 < size) (hl : cs.length = size) : fillCells P t 1 [(0, .agg cs.toArray)] = some (e, cs.toArray) := by
 unfold mkCells at h
 unfold fillCells
 split at h
 ·rename_i e' hu
  split at h
  ·rename_i i hi
   split at h
   ·rename_i z hzz
    simp only [Option.some.injEq, Prod.mk.injEq] at h
    obtain ⟨rfl, hsz, hby, hzs⟩ := h
    simp only [hu, hi, hzz, hsz]
    rw [if_neg (by omega)]
    have hzc : z.cells.size = size := by rw [← hz, ← hzs]; simp
    have hv : (Value.agg cs.toArray).cells = cs.toArray := rfl
    generalize z.cells = zc at hzc
    have hn : ¬ (1 * size = 0) := by omega
    have hg : ¬ (cs.toArray.size ≠ size ∨ 0 * size + cs.toArray.size > ((Array.range (1 * size)).map (fun x => zc[x % zc.size]!)).size) := by simp; omega
    simp only [Instr.fill, hv, hn, if_false, hzc] at hg ⊢
    rw [if_neg (by simpa using hg)]
    simp only [Option.map_some, Option.some.injEq, Prod.mk.injEq, true_and]
    apply Array.ext'
    have := foldl_set cs 0 ((Array.range (1 * size)).map (fun x => zc[x % size]!)) (by simp; omega)
    rw [← Array.foldl_toList]
    simp only [Array.toList_zipIdx, Nat.zero_mul]
    rw [this]
    simp [hl]
   ·simp at h
  ·simp at h
 ·simp at h
def structPlaces (P : Program) (fs : Array Field) : Option (List (Nat × Nat)) :=
 fs.toList.foldr (fun f acc => match acc, P.info? f.type with
  | some l, some i => some ((f.offset, i.size) :: l)
  | _, _ => none) (some [])

section
variable {P : Program} {ty : TypeId} {ρ : Env} {K : Value → World → Prop} {w : World} {x y z : Operand} {v : Value}

theorem OpW.b2s {s d : TypeId} {sl : Sl} {bs : List UInt8} (hs : byteSl P s = true) (hd : strT P d = true) (hx : ev ρ x = sl.v) (hl : bs.length = sl.len) (hc : AtO w sl.a (u8s bs)) (h : K (str bs) w) :
  OpW P (.convert s d x) ty ρ K w := by
 refine OpW.val (w' := w) ?_ h
 obtain ⟨e, h1, h2⟩ := byteSl_eq hs
 have h3 := strT_eq hd
 obtain ⟨a, l, c⟩ := sl
 simp only at hl hc
 subst hl
 cases a with
 | none =>
  have : bs = [] := by
   have : u8s bs = [] := hc
   simpa [u8s] using this
  subst this
  simp only [execOp, hx, convert, Sem.run_bind, run_underlying h1, run_underlying h2, run_underlying h3, Result.andThen_ok]
  rfl
 | some a =>
  have hr := run_convert_bytes_back (P := P) w s d e a c bs h1 h2 h3 (fun j hj => hc j _ (by simp [u8s, List.getElem?_eq_getElem hj]))
  simp only [execOp, hx, Sem.run_bind, hr, Result.andThen_ok]
  rfl

theorem OpW.s2b {s d : TypeId} {bs : List UInt8} (hs : strT P s = true) (hd : byteSl P d = true) (hx : ev ρ x = str bs)
  (h : ∀ (e : TypeId) (n : Nat), bs.length ≤ n → n ≤ maxLen ∨ maxLen < bs.length → K (.slice (some ⟨w.heap.size, 0, none⟩) bs.length n) (w.drew.alloc (.cells (u8s bs ++ List.replicate (n - bs.length) (Value.int .u8 0)).toArray e (n, n + 1)))) :
  OpW P (.convert s d x) ty ρ K w := by
 obtain ⟨e, h1, h2⟩ := byteSl_eq hd
 have h3 := strT_eq hs
 have hr := run_bytes_of_string (P := P) w s d e ⟨bs.toArray⟩ h3 h1 h2
 have hge := grownCap_ge w bs.length 0 e
 have hrow : bytesRow ⟨bs.toArray⟩ (grownCap w bs.length 0 e) = (u8s bs ++ List.replicate (grownCap w bs.length 0 e - bs.length) (Value.int .u8 0)).toArray := by
  simp [bytesRow, u8s, size_mk]
 have hsz : (u8s bs ++ List.replicate (grownCap w bs.length 0 e - bs.length) (Value.int .u8 0)).toArray.size = grownCap w bs.length 0 e := by
  simp [u8s]; omega
 simp only [size_mk] at hr
 rw [hrow, hsz] at hr
 refine OpW.val (w' := _) ?_ (h e (grownCap w bs.length 0 e) hge ?_)
 ·simp only [execOp, hx, Sem.run_bind, hr, Result.andThen_ok]
  rfl
 ·by_cases hm : bs.length ≤ maxLen
  ·exact .inl (grownCap_le_maxLen w _ _ _ hm)
  ·exact .inr (by omega)

/-- '[]byte("..")' as the translation has it: the row, marked. -/
theorem OpW.mark {t : TypeId} {sl : Sl} {b o : Nat} {c : Array Value} {e : TypeId} {fr : Nat × Nat} (ht : byteSl P t = true) (hx : ev ρ x = sl.v) (ha : sl.a = some ⟨b, o, none⟩) (hg : w.heap[b]? = some (.cells c e fr))
  (h : K sl.v (w.freeze ⟨b, c.size, none⟩ 1)) : OpW P (.convert t t x) ty ρ K w := by
 refine OpW.val (w' := w.freeze ⟨b, c.size, none⟩ 1) ?_ h
 obtain ⟨e', h1, h2⟩ := byteSl_eq ht
 obtain ⟨a, l, cp⟩ := sl
 simp only at ha
 subst ha
 have hsh : w.shape? b = some (e, c.size) := by simp [World.shape?, hg]
 simp [execOp, hx, convert, run_underlying h1, run_underlying h2, markStringish, hsh]

theorem OpW.sliceSl {t e : TypeId} {n : Nat} {s : Sl} {lo hi : Option Operand} {l h : Int} (ht : sliceT P t = some (e, n)) (hx : ev ρ x = s.v) (hlo : optI ρ lo 0 l) (hhi : optI ρ hi s.len h)
  (h0 : 0 ≤ l) (h1 : l ≤ h) (h2 : hi = none ∨ h ≤ s.cap) (hk : K (s.cut n l h s.cap).v w) : OpW P (.slice t x lo hi none) ty ρ K w := by
 refine OpW.val (w' := w) ?_ hk
 obtain ⟨a, len, cap⟩ := s
 obtain ⟨h, rfl⟩ := Int.eq_ofNat_of_zero_le (show 0 ≤ h by omega)
 obtain ⟨l, rfl⟩ := Int.eq_ofNat_of_zero_le h0
 have h1' : l ≤ h := by omega
 unfold sliceT at ht
 split at ht
 ·rename_i e' hu
  split at ht
  ·rename_i j hi'
   simp only [Option.some.injEq, Prod.mk.injEq] at ht
   obtain ⟨rfl, rfl⟩ := ht
   cases lo with
   | none =>
    have hl0 : l = 0 := by simpa [optI] using hlo
    subst hl0
    cases hi with
    | none =>
     have hh0 : h = len := by simp only [optI] at hhi; exact Int.ofNat.inj hhi
     subst hh0
     simp [execOp, hx, Instr.sliceAt, Instr.slice, run_underlying hu, Instr.sliceBounds, sizeOf, typeInfo, hi', Sl.cut]
    | some o =>
     obtain ⟨k, hk'⟩ := hhi
     have h2' : h ≤ cap := by have := h2.resolve_left (by simp); simp only at this; omega
     simp [execOp, hx, hk', Instr.sliceAt, Instr.slice, run_underlying hu, Instr.sliceBounds, Instr.sliceBound, asIntOf, sizeOf, typeInfo, hi', Sl.cut, h2']
   | some q =>
    obtain ⟨k, hq⟩ := hlo
    cases hi with
    | none =>
     have hh0 : h = len := by simp only [optI] at hhi; exact Int.ofNat.inj hhi
     subst hh0
     simp [execOp, hx, hq, Instr.sliceAt, Instr.slice, run_underlying hu, Instr.sliceBounds, Instr.sliceBound, asIntOf, sizeOf, typeInfo, hi', Sl.cut, h1']
    | some o =>
     obtain ⟨k, hk'⟩ := hhi
     have h2' : h ≤ cap := by have := h2.resolve_left (by simp); simp only at this; omega
     simp [execOp, hx, hk', hq, Instr.sliceAt, Instr.slice, run_underlying hu, Instr.sliceBounds, Instr.sliceBound, asIntOf, sizeOf, typeInfo, hi', Sl.cut, h2', h1']
  ·simp at ht
 ·simp at ht

theorem OpW.slice3 {t e : TypeId} {n : Nat} {s : Sl} {lo : Option Operand} {hi mx : Operand} {l h m : Int} {k1 k2 : IntKind} (ht : sliceT P t = some (e, n)) (hx : ev ρ x = s.v) (hlo : optI ρ lo 0 l) (hhi : ev ρ hi = .int k1 h) (hmx : ev ρ mx = .int k2 m)
  (h0 : 0 ≤ l) (h1 : l ≤ h) (h2 : h ≤ m) (h3 : m ≤ s.cap) (hk : K (s.cut n l h m).v w) : OpW P (.slice t x lo (some hi) (some mx)) ty ρ K w := by
 refine OpW.val (w' := w) ?_ hk
 obtain ⟨a, len, cap⟩ := s
 simp only at h3
 obtain ⟨m, rfl⟩ := Int.eq_ofNat_of_zero_le (show 0 ≤ m by omega)
 obtain ⟨h, rfl⟩ := Int.eq_ofNat_of_zero_le (show 0 ≤ h by omega)
 obtain ⟨l, rfl⟩ := Int.eq_ofNat_of_zero_le h0
 have h1' : l ≤ h := by omega
 have h2' : h ≤ m := by omega
 have h3' : m ≤ cap := by omega
 unfold sliceT at ht
 split at ht
 ·rename_i e' hu
  split at ht
  ·rename_i j hi'
   simp only [Option.some.injEq, Prod.mk.injEq] at ht
   obtain ⟨rfl, rfl⟩ := ht
   cases lo with
   | none =>
    have hl0 : l = 0 := by simpa [optI] using hlo
    subst hl0
    simp [execOp, hx, hhi, hmx, Instr.sliceAt, Instr.slice, run_underlying hu, Instr.sliceBounds, Instr.sliceBound, asIntOf, sizeOf, typeInfo, hi', Sl.cut, h2', h3']
   | some q =>
    obtain ⟨k, hq⟩ := hlo
    simp [execOp, hx, hhi, hmx, hq, Instr.sliceAt, Instr.slice, run_underlying hu, Instr.sliceBounds, Instr.sliceBound, asIntOf, sizeOf, typeInfo, hi', Sl.cut, h1', h2', h3']
  ·simp at ht
 ·simp at ht

theorem OpW.sliceArr {t : TypeId} {len n : Nat} {a : Addr} {lo hi : Option Operand} {l h : Int} (ht : arrT P t = some (len, n)) (hx : ev ρ x = .pointer (some a)) (hlo : optI ρ lo 0 l) (hhi : optI ρ hi len h)
  (h0 : 0 ≤ l) (h1 : l ≤ h) (h2 : h ≤ len) (hk : K (Sl.cut ⟨some a, len, len⟩ n l h len).v w) : OpW P (.slice t x lo hi none) ty ρ K w := by
 refine OpW.val (w' := w) ?_ hk
 obtain ⟨h, rfl⟩ := Int.eq_ofNat_of_zero_le (show 0 ≤ h by omega)
 obtain ⟨l, rfl⟩ := Int.eq_ofNat_of_zero_le h0
 have h1' : l ≤ h := by omega
 have h2' : h ≤ len := by omega
 have hif : ∀ (c : Prop) [Decidable c] (a b : Addr), some (if c then a else b) = if c then some a else some b := fun c _ a b => by split <;> rfl
 unfold arrT at ht
 split at ht
 ·rename_i m e' hu
  split at ht
  ·rename_i j hi'
   simp only [Option.some.injEq, Prod.mk.injEq] at ht
   obtain ⟨rfl, rfl⟩ := ht
   cases lo with
   | none =>
    have hl0 : l = 0 := by simpa [optI] using hlo
    subst hl0
    cases hi with
    | none =>
     have hh0 : h = m := by simp only [optI] at hhi; exact Int.ofNat.inj hhi
     subst hh0
     simp [execOp, hx, Instr.sliceAt, Instr.sureAddr, run_underlying hu, Instr.sliceBounds, sizeOf, typeInfo, hi', Sl.cut, hif]
    | some o =>
     obtain ⟨k, hk'⟩ := hhi
     simp [execOp, hx, hk', Instr.sliceAt, Instr.sureAddr, run_underlying hu, Instr.sliceBounds, Instr.sliceBound, asIntOf, sizeOf, typeInfo, hi', Sl.cut, h2', hif]
   | some q =>
    obtain ⟨k, hq⟩ := hlo
    cases hi with
    | none =>
     have hh0 : h = m := by simp only [optI] at hhi; exact Int.ofNat.inj hhi
     subst hh0
     simp [execOp, hx, hq, Instr.sliceAt, Instr.sureAddr, run_underlying hu, Instr.sliceBounds, Instr.sliceBound, asIntOf, sizeOf, typeInfo, hi', Sl.cut, h1', hif]
    | some o =>
     obtain ⟨k, hk'⟩ := hhi
     simp [execOp, hx, hk', hq, Instr.sliceAt, Instr.sureAddr, run_underlying hu, Instr.sliceBounds, Instr.sliceBound, asIntOf, sizeOf, typeInfo, hi', Sl.cut, h1', h2', hif]
  ·simp at ht
 ·simp at ht

theorem extract_mk (xs : List UInt8) (l h : Nat) (hh : h ≤ xs.length) : (ByteArray.mk xs.toArray).extract l h = ByteArray.mk ((xs.take h).drop l).toArray := by
 apply ByteArray.ext
 rw [ByteArray.data_extract]
 simp only [List.extract_toArray, List.extract_eq_take_drop]
 congr 1
 rw [List.drop_take]

theorem OpW.sliceStr {t : TypeId} {xs : List UInt8} {lo hi : Option Operand} {l h : Int} (ht : strT P t = true) (hx : ev ρ x = str xs) (hlo : optI ρ lo 0 l) (hhi : optI ρ hi xs.length h)
  (h0 : 0 ≤ l) (h1 : l ≤ h) (h2 : h ≤ xs.length) (hk : K (str ((xs.take h.toNat).drop l.toNat)) w) : OpW P (.slice t x lo hi none) ty ρ K w := by
 refine OpW.val (w' := w) ?_ hk
 have hu := strT_eq ht
 obtain ⟨h, rfl⟩ := Int.eq_ofNat_of_zero_le (show 0 ≤ h by omega)
 obtain ⟨l, rfl⟩ := Int.eq_ofNat_of_zero_le h0
 have h1' : l ≤ h := by omega
 have h2' : h ≤ xs.length := by omega
 have he := extract_mk xs l h h2'
 simp only [Int.toNat_natCast]
 rw [show str ((xs.take h).drop l) = .string ((ByteArray.mk xs.toArray).extract l h) from by rw [he]]
 cases lo with
 | none =>
  have hl0 : l = 0 := by simpa [optI] using hlo
  subst hl0
  cases hi with
  | none =>
   have hh0 : h = xs.length := by simp only [optI] at hhi; exact Int.ofNat.inj hhi
   subst hh0
   rw [he]
   simp [execOp, hx, Instr.sliceAt, Instr.slice, run_underlying hu, Instr.sliceBounds, size_mk]
  | some o =>
   obtain ⟨k, hk'⟩ := hhi
   simp [execOp, hx, hk', Instr.sliceAt, Instr.slice, run_underlying hu, Instr.sliceBounds, Instr.sliceBound, asIntOf, size_mk, h2']
 | some q =>
  obtain ⟨k, hq⟩ := hlo
  cases hi with
  | none =>
   have hh0 : h = xs.length := by simp only [optI] at hhi; exact Int.ofNat.inj hhi
   subst hh0
   simp [execOp, hx, hq, Instr.sliceAt, Instr.slice, run_underlying hu, Instr.sliceBounds, Instr.sliceBound, asIntOf, size_mk, h1']
  | some o =>
   obtain ⟨k, hk'⟩ := hhi
   simp [execOp, hx, hk', hq, Instr.sliceAt, Instr.slice, run_underlying hu, Instr.sliceBounds, Instr.sliceBound, asIntOf, size_mk, h2', h1']

/-! ### building -/
theorem OpW.buildSlice {t e : TypeId} {len : Nat} {parts : Array (Nat × Operand)} {vs : List (Nat × Value)} {cs : List Value} (hv : (parts.map fun (i, q) => (i, ev ρ q)).toList = vs)
  (hf : fillCells P t len vs = some (e, cs.toArray)) (h : K (.slice (some ⟨w.heap.size, 0, none⟩) len len) (w.alloc (.cells cs.toArray e))) : OpW P (.buildSlice t len parts) ty ρ K w := by
 refine OpW.val (w' := w.alloc (.cells cs.toArray e)) ?_ h
 unfold fillCells at hf
 split at hf
 ·rename_i e' hu
  split at hf
  ·rename_i i hi
   split at hf
   ·rename_i z hz
    split at hf
    ·simp at hf
    ·rename_i hle
     simp only [Option.map_eq_some_iff, Prod.mk.injEq] at hf
     obtain ⟨cells, hfill, rfl, rfl⟩ := hf
     by_cases h00 : len * i.size = 0
     ·simp only [h00, if_true] at hfill
      simp only [execOp, Instr.buildSlice, Sem.run_bind, Sem.run_pure, run_underlying hu, Result.andThen_ok, sizeOf, typeInfo, program, Sem.run, hi, if_false, h00, if_true, show ¬ (0 > 2 ^ 24) from by decide]
      rw [hv, hfill]
      simp [newRow, newObj, Sem.run]
     ·simp only [h00, if_false] at hfill
      have hzr : (zeroValue e').run P w = .ok z w := by simp [zeroValue, typeInfo, hi, hz]
      simp only [execOp, Instr.buildSlice, Sem.run_bind, Sem.run_pure, run_underlying hu, Result.andThen_ok, sizeOf, typeInfo, program, Sem.run, hi, hle, if_false, h00, hzr]
      rw [hv, hfill]
      simp [newRow, newObj, Sem.run]
   ·simp at hf
  ·simp at hf
 ·simp at hf

theorem OpW.buildRun {t : TypeId} {parts : Array (Nat × Operand)} {vs : List (Nat × Value)} {cs : List Value} (hv : (parts.map fun (i, q) => (i, ev ρ q)).toList = vs)
  (hf : ∀ w, (Instr.build t vs.toArray).run P w = .ok (aggv cs) w) (h : K (aggv cs) w) : OpW P (.build t parts) ty ρ K w := by
 refine OpW.val (w' := w) ?_ h
 subst hv
 simp only [Array.toArray_toList] at hf
 simp [execOp, hf]

theorem range_map_replicate {size : Nat} (hs : 0 < size) (z : Value) (n : Nat) : (Array.range n).map (fun k => (List.replicate size z).toArray[k % (List.replicate size z).toArray.size]!) = (List.replicate n z).toArray := by
 apply Array.ext
 ·simp
 ·intro i h1 h2
  simp at h1
  have : i % size < size := Nat.mod_lt _ hs
  simp [this]

theorem OpW.makeSlice {t e : TypeId} {size bytes : Nat} {z : Value} {k1 k2 : IntKind} {l c : Int} (ht : mkCells P t = some (e, size, bytes, List.replicate size z)) (hs : 0 < size) (hx : ev ρ x = .int k1 l) (hy : ev ρ y = .int k2 c)
  (h0 : 0 ≤ l) (h1 : l ≤ c) (h2 : bytes * c ≤ 140737488355328) (h3 : c ≤ 9223372036854775807)
  (h : K (.slice (some ⟨w.heap.size, 0, none⟩) l.toNat c.toNat) (w.alloc (.cells (List.replicate (c.toNat * size) z).toArray e))) : OpW P (.makeSlice t x y) ty ρ K w := by
 refine OpW.val (w' := w.alloc (.cells (List.replicate (c.toNat * size) z).toArray e)) ?_ h
 unfold mkCells at ht
 split at ht
 ·rename_i e' hu
  split at ht
  ·rename_i i hi
   split at ht
   ·rename_i zv hz
    simp only [Option.some.injEq, Prod.mk.injEq] at ht
    obtain ⟨rfl, rfl, rfl, hzc⟩ := ht
    have hl : IntKind.i64.wrap l = l := by simp [IntKind.wrap, IntKind.signed, IntKind.bits]; omega
    have hc : IntKind.i64.wrap c = c := by simp [IntKind.wrap, IntKind.signed, IntKind.bits]; omega
    have hzc' : zv.cells = (List.replicate i.size z).toArray := by rw [← hzc]
    have hroom : ¬ (c.toNat * i.bytes > roomBytes) := by
     have : ((c.toNat * i.bytes : Nat) : Int) = i.bytes * c := by rw [Int.natCast_mul, Int.toNat_of_nonneg (by omega), Int.mul_comm]
     simp only [roomBytes]; omega
    have hz0 : (if c.toNat * i.size = 0 then (pure #[] : Sem (Array Value)) else do pure (← zeroValue e').cells).run P w = .ok (if c.toNat * i.size = 0 then #[] else zv.cells) w := by
     split
     ·rfl
     ·simp [zeroValue, typeInfo, hi, hz]
    have hcells : (Array.range (c.toNat * i.size)).map (fun k => (if c.toNat * i.size = 0 then #[] else zv.cells)[k % (if c.toNat * i.size = 0 then #[] else zv.cells).size]!) = (List.replicate (c.toNat * i.size) z).toArray := by
     split
     ·rename_i h0; rw [h0]; simp
     ·rw [hzc', range_map_replicate hs]
    have hbig : ¬ ((decide (c < 0) || decide (i.bytes * c > 2 ^ 48) || decide (l < 0) || decide (l > c)) = true) := by
     simp; omega
    simp only [execOp, hx, hy, Instr.makeSlice, Sem.run_bind, Sem.run_pure, run_underlying hu, Result.andThen_ok, asInt, asIntOf, typeInfo, program, Sem.run, hi, hl, hc]
    rw [if_neg (by simp; omega)]
    simp only [Sem.run_bind, Sem.run_pure, Result.andThen_ok, askRoom, if_neg hroom, sizeOf, typeInfo, program, Sem.run, hi, hz0, hcells]
    simp [newRow, newObj, Sem.run]
    split
    ·rename_i h00
     have e1 : ∀ f : Nat → Value, Array.map f (Array.range 0) = Array.replicate 0 z := fun f => by apply Array.ext <;> simp
     rw [h00, e1]
    ·rename_i h00
     have hzr : (zeroValue e').run P w = .ok zv w := by simp [zeroValue, typeInfo, hi, hz]
     rw [hzr]
     simp only [Result.andThen_ok, hzc', range_map_replicate hs]
     simp
   ·simp at ht
  ·simp at ht
 ·simp at ht
end
end Go.Lift
end
section
/- The words of the typed reading of a function, and the rules that join its ways. -/
namespace Go.Lift
def ldI (k : IntKind) (a : Addr) (w : World) (K : Int → Prop) : Prop := ∃ n, w.cell? a = some (.int k n) ∧ K n
def ldB (a : Addr) (w : World) (K : Bool → Prop) : Prop := ∃ b, w.cell? a = some (.bool b) ∧ K b
def ldS (a : Addr) (w : World) (K : List UInt8 → Prop) : Prop := ∃ xs, w.cell? a = some (str xs) ∧ K xs
def ldP (a : Addr) (w : World) (K : Option Addr → Prop) : Prop := ∃ p, w.cell? a = some (.pointer p) ∧ K p
def ldL (a : Addr) (w : World) (K : Sl → Prop) : Prop := ∃ s : Sl, w.cell? a = some s.v ∧ K s
def ldM (a : Addr) (w : World) (K : Option Nat → Prop) : Prop := ∃ s, w.cell? a = some (.map s) ∧ K s
def ldA (n : Nat) (a : Addr) (w : World) (K : List Value → Prop) : Prop := ∃ cs, cs.length = n ∧ At w a cs ∧ K cs
def st1 (a : Addr) (v : Value) (w : World) (K : World → Prop) : Prop := ∃ u, w.cell? a = some u ∧ w.frozen? a = false ∧ ∀ w', w' = w.setCell a v → K w'
def stA (n : Nat) (a : Addr) (cs : List Value) (w : World) (K : World → Prop) : Prop :=
  ∃ g o e cur, a = ⟨g, o, none⟩ ∧ cs.length = n ∧ w.heap[g]? = some (.cells cur e (0, 0)) ∧ o + cs.length ≤ cur.size ∧ (∀ v ∈ cs, v.oneCell' = true) ∧
    ∀ w', w' = w.setRow g (cur.toList.take o ++ cs ++ cur.toList.drop (o + cs.length)).toArray → K w'
def nn (p : Option Addr) (K : Addr → Prop) : Prop := ∃ a, p = some a ∧ K a
def ix (s : Sl) (n : Nat) (i : Int) (K : Addr → Prop) : Prop := ∃ a a', s.a = some a ∧ 0 ≤ i ∧ i < s.len ∧ a' = a.add (i.toNat * n) ∧ K a'
def ixA (len n : Nat) (a : Addr) (i : Int) (K : Addr → Prop) : Prop := 0 ≤ i ∧ i < len ∧ ∀ a', a' = a.add (i.toNat * n) → K a'
def ixS (xs : List UInt8) (i : Int) (K : UInt8 → Prop) : Prop := ∃ c, 0 ≤ i ∧ xs[i.toNat]? = some c ∧ K c
def newB (e : TypeId) (cs : List Value) (w : World) (K : Nat → World → Prop) : Prop := ∀ b w', b = w.heap.size → w' = w.alloc (.cells cs.toArray e) → K b w'
def newA (n : Nat) (e : TypeId) (cs : List Value) (w : World) (K : Nat → World → Prop) : Prop := cs.length = n ∧ (∀ v ∈ cs, v.oneCell' = true) ∧ ∀ b w', b = w.heap.size → w' = w.alloc (.cells cs.toArray e) → K b w'
def b2s (s : Sl) (w : World) (K : List UInt8 → Prop) : Prop := ∃ bs, bs.length = s.len ∧ AtO w s.a (u8s bs) ∧ K bs
def s2b (bs : List UInt8) (w : World) (K : Sl → World → Prop) : Prop := ∀ (e : TypeId) (n b : Nat) (w' : World), bs.length ≤ n → n ≤ maxLen ∨ maxLen < bs.length → b = w.heap.size →
  w' = w.drew.alloc (.cells (u8s bs ++ List.replicate (n - bs.length) (Value.int .u8 0)).toArray e (n, n + 1)) → K ⟨some ⟨b, 0, none⟩, bs.length, n⟩ w'
def mkd (s : Sl) (w : World) (K : World → Prop) : Prop := ∃ b o c e fr, s.a = some ⟨b, o, none⟩ ∧ w.heap[b]? = some (.cells c e fr) ∧ ∀ w', w' = w.freeze ⟨b, c.size, none⟩ 1 → K w'
def mkS (e : TypeId) (size bytes : Nat) (z : Value) (l c : Int) (w : World) (K : Sl → World → Prop) : Prop := 0 ≤ l ∧ l ≤ c ∧ bytes * c ≤ 140737488355328 ∧ c ≤ 9223372036854775807 ∧
  ∀ b w', b = w.heap.size → w' = w.alloc (.cells (List.replicate (c.toNat * size) z).toArray e) → K ⟨some ⟨b, 0, none⟩, l.toNat, c.toNat⟩ w'
def drw (w : World) (K : World → Prop) : Prop := ∀ w', w' = w.drew → K w'
def rq (p K : Prop) : Prop := p ∧ K
def ifB (b : Bool) (x y : Prop) : Prop := (b = true → x) ∧ (b = false → y)
def jn {J : Sort _} (body : J → Prop) (k : J) : Prop := body k
def cR {α : Type} (P : Program) (f : FuncId) (mk : α → Value) (args : Array Value) (w : World) (K : α → World → Prop) : Prop :=
  Calls P f args w fun e w' => ∃ x, e = .returned (mk x) ∧ K x w'
def app (P : Program) (t : TypeId) (s x : Sl) (w : World) (K : Sl → World → Prop) : Prop :=
  ∃ (s' : Sl) (w' : World), (Builtin.append_ #[t, t] t #[s.v, x.v]).run P w = .ok s'.v w' ∧ K s' w'
def appV (P : Program) (ts : Array TypeId) (t : TypeId) (args : Array Value) (w : World) (K : Sl → World → Prop) : Prop :=
  ∃ (s' : Sl) (w' : World), (Builtin.append_ ts t args).run P w = .ok s'.v w' ∧ K s' w'
def cpy (P : Program) (ts : Array TypeId) (ty : TypeId) (args : Array Value) (w : World) (K : Int → World → Prop) : Prop :=
  ∃ (n : Int) (w' : World), (Builtin.copy_ ts ty args).run P w = .ok (.int .i64 n) w' ∧ K n w'
def mn (a b : Int) : Int := if b < a then b else a
def mx (a b : Int) : Int := if b > a then b else a
def bnd {α : Sort _} (x : α) (K : α → Prop) : Prop := ∀ y, y = x → K y
/-- What a call answers. -/
def Ret {α : Type} (mk : α → Value) (K : α → World → Prop) : Ending → World → Prop := fun e w' => ∃ x, e = .returned (mk x) ∧ K x w'

theorem jn_of {J : Sort _} {body : J → Prop} {k : J} (h : ∀ k', k' = k → body k') : jn body k := h k rfl
theorem jn_elim {J : Sort _} {body : J → Prop} {k : J} (h : jn body k) {G : Prop} (H : ∀ k', k' = k → body k' → G) : G := H k rfl h

section
variable {P : Program} {n : Nat} {ops : Array Oper} {Q : Exit → Env → World → Prop} {ρ : Env} {w : World} {l : List Oper}

theorem CW.seqJ {x y : Code} {A : Type} (E : A → Env → Prop) (k : A → World → Prop) (h1 : ∀ s ρ w, E s ρ → k s w → CW P n y Q ρ w)
    (h2 : CW P n x (thenQ (fun ρ w => ∃ s, E s ρ ∧ k s w) Q) ρ w) : CW P n (.seq x y) Q ρ w := by
  refine CW.seq fun a hs hd he => wp_mono (h2 a hs hd he) ?_
  intro e a' w' hq
  cases e with
  | normal => obtain ⟨a1, a2, s, a3, a4⟩ := hq; exact ⟨a1, a2, h1 s _ _ a3 a4⟩
  | panic c => exact hq.elim
  | outgrown => exact hq.elim
  | exit id => exact hq
  | goto l => exact hq
  | ret => exact hq

theorem wpList_append {Q' : Exit → Act → World → Prop} (hout : ¬ LetsOut Q') (l2 : List Oper) : ∀ (l1 : List Oper) (a : Act) (w : World),
    wpList P ops (fun e a w => match e with | .normal => wpList P ops Q' l2 a w | e => Q' e a w) l1 a w → wpList P ops Q' (l1 ++ l2) a w
  | [], a, w, h => h
  | o :: l1, a, w, h => by
    simp only [List.cons_append, wpList] at h ⊢
    split
    · rename_i hw
      rw [if_pos hw] at h
      rcases h with h | ⟨_, a0, w0, h⟩
      · refine .inl ?_
        unfold Oper.wp at *
        generalize (execOp a.eval o).run P w = r at *
        cases r with
        | ok nx w' =>
          cases nx <;> simp only [Oper.upon] at h ⊢ <;> first
            | exact wpList_append hout l2 l1 _ _ h
            | exact h
            | (refine Calls.mono h fun e w'' he => ?_
               cases e with
               | returned v => exact wpList_append hout l2 l1 _ _ he
               | panicked c => exact he
               | outgrown => exact he)
            | (refine Rows.mono h fun v w'' he => wpList_append hout l2 l1 _ _ he)
        | halt x w' => cases x <;> simp only [Oper.upon] at h ⊢ <;> exact h
      · exact absurd ⟨a0, w0, h⟩ hout
    · rename_i hw
      rw [if_neg hw] at h
      exact wpList_append hout l2 l1 _ _ h

theorem wpList_mono {Q' Q'' : Exit → Act → World → Prop} (hq : ∀ e a w, Q' e a w → Q'' e a w) : ∀ (l : List Oper) (a : Act) (w : World), wpList P ops Q' l a w → wpList P ops Q'' l a w
  | [], a, w, h => hq _ _ _ h
  | o :: l, a, w, h => by
    simp only [wpList] at h ⊢
    split
    · rename_i hw
      rw [if_pos hw] at h
      rcases h with h | ⟨h1, a0, w0, h2⟩
      · refine .inl ?_
        unfold Oper.wp at *
        generalize (execOp a.eval o).run P w = r at *
        cases r with
        | ok nx w' =>
          cases nx <;> simp only [Oper.upon] at h ⊢ <;> first
            | exact wpList_mono hq l _ _ h
            | exact h
            | (refine Calls.mono h fun e w'' he => ?_
               cases e with
               | returned v => exact wpList_mono hq l _ _ he
               | panicked c => exact hq _ _ _ he
               | outgrown => obtain ⟨a1, w1, h1⟩ := he; exact ⟨a1, w1, hq _ _ _ h1⟩)
            | (refine Rows.mono h fun v w'' he => wpList_mono hq l _ _ he)
        | halt x w' => cases x <;> simp only [Oper.upon] at h ⊢ <;> first | exact hq _ _ _ h | exact h
      · exact .inr ⟨h1, a0, w0, hq _ _ _ h2⟩
    · rename_i hw
      rw [if_neg hw] at h
      exact wpList_mono hq l _ _ h

theorem RL.joinAt {A : Type} (m : Nat) (E : A → Env → Prop) (k : A → World → Prop) (h1 : ∀ s ρ w, E s ρ → k s w → RL P n ops Q (l.drop m) ρ w)
    (h2 : RL P n ops (thenQ (fun ρ w => ∃ s, E s ρ ∧ k s w) Q) (l.take m) ρ w) : RL P n ops Q l ρ w := by
  intro a hs hd he
  rw [← List.take_append_drop m l]
  refine wpList_append (by rintro ⟨_, _, h⟩; exact h) _ _ _ _ (wpList_mono ?_ _ _ _ (h2 a hs hd he))
  intro e a' w' hq
  cases e with
  | normal => obtain ⟨a1, a2, s, a3, a4⟩ := hq; exact h1 s _ _ a3 a4 a' a1 a2 rfl
  | panic c => exact hq.elim
  | outgrown => exact hq.elim
  | exit id => exact hq
  | goto l => exact hq
  | ret => exact hq

theorem ret_intro {fn : Func} {R : Ending → World → Prop} {v : Value} (hr : ∀ tmps : Array Value, (∀ i, tmps.getD i undef = ρ i) → (results fn tmps).run P w = .ok v w) (hR : R (.returned v) w) : retQ P fn R .ret ρ w := ⟨v, hr, hR⟩
theorem end_intro {fn : Func} {R : Ending → World → Prop} {v : Value} (hr : ∀ tmps : Array Value, (∀ i, tmps.getD i undef = ρ i) → (results fn tmps).run P w = .ok v w) (hR : R (.returned v) w) : retQ P fn R .normal ρ w := ⟨v, hr, hR⟩
theorem wanted_of {t j : Nat} {want b : Bool} (h1 : (ops[j]?).bind (·.dst) = some t) (h2 : ρ t = .bool b) (h3 : b = want) : Wanted ops ρ (some (j, want)) := ⟨t, h1, by rw [h2, h3]⟩
theorem notWanted_of {t j : Nat} {want b : Bool} (h1 : (ops[j]?).bind (·.dst) = some t) (h2 : ρ t = .bool b) (h3 : b = !want) : NotWanted ops ρ (some (j, want)) := ⟨t, h1, .inl (by rw [h2, h3])⟩
theorem notWanted_undef {t j : Nat} {want : Bool} (h1 : (ops[j]?).bind (·.dst) = some t) (h2 : ρ t = undef) : NotWanted ops ρ (some (j, want)) := ⟨t, h1, .inr h2⟩
end

section
variable {P : Program} {ty : TypeId} {ρ : Env} {K : Value → World → Prop} {w : World} {x y z : Operand} {v : Value}
theorem OpW.callR {f : FuncId} {fn : Func} {xs : Array Operand} {ts : Array TypeId} {α : Type} {mk : α → Value} {K' : α → World → Prop} (hf : P.funcs[f]? = some fn) (hb : fn.body.isNone = false) (hn : decide (fn.name = "runtime.NumGoroutine") = false)
    {al : List Value} (ha : xs.toList.map (ev ρ) = al) (h : cR P f mk al.toArray w K') (hK : ∀ x w', K' x w' → K (mk x) w') : OpW P (.call { callee := .value (.func f), args := xs, argTypes := ts }) ty ρ K w :=
  OpW.call hf hb hn (args := al.toArray) (by rw [← ha, ← Array.toList_map]) (Calls.mono h fun e w' ⟨x, he, hx⟩ => by subst he; exact hK x w' hx)

theorem OpW.allocE {t : TypeId} {zs : List Value} {b : Nat} {w' : World} (ht : zeroT P t = some zs) (hb : b = w.heap.size) (hw : w' = w.alloc (.cells zs.toArray t)) (h : K (.pointer (some ⟨b, 0, none⟩)) w') : OpW P (.alloc t) ty ρ K w := by
  subst hb; subst hw; exact OpW.alloc ht h
theorem OpW.allocZ {t : TypeId} {zs : List Value} {b : Nat} (ht : zeroT P t = some zs) (hb : b = w.heap.size) (h : K (.pointer (some ⟨b, 0, none⟩)) (w.alloc (.cells zs.toArray t))) : OpW P (.alloc t) ty ρ K w := by
  subst hb; exact OpW.alloc ht h
theorem OpW.storeF {t : TypeId} {zs cs : List Value} {n b : Nat} {w' : World} (ht : sizeT P t = some n) (hx : ev ρ x = .pointer (some ⟨b, 0, none⟩)) (hy : (ev ρ y).cells = cs.toArray)
    (hl : cs.length = n) (hz : zs.length = n) (h1 : ∀ v ∈ cs, v.oneCell' = true) (hb : b = w.heap.size) (hw : w' = w.alloc (.cells cs.toArray t)) (h : K undef w') : OpW P (.store t x y) ty ρ K (w.alloc (.cells zs.toArray t)) := by
  subst hb; subst hw; exact OpW.storeFresh ht hx hy hl hz h1 h
theorem one_ok {v : Value} (h : v.oneCell' = true) : ∀ u ∈ [v], u.oneCell' = true := fun u hu => by
  obtain rfl : u = v := by simpa using hu
  exact h
theorem OpW.boxE {t : TypeId} {cs : List Value} {b : Nat} {w' : World} (hx : (ev ρ x).cells = cs.toArray) (hb : b = w.heap.size) (hw : w' = w.alloc (.cells cs.toArray t)) (h : K (.pointer (some ⟨b, 0, none⟩)) w') : OpW P (.box t x) ty ρ K w := by
  subst hb; subst hw; exact OpW.box hx h
theorem OpW.buildSliceE {t e : TypeId} {len b : Nat} {w' : World} {parts : Array (Nat × Operand)} {vs : List (Nat × Value)} {cs : List Value} (hv : parts.toList.map (fun p => (p.1, ev ρ p.2)) = vs)
    (hf : fillCells P t len vs = some (e, cs.toArray)) (hb : b = w.heap.size) (hw : w' = w.alloc (.cells cs.toArray e)) (h : K (.slice (some ⟨b, 0, none⟩) len len) w') : OpW P (.buildSlice t len parts) ty ρ K w := by
  subst hb; subst hw; exact OpW.buildSlice (by rw [Array.toList_map]; exact hv) hf h
theorem OpW.makeSliceE {t e : TypeId} {size bytes b : Nat} {z : Value} {k1 k2 : IntKind} {l c : Int} {w' : World} (ht : mkCells P t = some (e, size, bytes, List.replicate size z)) (hs : 0 < size) (hx : ev ρ x = .int k1 l) (hy : ev ρ y = .int k2 c)
    (h0 : 0 ≤ l) (h1 : l ≤ c) (h2 : bytes * c ≤ 140737488355328) (h3 : c ≤ 9223372036854775807) (hb : b = w.heap.size) (hw : w' = w.alloc (.cells (List.replicate (c.toNat * size) z).toArray e))
    {s : Sl} (hsl : s = ⟨some ⟨b, 0, none⟩, l.toNat, c.toNat⟩) (h : K s.v w') : OpW P (.makeSlice t x y) ty ρ K w := by
  subst hb; subst hw; subst hsl; exact OpW.makeSlice ht hs hx hy h0 h1 h2 h3 h
theorem OpW.store1E {t : TypeId} {a : Addr} {u v : Value} {w' : World} (ht : sizeT P t = some 1) (hx : ev ρ x = .pointer (some a)) (hy : ev ρ y = v) (h1 : v.oneCell' = true) (hc : w.cell? a = some u) (hf : w.frozen? a = false)
    (hw : w' = w.setCell a v) (h : K undef w') : OpW P (.store t x y) ty ρ K w := by
  subst hw; exact OpW.store1 ht hx hy h1 hc hf h
theorem OpW.storeAE {t : TypeId} {g o : Nat} {e : TypeId} {n : Nat} {cur : Array Value} {cs : List Value} {a : Addr} {w' : World} (ht : sizeT P t = some n) (hx : ev ρ x = .pointer (some a)) (hy : ev ρ y = aggv cs) (ha : a = ⟨g, o, none⟩)
    (hl : cs.length = n) (hg : w.heap[g]? = some (.cells cur e (0, 0))) (hfit : o + cs.length ≤ cur.size) (h1 : ∀ v ∈ cs, v.oneCell' = true)
    (hw : w' = w.setRow g (cur.toList.take o ++ cs ++ cur.toList.drop (o + cs.length)).toArray) (h : K undef w') : OpW P (.store t x y) ty ρ K w := by
  subst ha; subst hw; exact OpW.storeA ht hx hy hl hg hfit h1 h
theorem OpW.markE {t : TypeId} {sl : Sl} {b o : Nat} {c : Array Value} {e : TypeId} {fr : Nat × Nat} {w' : World} (ht : byteSl P t = true) (hx : ev ρ x = sl.v) (ha : sl.a = some ⟨b, o, none⟩) (hg : w.heap[b]? = some (.cells c e fr))
    (hw : w' = w.freeze ⟨b, c.size, none⟩ 1) (h : K sl.v w') : OpW P (.convert t t x) ty ρ K w := by
  subst hw; exact OpW.mark ht hx ha hg h
theorem OpW.s2bE {s d : TypeId} {bs : List UInt8} {K' : Sl → World → Prop} (hs : strT P s = true) (hd : byteSl P d = true) (hx : ev ρ x = str bs) (h : Go.Lift.s2b bs w K') (hK : ∀ s w', K' s w' → K s.v w') : OpW P (.convert s d x) ty ρ K w :=
  OpW.s2b hs hd hx fun e n h1 h2 => hK ⟨some ⟨w.heap.size, 0, none⟩, bs.length, n⟩ _ (h e n _ _ h1 h2 rfl rfl)
theorem OpW.indexE {t e : TypeId} {n : Nat} {s : Sl} {i : Int} {a a' : Addr} {k : IntKind} (ht : sliceT P t = some (e, n)) (hx : ev ρ x = s.v) (hy : ev ρ y = .int k i)
    (ha : s.a = some a) (h0 : 0 ≤ i) (h1 : i < s.len) (hw : a' = a.add (i.toNat * n)) (h : K (.pointer (some a')) w) : OpW P (.indexAddr t x y) ty ρ K w := by
  subst hw; exact OpW.indexAddr ht hx hy ha h0 h1 h
theorem OpW.indexArrE {t : TypeId} {len n : Nat} {i : Int} {a a' : Addr} {k : IntKind} (ht : arrT P t = some (len, n)) (hx : ev ρ x = .pointer (some a)) (hy : ev ρ y = .int k i)
    (h0 : 0 ≤ i) (h1 : i < len) (hw : a' = a.add (i.toNat * n)) (h : K (.pointer (some a')) w) : OpW P (.indexAddr t x y) ty ρ K w := by
  subst hw; exact OpW.indexArr ht hx hy h0 h1 h
theorem OpW.appendL {xs : Array Operand} {ts : Array TypeId} {al : List Value} {w' : World} (ha : xs.toList.map (ev ρ) = al) (hr : (Builtin.append_ ts ty al.toArray).run P w = .ok v w')
    (h : K v w') : OpW P (.call { callee := .builtin .append, args := xs, argTypes := ts }) ty ρ K w :=
  OpW.append (args := al.toArray) (by rw [← ha, ← Array.toList_map]) hr h
theorem OpW.copyL {xs : Array Operand} {ts : Array TypeId} {al : List Value} {w' : World} (ha : xs.toList.map (ev ρ) = al) (hr : (Builtin.copy_ ts ty al.toArray).run P w = .ok v w')
    (h : K v w') : OpW P (.call { callee := .builtin .copy, args := xs, argTypes := ts }) ty ρ K w :=
  OpW.copy (args := al.toArray) (by rw [← ha, ← Array.toList_map]) hr h
theorem OpW.runBuiltinL {b : Builtin} {xs : Array Operand} {ts : Array TypeId} {al : List Value} {w' : World} (ha : xs.toList.map (ev ρ) = al) (hr : (builtin b ts ty (xs.map fun | .const _ => true | _ => false) al.toArray).run P w = .ok (.value v) w')
    (h : K v w') : OpW P (.call { callee := .builtin b, args := xs, argTypes := ts }) ty ρ K w :=
  OpW.runBuiltin (args := al.toArray) (by rw [← ha, ← Array.toList_map]) hr h
/-! ### results that lie in a cell -/
theorem run_cellA {t : TypeId} {a : Addr} {n : Nat} {cs : List Value} (ht : aggT P t = some n) (hl : cs.length = n) (hc : At w a cs) : (loadVar t a).run P w = .ok (aggv cs) w := by
  subst hl
  simp only [loadVar, Sem.run_bind, Sem.run_pure, Result.andThen_ok, run_isAgg_agg ht, run_sizeOf_agg ht, if_true, run_loadCells_list w a cs hc]
theorem run_asAddr {v : Value} {a : Addr} (h : v = .pointer (some a)) : (asAddr v).run P w = .ok a w := by subst h; rfl
theorem res1c {fn : Func} {u : Tmp} {t : TypeId} {a : Addr} {n : Nat} {cs : List Value} (h : fn.results = #[.cell u t]) (ht : aggT P t = some n) (hu : ρ u = .pointer (some a)) (hl : cs.length = n) (hc : At w a cs)
    (tmps : Array Value) (hρ : ∀ i, tmps.getD i undef = ρ i) : (results fn tmps).run P w = .ok (aggv cs) w := by
  have h1 := run_asAddr (P := P) (w := w) ((hρ u).trans hu)
  have h2 := run_cellA (P := P) ht hl hc
  unfold results
  rw [h]
  simp only [Array.mapM_eq_mapM_toList, List.mapM_cons, List.mapM_nil, map_eq_pure_bind, Sem.run_bind, h1, h2, Sem.run_pure, Result.andThen_ok]
  rfl
theorem res2c {fn : Func} {u t1 : Tmp} {t : TypeId} {a : Addr} {n : Nat} {cs : List Value} {x1 : Value} (h : fn.results = #[.cell u t, .tmp t1]) (ht : aggT P t = some n) (hu : ρ u = .pointer (some a)) (hl : cs.length = n) (hc : At w a cs)
    (hx1 : ρ t1 = x1) (tmps : Array Value) (hρ : ∀ i, tmps.getD i undef = ρ i) : (results fn tmps).run P w = .ok (.tuple #[aggv cs, x1]) w := by
  have h1 := run_asAddr (P := P) (w := w) ((hρ u).trans hu)
  have h2 := run_cellA (P := P) ht hl hc
  have h3 := (hρ t1).trans hx1
  unfold results
  rw [h]
  simp only [Array.mapM_eq_mapM_toList, List.mapM_cons, List.mapM_nil, map_eq_pure_bind, Sem.run_bind, h1, h2, h3, Sem.run_pure, Result.andThen_ok]
  rfl
theorem res3c {fn : Func} {u t1 t2 : Tmp} {t : TypeId} {a : Addr} {n : Nat} {cs : List Value} {x1 x2 : Value} (h : fn.results = #[.cell u t, .tmp t1, .tmp t2]) (ht : aggT P t = some n) (hu : ρ u = .pointer (some a)) (hl : cs.length = n) (hc : At w a cs)
    (hx1 : ρ t1 = x1) (hx2 : ρ t2 = x2) (tmps : Array Value) (hρ : ∀ i, tmps.getD i undef = ρ i) : (results fn tmps).run P w = .ok (.tuple #[aggv cs, x1, x2]) w := by
  have h1 := run_asAddr (P := P) (w := w) ((hρ u).trans hu)
  have h2 := run_cellA (P := P) ht hl hc
  have h3 := (hρ t1).trans hx1
  have h4 := (hρ t2).trans hx2
  unfold results
  rw [h]
  simp only [Array.mapM_eq_mapM_toList, List.mapM_cons, List.mapM_nil, map_eq_pure_bind, Sem.run_bind, h1, h2, h3, h4, Sem.run_pure, Result.andThen_ok]
  rfl
theorem OpW.runBuiltinP {b : Builtin} {xs : Array Operand} {ts : Array TypeId} {al : List Value} (ha : xs.toList.map (ev ρ) = al) (hr : (builtin b ts ty (xs.map fun | .const _ => true | _ => false) al.toArray).run P w = .ok (.value v) w)
    (h : K v w) : OpW P (.call { callee := .builtin b, args := xs, argTypes := ts }) ty ρ K w := OpW.runBuiltinL ha hr h
theorem OpW.buildL {t : TypeId} {parts : Array (Nat × Operand)} {vs : List (Nat × Value)} {cs : List Value} (hv : parts.toList.map (fun p => (p.1, ev ρ p.2)) = vs)
    (hf : ∀ w, (Instr.build t vs.toArray).run P w = .ok (aggv cs) w) (h : K (aggv cs) w) : OpW P (.build t parts) ty ρ K w :=
  OpW.buildRun (by rw [Array.toList_map]; exact hv) hf h
theorem cast_sl {s : Sl} {a : Option Addr} {l c : Nat} (h : s = ⟨a, l, c⟩) (hk : K s.v w) : K (.slice a l c) w := by subst h; exact hk
/-- The bitwise operations, as they come out of the model. -/
def andI (k : IntKind) (a b : Int) : Int := k.wrap (BitVec.ofInt k.bits a &&& BitVec.ofInt k.bits b).toNat
def orI (k : IntKind) (a b : Int) : Int := k.wrap (BitVec.ofInt k.bits a ||| BitVec.ofInt k.bits b).toNat
def xorI (k : IntKind) (a b : Int) : Int := k.wrap (BitVec.ofInt k.bits a ^^^ BitVec.ofInt k.bits b).toNat
def cmpl (k : IntKind) (a : Int) : Int := k.wrap (BitVec.ofInt k.bits (if k.signed then -1 else k.max) ^^^ BitVec.ofInt k.bits a).toNat
def shlI (k : IntKind) (a b : Int) : Int := k.wrap (a * 2 ^ min b.toNat k.bits)
def shrI (k : IntKind) (a b : Int) : Int := a.fdiv (2 ^ min b.toNat k.bits)
end
end Go.Lift
end
section
/- A region that draws its order: what only reads may be taken first, the rest comes up alone; what was there when the region began stays as it was as long as something is still to be read. -/
namespace Go.Lift
open Go.RowKit
/-- All that was there is as it was; there may be more. -/
abbrev Ext (w w' : World) : Prop := Below w.heap.size w w'
theorem Ext.refl (w : World) : Ext w w := Below.refl _ _
theorem Ext.trans {a b c : World} (h : Ext a b) (k : Ext b c) : Ext a c := Below.trans h (Below.mono k h.size)
theorem Ext.cell {w w' : World} (h : Ext w w') {a : Addr} {v : Value} (hc : w.cell? a = some v) : w'.cell? a = some v :=
 (Below.cell h (World.block_lt_of_cell? w a hc)).trans hc
theorem Ext.at {w w' : World} (h : Ext w w') {a : Addr} {cs : List Value} (hc : At w a cs) : At w' a cs := fun j v hj => Ext.cell h (hc j v hj)
theorem Ext.atO {w w' : World} (h : Ext w w') {a : Option Addr} {cs : List Value} (hc : AtO w a cs) : AtO w' a cs := by
 cases a with
 | none => exact hc
 | some a => exact Ext.at h hc
theorem Ext.drew (w : World) : Ext w w.drew := ⟨rfl, rfl, rfl, Nat.le_refl _, fun _ _ => rfl⟩
theorem Ext.alloc {w0 w : World} (h : Ext w0 w) (o : Obj) : Ext w0 (w.alloc o) := Below.alloc h h.size o
theorem Ext.heap {w w' : World} (h : Ext w w') {b : Nat} {o : Obj} (hb : w.heap[b]? = some o) : w'.heap[b]? = some o :=
 (h.block b (Array.getElem?_eq_some_iff.1 hb).1).trans hb

/-- A part of a region that may come up before or behind others: what it leaves lasts as long as nothing is written. -/
def nd {δ α : Type} (w1 : World) (pre : δ → World → Prop) (step : δ → (α → World → Prop) → World → Prop) (k : (δ → α → World → Prop) → Prop) : Prop :=
 ∃ F : δ → α → World → Prop, (∀ d x a b, Ext a b → F d x a → F d x b) ∧ (∀ d w, Ext w1 w → pre d w → step d (fun x w' => Ext w w' ∧ F d x w') w) ∧ k F

/-- The same but for a block, which may be written. -/
def ExtB (b : Option Nat) (w w' : World) : Prop := w.heap.size ≤ w'.heap.size ∧ ∀ k, k < w.heap.size → some k ≠ b → w'.heap[k]? = w.heap[k]?
theorem ExtB.of {b : Option Nat} {w w' : World} (h : Ext w w') : ExtB b w w' := ⟨h.size, fun k hk _ => h.block k hk⟩
theorem ExtB.trans_ext {b : Option Nat} {w0 w w' : World} (h : ExtB b w0 w) (k : Ext w w') : ExtB b w0 w' :=
 ⟨Nat.le_trans h.1 k.size, fun i hi hne => (k.block i (Nat.lt_of_lt_of_le hi h.1)).trans (h.2 i hi hne)⟩
theorem ExtB.cell {b : Option Nat} {w w' : World} (h : ExtB b w w') {a : Addr} {v : Value} (hne : some a.block ≠ b) (hc : w.cell? a = some v) : w'.cell? a = some v :=
 (World.cell?_of_block (h.2 a.block (World.block_lt_of_cell? w a hc) hne)).trans hc
theorem add_block (a : Addr) (n : Nat) : (a.add n).block = a.block := by unfold Addr.add; split <;> rfl
theorem ExtB.at {b : Option Nat} {w w' : World} (h : ExtB b w w') {a : Addr} {cs : List Value} (hne : some a.block ≠ b) (hc : At w a cs) : At w' a cs := fun j v hj => h.cell (by rw [add_block]; exact hne) (hc j v hj)
theorem ExtB.atO {b : Option Nat} {w w' : World} (h : ExtB b w w') {a : Option Addr} {cs : List Value} (hne : ∀ x, a = some x → some x.block ≠ b) (hc : AtO w a cs) : AtO w' a cs := by
 cases a with
 | none => exact hc
 | some a => exact h.at (hne a rfl) hc
theorem ExtB.setCell {b : Option Nat} {w0 w : World} (h : ExtB b w0 w) {a : Addr} {v : Value} (hb : some a.block = b) : ExtB b w0 (w.setCell a v) :=
 ⟨by simpa [World.setCell] using h.1, fun k hk hne => (Below.heap_setCell w a v k (fun e => hne (by rw [e]; exact hb))).trans (h.2 k hk hne)⟩
theorem ExtB.setRow {b : Option Nat} {w0 w : World} (h : ExtB b w0 w) {g : Nat} {cs : Array Value} (hb : some g = b) : ExtB b w0 (w.setRow g cs) := by
 refine ⟨by simpa [World.setRow] using h.1, fun k hk hne => Eq.trans ?_ (h.2 k hk hne)⟩
 unfold World.setRow
 simp only [Array.getElem?_modify]
 rw [if_neg (fun e => hne (by rw [← e]; exact hb))]

/-- The same but for some blocks, which may be written. -/
def ExtX (X : Nat → Prop) (w w' : World) : Prop := w.heap.size ≤ w'.heap.size ∧ ∀ k, k < w.heap.size → ¬ X k → w'.heap[k]? = w.heap[k]?
def xr (K : (Nat → Prop) → Prop) : Prop := ∃ X, K X
theorem ExtX.of {X : Nat → Prop} {w w' : World} (h : Ext w w') : ExtX X w w' := ⟨h.size, fun k hk _ => h.block k hk⟩
theorem ExtX.trans {X : Nat → Prop} {w0 w w' : World} (h : ExtX X w0 w) (k : ExtX X w w') : ExtX X w0 w' :=
 ⟨Nat.le_trans h.1 k.1, fun i hi hne => (k.2 i (Nat.lt_of_lt_of_le hi h.1) hne).trans (h.2 i hi hne)⟩
theorem ExtX.trans_ext {X : Nat → Prop} {w0 w w' : World} (h : ExtX X w0 w) (k : Ext w w') : ExtX X w0 w' := h.trans (ExtX.of k)
theorem ExtX.cell {X : Nat → Prop} {w w' : World} (h : ExtX X w w') {a : Addr} {v : Value} (hne : ¬ X a.block) (hc : w.cell? a = some v) : w'.cell? a = some v :=
 (World.cell?_of_block (h.2 a.block (World.block_lt_of_cell? w a hc) hne)).trans hc
theorem ExtX.at {X : Nat → Prop} {w w' : World} (h : ExtX X w w') {a : Addr} {cs : List Value} (hne : ¬ X a.block) (hc : At w a cs) : At w' a cs := fun j v hj => h.cell (by rw [add_block]; exact hne) (hc j v hj)
theorem ExtX.atO {X : Nat → Prop} {w w' : World} (h : ExtX X w w') {a : Option Addr} {cs : List Value} (hne : ∀ x, a = some x → ¬ X x.block) (hc : AtO w a cs) : AtO w' a cs := by
 cases a with
 | none => exact hc
 | some a => exact h.at (hne a rfl) hc

def anc (ops : Array Oper) : Nat → Nat → Nat → Bool
 | 0, _, _ => false
 | f + 1, j, i => match ops[j]? with
  | none => false
  | some o => o.after.any (fun e => Region.binds .any e && e.on == i) || o.after.any (fun e => Region.binds .any e && anc ops f e.on i)
def keepOk (ops : Array Oper) (keep : List Nat) (i : Nat) : Bool := (List.range ops.size).all fun j => j == i || keep.contains j || anc ops ops.size j i
/-- What has come up is closed downward. -/
def DC (ops : Array Oper) (listed : Array Bool) : Prop := ∀ k o, ops[k]? = some o → listed.getD k false = true → ∀ e ∈ o.after, Region.binds .any e = true → listed.getD e.on false = true

theorem getD_tf {listed : Array Bool} {i : Nat} (h : listed.getD i false = true) : listed.getD i true = true := by
 rcases Nat.lt_or_ge i listed.size with h' | h'
 ·simp [h'] at h ⊢; exact h
 ·simp [Array.getElem?_eq_none h'] at h
theorem getD_ft {listed : Array Bool} {i : Nat} (h : listed.getD i true = false) : listed.getD i false = false := by
 rcases Nat.lt_or_ge i listed.size with h' | h'
 ·simp [h'] at h ⊢; exact h
 ·simp [Array.getElem?_eq_none h'] at h

theorem anc_listed {ops : Array Oper} {listed : Array Bool} (hDC : DC ops listed) {i : Nat} : ∀ (f j : Nat), (∀ o, ops[j]? = some o → ∀ e ∈ o.after, Region.binds .any e = true → listed.getD e.on false = true) →
  anc ops f j i = true → listed.getD i false = true
 | 0, _, _, h => by simp [anc] at h
 | f + 1, j, hj, h => by
  unfold anc at h
  split at h
  ·simp at h
  ·rename_i o ho
   rw [Bool.or_eq_true] at h
   rcases h with h | h
   ·obtain ⟨e, he, hb⟩ := Array.any_eq_true'.1 h
    simp only [Bool.and_eq_true, beq_iff_eq] at hb
    have := hj o ho e he hb.1
    rwa [hb.2] at this
   ·obtain ⟨e, he, hb⟩ := Array.any_eq_true'.1 h
    simp only [Bool.and_eq_true] at hb
    have hl := hj o ho e he hb.1
    exact anc_listed hDC f e.on (fun o' ho' e' he' hb' => hDC e.on o' ho' hl e' he' hb') hb.2

theorem DC.set {ops : Array Oper} {listed : Array Bool} {i : Nat} (h : DC ops listed) (hr : i ∈ Region.ready .any ops listed) : DC ops (listed.setIfInBounds i true) := by
 intro k o ho hk e he hb
 obtain ⟨_, oi, hoi, hall⟩ := mem_ready.1 hr
 by_cases e1 : i = k
 ·subst e1
  rw [hoi] at ho
  cases ho
  exact getD_set_true (hall e he hb)
 ·rw [getD_set_ne false e1] at hk
  exact getD_set_true (h k o ho hk e he hb)
theorem DC.start (ops : Array Oper) (n : Nat) : DC ops (Array.replicate n false) := by
 intro k o _ hk
 simp at hk
 rcases Nat.lt_or_ge k n with h | h
 ·simp [h] at hk
 ·simp [Array.getElem?_eq_none (show (Array.replicate n false).size ≤ k by simpa using h)] at hk

def wpAnyK (P : Program) (ops : Array Oper) (Q : Exit → Act → World → Prop) (keep : List Nat) (S : World → Prop) : Nat → Array Bool → Act → World → Prop
 | 0, listed, a, w => Region.ready .any ops listed = [] ∧ Q .normal a w
 | fuel + 1, listed, a, w =>
  (Region.ready .any ops listed = [] → Q .normal a w) ∧
  ∀ i ∈ Region.ready .any ops listed, wpOp P ops Q i (fun a' w' => (keep.contains i = true → S w → S w') ∧ wpAnyK P ops Q keep S fuel (listed.setIfInBounds i true) a' w') a w

section
variable {P : Program} {ops : Array Oper} {Q : Exit → Act → World → Prop} {keep : List Nat} {S : World → Prop}
theorem wpAny_of_K : ∀ (fuel : Nat) (listed : Array Bool) (a : Act) (w : World), wpAnyK P ops Q keep S fuel listed a w → wpAny P .any ops Q fuel listed a w
 | 0, _, _, _, h => h
 | fuel + 1, _, _, _, h => ⟨h.1, fun i hi => wpOp_mono (fun a' w' h' => wpAny_of_K fuel _ a' w' h'.2) (h.2 i hi)⟩

theorem keepOk_spec {i : Nat} (h : keepOk ops keep i = true) {j : Nat} (hj : j < ops.size) (hne : j ≠ i) (hk : keep.contains j = false) : anc ops ops.size j i = true := by
 unfold keepOk at h
 rw [List.all_eq_true] at h
 have := h j (List.mem_range.2 hj)
 simp only [Bool.or_eq_true, beq_iff_eq, hne, false_or, hk, Bool.false_eq_true] at this
 exact this

theorem wpAnyK_first {i : Nat} {oi : Oper} {v : Value} {T : World → Prop} (hi : ops[i]? = some oi) (hsel : ∀ (j : Nat) (o : Oper) cs b, ops[j]? = some o → o.op ≠ .select cs b)
  (hQ : ∀ c a w, Q (.panic c) (a.put oi.dst v) w → Q (.panic c) a w) (b : Bool) (hb : b = true → keepOk ops keep i = true) (hT : (∀ w, T w) ∨ (b = true ∧ ∀ w, S w → T w)) :
  ∀ (fuel : Nat) (listed : Array Bool) (a : Act) (w : World), DC ops listed →
   (∀ j oj, ops[j]? = some oj → j ≠ i → listed.getD j true = false → (∀ e ∈ oj.after, Region.binds .any e = true → e.on ≠ i) → oi.apart ops oj = true) →
   i ∈ Region.ready .any ops listed → YieldsIf P ops T oi v a → (b = true → S w) →
   wpAnyK P ops Q keep S fuel (listed.setIfInBounds i true) (a.put oi.dst v) w → wpAnyK P ops Q keep S (fuel + 1) listed a w := by
 intro fuel
 induction fuel with
 | zero =>
  intro listed a w hDC _ hr hy hS H
  refine ⟨fun h => (by rw [h] at hr; cases hr), fun j hj => ?_⟩
  by_cases hji : j = i
  ·subst hji
   refine hy.wpOp hi ?_ ⟨fun _ h => h, H⟩
   rcases hT with hT | ⟨hd, hT⟩
   ·exact hT w
   ·exact hT w (hS hd)
  ·have := ready_mono hj hji
   rw [H.1] at this
   cases this
 | succ fuel ih =>
  intro listed a w hDC hfree hr hy hS H
  refine ⟨fun h => (by rw [h] at hr; cases hr), fun j hj => ?_⟩
  by_cases hji : j = i
  ·subst hji
   refine hy.wpOp hi ?_ ⟨fun _ h => h, H⟩
   rcases hT with hT | ⟨hd, hT⟩
   ·exact hT w
   ·exact hT w (hS hd)
  ·have h1 := H.2 j (ready_mono hj hji)
   obtain ⟨hjun, oj, hoj, hall⟩ := mem_ready.1 hj
   have hiun : listed.getD i true = false := (mem_ready.1 hr).1
   have hnot : ∀ e ∈ oj.after, Region.binds .any e = true → e.on ≠ i := fun e he hb heq => by
    have h1 := hall e he hb
    rw [heq, getD_ft hiun] at h1
    cases h1
   have hjlt : j < ops.size := (Array.getElem?_eq_some_iff.1 hoj).1
   have notAnc : anc ops ops.size j i = true → False := fun ha => by
    have := anc_listed hDC ops.size j (fun o ho e he hb => by rw [hoj] at ho; cases ho; exact hall e he hb) ha
    rw [getD_ft hiun] at this
    cases this
   have h2 := wpOp_putIf hoj (hfree j oj hoj hji hjun hnot) (fun cs b => hsel i oi cs b hi) (fun cs b => hsel j oj cs b hoj) hQ hy h1
   have hfree' : ∀ k ok, ops[k]? = some ok → k ≠ i → (listed.setIfInBounds j true).getD k true = false →
     (∀ e ∈ ok.after, Region.binds .any e = true → e.on ≠ i) → oi.apart ops ok = true := fun k ok hk hki hun hno => by
    refine hfree k ok hk hki ?_ hno
    by_cases hjk : j = k
    ·subst hjk; exact hjun
    ·rw [getD_set_ne true hjk] at hun; exact hun
   refine wpOp_mono (fun a' w' h3 => ?_) h2
   have hS' : b = true → S w' := fun h => by
    cases hkj : keep.contains j with
    | true => exact h3.2.1 hkj (hS h)
    | false => exact (notAnc (keepOk_spec (hb h) hjlt hji hkj)).elim
   exact ⟨h3.2.1, ih (listed.setIfInBounds j true) a' w' (hDC.set hj) hfree' (ready_mono hr (Ne.symm hji)) h3.1 hS' (by rw [Array.setIfInBounds_comm _ _ hji]; exact h3.2.2)⟩
end

/-! ### over typed values -/
def quietOp : Op → Bool
 | .move _ | .assign _ | .pick .. | .load .. | .nilCheck _ | .binOp .. | .unOp .. | .convert .. | .slice .. | .fieldAddr .. | .indexAddr .. | .index .. | .extract .. | .build .. => true
 | .call { callee := .builtin .len, .. } | .call { callee := .builtin .min, .. } | .call { callee := .builtin .max, .. } => true
 | _ => false
theorem quiet_value {P : Program} {ρ : Operand → Value} {o : Oper} (h : quietOp o.op = true) (w : World) {nx : Next} {w' : World} (hr : (execOp ρ o).run P w = .ok nx w') : ∃ v, nx = .value v := by
 obtain ⟨dst, op, type, pos, after, guard⟩ := o
 have bindv : ∀ (s : Sem Value), ((do pure (.value (← s)) : Sem Next)).run P w = .ok nx w' → ∃ v, nx = .value v := fun s hs => by
  rw [Sem.run_bind] at hs
  cases hr : s.run P w with
  | ok x w2 => rw [hr] at hs; simp only [Result.andThen_ok, Sem.run_pure, Result.ok.injEq] at hs; exact ⟨x, hs.1.symm⟩
  | halt x w2 => rw [hr] at hs; simp [Result.andThen] at hs
 cases op <;> simp only [quietOp, Bool.false_eq_true] at h <;> simp only [execOp] at hr
 case nilCheck x =>
  split at hr
  ·exact absurd hr (by simp [runtimePanic, program, Sem.run, goPanic])
  ·exact absurd hr (by simp [runtimePanic, program, Sem.run, goPanic])
  ·exact absurd hr (by simp [runtimePanic, program, Sem.run, goPanic])
  ·rename_i name first captured _
   split at hr
   ·exact absurd hr (by simp [runtimePanic, program, Sem.run, goPanic])
   ·rename_i t w2 _
    simp only [Sem.run_bind] at hr
    cases h1 : (program : Sem Program).run P w with
    | halt x w3 => rw [h1] at hr; simp [Result.andThen] at hr
    | ok p w3 =>
     rw [h1] at hr
     simp only [Result.andThen_ok] at hr
     cases h2 : (nilAhead (p.types.size + Made.depth) t w2 name).run P w3 with
     | halt x w4 => rw [h2] at hr; simp [Result.andThen] at hr
     | ok b w4 =>
      rw [h2] at hr
      simp only [Result.andThen_ok] at hr
      split at hr
      ·simp [unsupported, Sem.run, Result.andThen] at hr
      ·simp only [Sem.run_pure, Result.andThen_ok, Result.ok.injEq] at hr
       exact ⟨_, hr.1.symm⟩
   ·simp only [Sem.run_pure, Result.ok.injEq] at hr; exact ⟨_, hr.1.symm⟩
  ·simp only [Sem.run_pure, Result.ok.injEq] at hr; exact ⟨_, hr.1.symm⟩
 case call c =>
  obtain ⟨callee, args, argTypes⟩ := c
  cases callee with
  | value f => simp at h
  | invoke r m => simp at h
  | builtin b =>
   cases b <;> simp only [Bool.false_eq_true] at h
   all_goals
    simp only [resolve, Sem.run_bind, Sem.run_pure, Result.andThen_ok, invoke, builtin] at hr
    exact bindv _ (by rw [Sem.run_bind]; exact hr)
 case pick c x y =>
  rw [Sem.run_bind] at hr
  cases h1 : (asBool (ρ c)).run P w with
  | ok b w2 => rw [h1] at hr; simp only [Result.andThen_ok, Sem.run_pure, Result.ok.injEq] at hr; exact ⟨_, hr.1.symm⟩
  | halt x w2 => rw [h1] at hr; simp [Result.andThen] at hr
 all_goals first
  | (exact bindv _ hr)
  | (simp only [Sem.run_pure, Result.ok.injEq] at hr; exact ⟨_, hr.1.symm⟩)

/-- the state of a region that draws, over typed values -/
def DL (P : Program) (n : Nat) (ops : Array Oper) (Q : Exit → Env → World → Prop) (keep : List Nat) (S : World → Prop) (fuel : Nat) (listed : Array Bool) (ρ : Env) (w : World) : Prop :=
 DC ops listed → ∀ a : Act, a.tmps.size = n → a.defers = [] → envOf a = ρ → wpAnyK P ops (lift n Q) keep S fuel listed a w

section
variable {P : Program} {n : Nat} {ops : Array Oper} {Q : Exit → Env → World → Prop} {keep : List Nat} {S : World → Prop} {fuel : Nat} {listed listed' : Array Bool} {ρ : Env} {w : World}

theorem CW.draws {id m : Nat} {l : List Oper} (hm : P.follows .mixedOrders = true) (keep : List Nat) (S : World → Prop) (hl : l.length = m) (hL : Array.replicate m false = listed)
  (h : DL P n l.toArray Q keep S m listed ρ w.drew) : CW P n (.region id l.toArray true) Q ρ w := fun a hs hd he => by
 subst hl
 subst hL
 refine wp_region_any hm ?_
 have := wpAny_of_K _ _ _ _ (h (DC.start _ _) a hs hd he)
 rw [List.size_toArray]
 exact this

def side (ops : Array Oper) (listed : Array Bool) (i : Nat) : Bool := Region.noSelect ops && Region.free .any ops listed i && (Region.ready .any ops listed).contains i

theorem put_env {a : Act} {d : Nat} {v : Value} (hs : a.tmps.size = n) (hd : Nat.blt d n = true) : envOf (a.put (some d) v) = upd (envOf a) d v :=
 env_put (by rw [hs]; exact Nat.le_of_ble_eq_true hd)

theorem yields_of {T : World → Prop} {d : Nat} {op : Op} {ty : TypeId} {pos : String} {after : Array Edge} {g : Option (Nat × Bool)} {v : Value} {a : Act} (hq : quietOp op = true) (hw : Wanted ops (envOf a) g)
  (hy : ∀ w', T w' → ∀ K : Value → World → Prop, K v w' → OpW P op ty (envOf a) K w') : YieldsIf P ops T ⟨some d, op, ty, pos, after, g⟩ v a := by
 refine .inl ⟨Wanted.wanted (o := ⟨some d, op, ty, pos, after, g⟩) hw, fun w' hT => ?_⟩
 have h := hy w' hT (fun v' w'' => v' = v ∧ w'' = w') ⟨rfl, rfl⟩
 unfold OpW at h
 rw [eval_env, execOp_strip]
 generalize hr : (execOp (ev (envOf a)) ⟨none, op, ty, "", #[], none⟩).run P w' = r at h
 cases r with
 | halt x w2 => exact h.elim
 | ok nx w2 =>
  obtain ⟨v', rfl⟩ := quiet_value (o := ⟨none, op, ty, "", #[], none⟩) hq w' hr
  obtain ⟨rfl, rfl⟩ := h
  rfl

theorem DL.takeK {d : Nat} {op : Op} {ty : TypeId} {pos : String} {after : Array Edge} {g : Option (Nat × Bool)} {v : Value} (i : Nat) (hi : ops[i]? = some ⟨some d, op, ty, pos, after, g⟩) (hq : quietOp op = true)
  (hc : side ops listed i = true) (hk : keepOk ops keep i = true) (hl : listed.setIfInBounds i true = listed') (hw : Wanted ops ρ g) (hd : Nat.blt d n = true) (hS : S w)
  (hy : ∀ w', S w' → ∀ K : Value → World → Prop, K v w' → OpW P op ty ρ K w') (h : DL P n ops Q keep S fuel listed' (upd ρ d v) w) : DL P n ops Q keep S (fuel + 1) listed ρ w := by
 intro hDC a hs hdf he
 subst he
 subst hl
 simp only [side, Bool.and_eq_true] at hc
 have hr : i ∈ Region.ready .any ops listed := by simpa using hc.2
 refine wpAnyK_first hi (Region.noSelect_spec hc.1.1) (fun _ _ _ h => h) true (fun _ => hk) (.inr ⟨rfl, fun _ h => h⟩) fuel listed a w hDC (Region.free_spec hi hc.1.2) hr (yields_of hq hw hy) (fun _ => hS) ?_
 exact h (hDC.set hr) _ ((put_size _ _ _).trans hs) ((put_defers _ _ _).trans hdf) (put_env hs hd)

theorem DL.takeP {d : Nat} {op : Op} {ty : TypeId} {pos : String} {after : Array Edge} {g : Option (Nat × Bool)} {v : Value} (i : Nat) (hi : ops[i]? = some ⟨some d, op, ty, pos, after, g⟩) (hq : quietOp op = true)
  (hc : side ops listed i = true) (hl : listed.setIfInBounds i true = listed') (hw : Wanted ops ρ g) (hd : Nat.blt d n = true)
  (hy : ∀ w', ∀ K : Value → World → Prop, K v w' → OpW P op ty ρ K w') (h : DL P n ops Q keep S fuel listed' (upd ρ d v) w) : DL P n ops Q keep S (fuel + 1) listed ρ w := by
 intro hDC a hs hdf he
 subst he
 subst hl
 simp only [side, Bool.and_eq_true] at hc
 have hr : i ∈ Region.ready .any ops listed := by simpa using hc.2
 refine wpAnyK_first (T := fun _ => True) hi (Region.noSelect_spec hc.1.1) (fun _ _ _ h => h) false (fun h => by cases h) (.inl fun _ => trivial) fuel listed a w hDC (Region.free_spec hi hc.1.2) hr (yields_of hq hw (fun w' _ => hy w'))
  (fun h => by cases h) ?_
 exact h (hDC.set hr) _ ((put_size _ _ _).trans hs) ((put_defers _ _ _).trans hdf) (put_env hs hd)

theorem DL.skipP {d : Nat} {op : Op} {ty : TypeId} {pos : String} {after : Array Edge} {g : Option (Nat × Bool)} (i : Nat) (hi : ops[i]? = some ⟨some d, op, ty, pos, after, g⟩)
  (hc : side ops listed i = true) (hl : listed.setIfInBounds i true = listed') (hw : NotWanted ops ρ g) (hd : Nat.blt d n = true)
  (h : DL P n ops Q keep S fuel listed' (upd ρ d undef) w) : DL P n ops Q keep S (fuel + 1) listed ρ w := by
 intro hDC a hs hdf he
 subst he
 subst hl
 simp only [side, Bool.and_eq_true] at hc
 have hr : i ∈ Region.ready .any ops listed := by simpa using hc.2
 refine wpAnyK_first (T := fun _ => True) hi (Region.noSelect_spec hc.1.1) (fun _ _ _ h => h) false (fun h => by cases h) (.inl fun _ => trivial) fuel listed a w hDC (Region.free_spec hi hc.1.2) hr
  (.inr ⟨NotWanted.wanted (o := ⟨some d, op, ty, pos, after, g⟩) hw, rfl⟩)
  (fun h => by cases h) ?_
 exact h (hDC.set hr) _ ((put_size _ _ _).trans hs) ((put_defers _ _ _).trans hdf) (put_env hs hd)

theorem DL.execS {d : Nat} {op : Op} {ty : TypeId} {pos : String} {after : Array Edge} {g : Option (Nat × Bool)} (i : Nat) (hi : ops[i]? = some ⟨some d, op, ty, pos, after, g⟩)
  (hr : Region.ready .any ops listed = [i]) (hl : listed.setIfInBounds i true = listed') (hw : Wanted ops ρ g) (hd : Nat.blt d n = true)
  (h : OpW P op ty ρ (fun v w' => (keep.contains i = true → S w → S w') ∧ DL P n ops Q keep S fuel listed' (upd ρ d v) w') w) : DL P n ops Q keep S (fuel + 1) listed ρ w := by
 intro hDC a hs hdf he
 subst he
 subst hl
 have hmem : i ∈ Region.ready .any ops listed := by rw [hr]; simp
 refine And.intro (fun h0 => by rw [hr] at h0; cases h0) (fun j hj => ?_)
 rw [hr] at hj
 have hji : j = i := by simpa using hj
 subst hji
 unfold wpOp
 simp only [hi]
 rw [if_pos (Wanted.wanted (o := ⟨some d, op, ty, pos, after, g⟩) hw)]
 refine .inl (OpW.wp (o := ⟨some d, op, ty, pos, after, g⟩) h fun v w' hk => ⟨hk.1, ?_⟩)
 exact hk.2 (hDC.set hmem) _ ((put_size _ _ _).trans hs) ((put_defers _ _ _).trans hdf) (put_env hs hd)

theorem DL.execN {op : Op} {ty : TypeId} {pos : String} {after : Array Edge} {g : Option (Nat × Bool)} (i : Nat) (hi : ops[i]? = some ⟨none, op, ty, pos, after, g⟩)
  (hr : Region.ready .any ops listed = [i]) (hl : listed.setIfInBounds i true = listed') (hw : Wanted ops ρ g)
  (h : OpW P op ty ρ (fun _ w' => (keep.contains i = true → S w → S w') ∧ DL P n ops Q keep S fuel listed' ρ w') w) : DL P n ops Q keep S (fuel + 1) listed ρ w := by
 intro hDC a hs hdf he
 subst he
 subst hl
 have hmem : i ∈ Region.ready .any ops listed := by rw [hr]; simp
 refine And.intro (fun h0 => by rw [hr] at h0; cases h0) (fun j hj => ?_)
 rw [hr] at hj
 have hji : j = i := by simpa using hj
 subst hji
 unfold wpOp
 simp only [hi]
 rw [if_pos (Wanted.wanted (o := ⟨none, op, ty, pos, after, g⟩) hw)]
 refine .inl (OpW.wp (o := ⟨none, op, ty, pos, after, g⟩) h fun v w' hk => ⟨hk.1, ?_⟩)
 exact hk.2 (hDC.set hmem) _ hs hdf rfl

theorem DL.skipX {d : Nat} {op : Op} {ty : TypeId} {pos : String} {after : Array Edge} {g : Option (Nat × Bool)} (i : Nat) (hi : ops[i]? = some ⟨some d, op, ty, pos, after, g⟩)
  (hr : Region.ready .any ops listed = [i]) (hl : listed.setIfInBounds i true = listed') (hw : NotWanted ops ρ g) (hd : Nat.blt d n = true)
  (h : DL P n ops Q keep S fuel listed' (upd ρ d undef) w) : DL P n ops Q keep S (fuel + 1) listed ρ w := by
 intro hDC a hs hdf he
 subst he
 subst hl
 have hmem : i ∈ Region.ready .any ops listed := by rw [hr]; simp
 refine And.intro (fun h0 => by rw [hr] at h0; cases h0) (fun j hj => ?_)
 rw [hr] at hj
 have hji : j = i := by simpa using hj
 subst hji
 unfold wpOp
 simp only [hi]
 rw [if_neg (by rw [NotWanted.wanted (o := ⟨some d, op, ty, pos, after, g⟩) hw]; simp)]
 exact ⟨fun _ h => h, h (hDC.set hmem) _ ((put_size _ _ _).trans hs) ((put_defers _ _ _).trans hdf) (put_env hs hd)⟩

/-- one of several that may come up -/
def DLop (P : Program) (n : Nat) (ops : Array Oper) (Q : Exit → Env → World → Prop) (keep : List Nat) (S : World → Prop) (fuel : Nat) (listed : Array Bool) (ρ : Env) (w : World) (i : Nat) : Prop :=
 i ∈ Region.ready .any ops listed → DC ops listed → ∀ a : Act, a.tmps.size = n → a.defers = [] → envOf a = ρ →
  wpOp P ops (lift n Q) i (fun a' w' => (keep.contains i = true → S w → S w') ∧ wpAnyK P ops (lift n Q) keep S fuel (listed.setIfInBounds i true) a' w') a w
theorem DL.branch (l : List Nat) (hr : Region.ready .any ops listed = l) (hne : l.isEmpty = false) (h : ∀ i ∈ l, DLop P n ops Q keep S fuel listed ρ w i) : DL P n ops Q keep S (fuel + 1) listed ρ w := by
 intro hDC a hs hdf he
 refine And.intro (fun h0 => by rw [hr] at h0; subst h0; cases hne) (fun j hj => ?_)
 exact h j (by rwa [hr] at hj) hj hDC a hs hdf he
theorem all_nil {p : Nat → Prop} : ∀ i ∈ ([] : List Nat), p i := fun i h => by cases h
theorem all_cons {p : Nat → Prop} {x : Nat} {l : List Nat} (h1 : p x) (h2 : ∀ i ∈ l, p i) : ∀ i ∈ x :: l, p i := fun i h => by
 rcases List.mem_cons.1 h with rfl | h
 ·exact h1
 ·exact h2 i h
theorem DLop.execS {d : Nat} {op : Op} {ty : TypeId} {pos : String} {after : Array Edge} {g : Option (Nat × Bool)} {i : Nat} (hi : ops[i]? = some ⟨some d, op, ty, pos, after, g⟩)
  (hl : listed.setIfInBounds i true = listed') (hw : Wanted ops ρ g) (hd : Nat.blt d n = true)
  (h : OpW P op ty ρ (fun v w' => (keep.contains i = true → S w → S w') ∧ DL P n ops Q keep S fuel listed' (upd ρ d v) w') w) : DLop P n ops Q keep S fuel listed ρ w i := by
 intro hmem hDC a hs hdf he
 subst he
 subst hl
 unfold wpOp
 simp only [hi]
 rw [if_pos (Wanted.wanted (o := ⟨some d, op, ty, pos, after, g⟩) hw)]
 refine .inl (OpW.wp (o := ⟨some d, op, ty, pos, after, g⟩) h fun v w' hk => ⟨hk.1, ?_⟩)
 exact hk.2 (hDC.set hmem) _ ((put_size _ _ _).trans hs) ((put_defers _ _ _).trans hdf) (put_env hs hd)

theorem DL.done (hr : Region.ready .any ops listed = []) (h : Q .normal ρ w) : DL P n ops Q keep S fuel listed ρ w := by
 intro hDC a hs hdf he
 subst he
 cases fuel with
 | zero => exact ⟨hr, hs, hdf, h⟩
 | succ f => exact ⟨fun _ => ⟨hs, hdf, h⟩, by rw [hr]; simp⟩

theorem DL.state (T : Env → World → Prop) (fuel' : Nat) (listed' : Array Bool) (h1 : ∀ ρ w, T ρ w → DL P n ops Q keep S fuel' listed' ρ w)
  (h2 : (∀ ρ w, T ρ w → DL P n ops Q keep S fuel' listed' ρ w) → DL P n ops Q keep S fuel listed ρ w) : DL P n ops Q keep S fuel listed ρ w := h2 h1
theorem DL.cutS {A : Type} (E : A → Env → Prop) (k : A → World → Prop) (fuel' : Nat) (listed' : Array Bool) (h1 : ∀ s ρ w, E s ρ → S w → k s w → DL P n ops Q keep S fuel' listed' ρ w)
  (h2 : (∀ ρ w, (∃ s, E s ρ ∧ S w ∧ k s w) → DL P n ops Q keep S fuel' listed' ρ w) → DL P n ops Q keep S fuel listed ρ w) : DL P n ops Q keep S fuel listed ρ w :=
 h2 fun ρ w ⟨s, hE, hS, hk⟩ => h1 s ρ w hE hS hk
theorem DL.cut {A : Type} (E : A → Env → Prop) (k : A → World → Prop) (fuel' : Nat) (listed' : Array Bool) (h1 : ∀ s ρ w, E s ρ → k s w → DL P n ops Q keep S fuel' listed' ρ w)
  (h2 : (∀ ρ w, (∃ s, E s ρ ∧ k s w) → DL P n ops Q keep S fuel' listed' ρ w) → DL P n ops Q keep S fuel listed ρ w) : DL P n ops Q keep S fuel listed ρ w :=
 h2 fun ρ w ⟨s, hE, hk⟩ => h1 s ρ w hE hk
end
/-! ### lists of a known length -/
theorem list3 {α : Type} {l : List α} (h : l.length = 3) : ∃ a b c, l = [a, b, c] := by
 match l, h with
 | [a, b, c], _ => exact ⟨a, b, c, rfl⟩
theorem list5 {α : Type} {l : List α} (h : l.length = 5) : ∃ a b c d e, l = [a, b, c, d, e] := by
 match l, h with
 | [a, b, c, d, e], _ => exact ⟨a, b, c, d, e, rfl⟩
theorem list11 {α : Type} {l : List α} (h : l.length = 11) : ∃ a b c d e f g i j k m, l = [a, b, c, d, e, f, g, i, j, k, m] := by
 match l, h with
 | [a, b, c, d, e, f, g, i, j, k, m], _ => exact ⟨a, b, c, d, e, f, g, i, j, k, m, rfl⟩
end Go.Lift
end
section
/- Words and laws for proofs over the typed readings: bytes behind a slice, rows that a call owns, what an append leaves. -/
namespace Go.Lift
open Go.RowKit
/-- The slice's bytes. -/
def Bytes (w : World) (s : Sl) (bs : List UInt8) : Prop := bs.length = s.len ∧ AtO w s.a (u8s bs)
/-- A row of the call's own. -/
def Own (w : World) (base : Nat) (e : TypeId) (size : Nat) (s : Sl) (xs : List Value) : Prop := w.ownsRow base e size s.v s.len xs
theorem Bytes.ext {w w' : World} {s : Sl} {bs : List UInt8} (h : Ext w w') (hb : Bytes w s bs) : Bytes w' s bs := ⟨hb.1, Ext.atO h hb.2⟩

theorem u8s_one (bs : List UInt8) : ∀ u ∈ u8s bs, u.oneCell' = true := by
 intro u hu
 simp only [u8s, List.mem_map] at hu
 obtain ⟨b, _, rfl⟩ := hu
 rfl
theorem u8s_append (a b : List UInt8) : u8s (a ++ b) = u8s a ++ u8s b := by simp [u8s]
theorem u8s_get {bs : List UInt8} {j : Nat} {b : UInt8} (h : bs[j]? = some b) : (u8s bs)[j]? = some (.int .u8 b.toNat) := by simp [u8s, h]
theorem u8s_take (bs : List UInt8) (n : Nat) : (u8s bs).take n = u8s (bs.take n) := by simp [u8s, List.map_take]
theorem u8s_drop (bs : List UInt8) (n : Nat) : (u8s bs).drop n = u8s (bs.drop n) := by simp [u8s, List.map_drop]
theorem u8s_inj {a b : List UInt8} (h : u8s a = u8s b) : a = b := by
 unfold u8s at h
 refine List.map_inj_right (f := fun b : UInt8 => Value.int .u8 (b.toNat : Int)) ?_ |>.1 h
 intro x y hxy
 simp only [Value.int.injEq, true_and] at hxy
 exact UInt8.toNat_inj.1 (by omega)

theorem add_plain (b o n : Nat) : Addr.add ⟨b, o, none⟩ n = ⟨b, o + n, none⟩ := by unfold Addr.add; split <;> simp_all
theorem add_add (a : Addr) (m n : Nat) : (a.add m).add n = a.add (m + n) := by
 unfold Addr.add
 by_cases h1 : m = 0 <;> by_cases h2 : n = 0 <;> simp [h1, h2]
 omega

theorem At.mk {w : World} {a : Addr} {cs : List Value} (h : ∀ j v, cs[j]? = some v → w.cell? (a.add j) = some v) : At w a cs := h
/-- the cells of a block -/
theorem At.block {w : World} {b o : Nat} {cs : List Value} {cur : Array Value} {e : TypeId} {fr : Nat × Nat} (hb : w.heap[b]? = some (.cells cur e fr)) (hc : (cur.toList.drop o).take cs.length = cs) : At w ⟨b, o, none⟩ cs := by
 intro j v hj
 rw [add_plain, cell_of_row w b (o + j) cur e fr hb]
 have hjl : j < cs.length := (List.getElem?_eq_some_iff.1 hj).1
 have : ((cur.toList.drop o).take cs.length)[j]? = some v := by rw [hc]; exact hj
 rw [List.getElem?_take_of_lt hjl, List.getElem?_drop] at this
 simpa using this
theorem At.new {w w' : World} {b : Nat} {cs : List Value} {e : TypeId} (hb : b = w.heap.size) (hw : w' = w.alloc (.cells cs.toArray e)) : At w' ⟨b, 0, none⟩ cs := by
 subst hb; subst hw
 exact At.block (heap_new _ _) (by simp)
theorem Ext.new {w w' : World} {o : Obj} (hw : w' = w.alloc o) : Ext w w' := by subst hw; exact Ext.alloc (Ext.refl _) _
theorem At.sub {w : World} {a : Addr} {cs : List Value} (h : At w a cs) (o n : Nat) : At w (a.add o) ((cs.drop o).take n) := by
 intro j v hj
 rw [add_add]
 refine h (o + j) v ?_
 have hjl : j < n := by
  rcases Nat.lt_or_ge j n with h' | h'
  ·exact h'
  ·rw [List.getElem?_take_eq_none h'] at hj; cases hj
 rw [List.getElem?_take_of_lt hjl, List.getElem?_drop] at hj
 exact hj
theorem At.app {w : World} {a : Addr} {cs ds : List Value} (h : At w a cs) (k : At w (a.add cs.length) ds) : At w a (cs ++ ds) := by
 intro j v hj
 rcases Nat.lt_or_ge j cs.length with h' | h'
 ·rw [List.getElem?_append_left h'] at hj; exact h j v hj
 ·rw [List.getElem?_append_right h'] at hj
  have := k (j - cs.length) v hj
  rwa [add_add, Nat.add_sub_cancel' h'] at this

theorem Own.at {w : World} {base : Nat} {e : TypeId} {size : Nat} {s : Sl} {xs : List Value} (h : Own w base e size s xs) : AtO w s.a xs := by
 obtain ⟨a, l, c⟩ := s
 have hh := h
 rcases h.2 with ⟨h1, h2⟩ | ⟨g, cap, cur, h1, _⟩
 ·simp only [Value.slice.injEq] at h1
  obtain ⟨rfl, _, _⟩ := h1
  have := h.1
  simp only at h2
  rw [h2, Nat.zero_mul] at this
  exact List.eq_nil_of_length_eq_zero this
 ·simp only [Value.slice.injEq] at h1
  obtain ⟨rfl, _, _⟩ := h1
  exact fun j u hj => World.ownsRow.cells hh rfl j u hj
theorem Own.length {w : World} {base : Nat} {e : TypeId} {size : Nat} {s : Sl} {xs : List Value} (h : Own w base e size s xs) : xs.length = s.len * size := h.1
theorem Own.bytes {w : World} {base : Nat} {e : TypeId} {s : Sl} {bs : List UInt8} (h : Own w base e 1 s (u8s bs)) : Bytes w s bs :=
 ⟨by have := h.length; rw [u8s_length] at this; omega, h.at⟩
theorem Own.cap {w : World} {base : Nat} {e : TypeId} {size : Nat} {s : Sl} {xs : List Value} (h : Own w base e size s xs) : s.len ≤ s.cap := by
 obtain ⟨a, l, c⟩ := s
 show l ≤ c
 rcases h.2 with ⟨h1, h2⟩ | ⟨g, cap, cur, h1, _, _, h4, _⟩
 ·have h2 : l = 0 := h2; omega
 ·simp only [Value.slice.injEq] at h1; have h4 : l ≤ cap := h4; omega
theorem Own.nil (w : World) (base : Nat) (e : TypeId) (size : Nat) : Own w base e size nilSl [] := World.ownsRow_nil w base e size
/-- A row that was just made, no longer than it is. -/
theorem Own.new {w w' : World} {base b : Nat} {e : TypeId} {size n : Nat} {cs : List Value} (hb : b = w.heap.size) (hw : w' = w.alloc (.cells cs.toArray e)) (hbase : base ≤ w.heap.size) (hl : cs.length = n * size) (hm : n ≤ maxLen) :
  Own w' base e size ⟨some ⟨b, 0, none⟩, n, n⟩ cs := by
 subst hb; subst hw
 exact ⟨hl, .inr ⟨w.heap.size, n, cs.toArray, rfl, hbase, heap_new _ _, Nat.le_refl _, hm, by simpa using hl, by simp [← hl]⟩⟩
theorem Own.made {w w' : World} {base b : Nat} {e : TypeId} {size c : Nat} {cs : List Value} (hb : b = w.heap.size) (hw : w' = w.alloc (.cells cs.toArray e)) (hbase : base ≤ w.heap.size) (hl : cs.length = c * size) (hm : c ≤ maxLen) :
  Own w' base e size ⟨some ⟨b, 0, none⟩, 0, c⟩ [] := by
 subst hb; subst hw
 exact ⟨by simp, .inr ⟨w.heap.size, c, cs.toArray, rfl, hbase, heap_new _ _, Nat.zero_le _, hm, by simpa using hl, by simp⟩⟩
theorem Own.ext {w w' : World} {base : Nat} {e : TypeId} {size : Nat} {s : Sl} {xs : List Value} (hx : Ext w w') (h : Own w base e size s xs) : Own w' base e size s xs := by
 refine ⟨h.1, ?_⟩
 rcases h.2 with h | ⟨g, cap, cur, h1, h2, h3, h4⟩
 ·exact .inl h
 ·exact .inr ⟨g, cap, cur, h1, h2, Ext.heap hx h3, h4⟩

/-- 'append' onto a row of the call's own. -/
theorem app_own {P : Program} {w : World} {base : Nat} {t e : TypeId} {i : TypeInfo} {z : Value} {size bytes : Nat} {s x : Sl} {xs news : List Value} {K : Sl → World → Prop}
  (ht : P.underlying t = some (.slice e)) (hi : P.info? e = some i) (hz : i.zero = some z) (hsize : i.size = size) (hby : i.bytes = bytes) (hzs : z.cells.size = size) (hsz : 0 < size)
  (hown : Own w base e size s xs) (hl : news.length = x.len * size) (hx : AtO w x.a news) (h1 : ∀ u ∈ news, u.oneCell' = true)
  (h63 : s.len + x.len ≤ maxLen) (hb : (s.len + x.len) * bytes ≤ 140737488355328) (hbase : base ≤ w.heap.size)
  (h : ∀ (s' : Sl) (w' : World), s'.len = s.len + x.len → Own w' base e size s' (xs ++ news) → w.grownBy w' s.v.ownBlock → (∀ B a, Below B a w → B ≤ base → B ≤ w.heap.size → Below B a w') → K s' w') : app P t s x w K := by
 have hB : ∀ w', w.grownBy w' s.v.ownBlock → ∀ B a, Below B a w → B ≤ base → B ≤ w.heap.size → Below B a w' := fun w' hg B a hba hB1 hB2 =>
  Below.grown hba hg hB2 fun k hk => Nat.le_trans hB1 (World.ownsRow.lt hown k hk).1
 obtain ⟨xa, xl, xc⟩ := x
 cases xa with
 | none =>
  have hn : news = [] := hx
  subst hn
  simp only [List.length_nil] at hl
  have hxl : xl = 0 := by
   rcases Nat.eq_zero_or_pos xl with h | h
   ·exact h
   ·have := Nat.mul_pos h hsz; omega
  subst hxl
  have hgr : w.grownBy w s.v.ownBlock := ⟨rfl, rfl, rfl, Nat.le_refl _, fun _ _ _ => rfl⟩
  refine ⟨s, w, ?_, h s w rfl (by simpa using hown) hgr (hB w hgr)⟩
  obtain ⟨sa, sl, sc⟩ := s
  have hle : sl ≤ sc := by
   rcases hown.2 with ⟨h1, h2⟩ | ⟨g, cap, cur, h1, _, _, h4, _⟩
   ·simp only at h2; omega
   ·simp only [Value.slice.injEq] at h1; simp only at h4; omega
  cases sa <;> simp [Builtin.append_, run_underlying ht, sizeOf, typeInfo, hi, Builtin.lenOf, Builtin.firstCells, hle, storeCells]
 | some a =>
  obtain ⟨v', w', hr, ho, hg, _⟩ := run_append_own (P := P) w base t t e i z size bytes ht hi hz hsize hby hzs hsz s.v s.len xs hown a xl xc news hl hx h1 h63 hb hbase
  -- the value is a slice
  have hv : ∃ s' : Sl, v' = s'.v ∧ s'.len = s.len + xl := by
   rcases ho.2 with ⟨h1, h2⟩ | ⟨g, cap, cur, h1, _⟩
   ·exact ⟨nilSl, h1, h2.symm⟩
   ·exact ⟨⟨some ⟨g, 0, none⟩, s.len + xl, cap⟩, h1, rfl⟩
  obtain ⟨s', rfl, hl'⟩ := hv
  refine ⟨s', w', hr, h s' w' hl' ?_ hg (hB w' hg)⟩
  unfold Own
  rw [hl']
  exact ho

theorem AtO.some_of {w : World} {a : Option Addr} {cs : List Value} {j : Nat} {v : Value} (h : AtO w a cs) (hj : cs[j]? = some v) : ∃ b, a = some b ∧ w.cell? (b.add j) = some v := by
 cases a with
 | none =>
  have : cs = [] := h
  subst this
  simp at hj
 | some b => exact ⟨b, rfl, h j v hj⟩
/-- A slice of slices of bytes. -/
def Parts (w : World) (p : Sl) (l : List (List UInt8)) : Prop :=
 ∃ ss : List Sl, ss.length = p.len ∧ ss.length = l.length ∧ AtO w p.a (ss.map Sl.v) ∧ ∀ (k : Nat) (s : Sl) (b : List UInt8), ss[k]? = some s → l[k]? = some b → Bytes w s b
theorem Parts.ext {w w' : World} {p : Sl} {l : List (List UInt8)} (h : Ext w w') (hp : Parts w p l) : Parts w' p l := by
 obtain ⟨ss, h1, h2, h3, h4⟩ := hp
 exact ⟨ss, h1, h2, Ext.atO h h3, fun k s b hs hb => (h4 k s b hs hb).ext h⟩
theorem Parts.len {w : World} {p : Sl} {l : List (List UInt8)} (hp : Parts w p l) : p.len = l.length := by
 obtain ⟨ss, h1, h2, _⟩ := hp
 omega
theorem Parts.get {w : World} {p : Sl} {l : List (List UInt8)} (hp : Parts w p l) {k : Nat} (hk : k < l.length) : ∃ a s, p.a = some a ∧ w.cell? (a.add k) = some s.v ∧ Bytes w s l[k] := by
 obtain ⟨ss, h1, h2, h3, h4⟩ := hp
 have hks : k < ss.length := by omega
 obtain ⟨a, ha, hc⟩ := h3.some_of (j := k) (v := ss[k].v) (by simp [hks])
 exact ⟨a, ss[k], ha, hc, h4 k _ _ (List.getElem?_eq_getElem hks) (List.getElem?_eq_getElem hk)⟩
theorem Bytes.get {w : World} {s : Sl} {bs : List UInt8} (h : Bytes w s bs) {k : Nat} (hk : k < bs.length) : ∃ a, s.a = some a ∧ w.cell? (a.add k) = some (.int .u8 bs[k].toNat) :=
 AtO.some_of h.2 (u8s_get (List.getElem?_eq_getElem hk))

theorem mkCells_eq {P : Program} {t e : TypeId} {size bytes : Nat} {zs : List Value} (h : mkCells P t = some (e, size, bytes, zs)) :
  P.underlying t = some (.slice e) ∧ ∃ i z, P.info? e = some i ∧ i.zero = some z ∧ i.size = size ∧ i.bytes = bytes ∧ z.cells.toList = zs := by
 unfold mkCells at h
 split at h
 ·rename_i e' hu
  split at h
  ·rename_i i hi
   split at h
   ·rename_i z hz
    simp only [Option.some.injEq, Prod.mk.injEq] at h
    obtain ⟨rfl, h1, h2, h3⟩ := h
    exact ⟨hu, i, z, hi, hz, h1, h2, h3⟩
   ·simp at h
  ·simp at h
 ·simp at h
/-- The same, from the one closed fact on the type. -/
theorem app_ok {P : Program} {w : World} {base : Nat} {t e : TypeId} {zs : List Value} {size bytes : Nat} {s x : Sl} {xs news : List Value} {K : Sl → World → Prop}
  (ht : mkCells P t = some (e, size, bytes, zs)) (hzs : zs.length = size) (hsz : 0 < size)
  (hown : Own w base e size s xs) (hl : news.length = x.len * size) (hx : AtO w x.a news) (h1 : ∀ u ∈ news, u.oneCell' = true)
  (h63 : s.len + x.len ≤ maxLen) (hb : (s.len + x.len) * bytes ≤ 140737488355328) (hbase : base ≤ w.heap.size)
  (h : ∀ (s' : Sl) (w' : World), s'.len = s.len + x.len → Own w' base e size s' (xs ++ news) → w.grownBy w' s.v.ownBlock → (∀ B a, Below B a w → B ≤ base → B ≤ w.heap.size → Below B a w') → K s' w') : app P t s x w K := by
 obtain ⟨hu, i, z, hi, hz, hs, hby, hc⟩ := mkCells_eq ht
 exact app_own hu hi hz hs hby (by rw [← hzs, ← hc]; simp) hsz hown hl hx h1 h63 hb hbase h

/-! ### cuts -/
theorem AtO.nil (w : World) (a : Option Addr) : AtO w a [] := by
 cases a with
 | none => rfl
 | some a => exact fun j v h => by simp at h
theorem AtO.cut {w : World} {s : Sl} {cs : List Value} (h : AtO w s.a cs) (n : Nat) {l e m : Nat} (h1 : l ≤ e) (h2 : e ≤ m) : AtO w (s.cut n l e m).a ((cs.take (e * n)).drop (l * n)) := by
 obtain ⟨a, len, cap⟩ := s
 cases a with
 | none =>
  have : cs = [] := h
  subst this
  simp only [List.take_nil, List.drop_nil]
  exact AtO.nil _ _
 | some a =>
  have h' : At w a cs := h
  unfold Sl.cut
  simp only [Int.toNat_natCast]
  split
  ·rename_i hml
   have : e = l := by omega
   subst this
   rw [List.drop_eq_nil_of_le (by simp; omega)]
   exact AtO.nil _ _
  ·show At w (a.add (l * n)) _
   have := h'.sub (l * n) (e * n - l * n)
   rwa [← List.drop_take] at this
theorem Bytes.cut {w : World} {s : Sl} {bs : List UInt8} (h : Bytes w s bs) {l e m : Nat} (h1 : l ≤ e) (h2 : e ≤ m) (h3 : e ≤ bs.length) : Bytes w (s.cut 1 l e m) ((bs.take e).drop l) := by
 refine ⟨?_, ?_⟩
 ·simp [Sl.cut]; omega
 ·have := h.2.cut 1 h1 h2
  rw [Nat.mul_one, Nat.mul_one, u8s_take, u8s_drop] at this
  exact this

/-! ### rows that are marked -/
theorem heap_freeze_ne (w : World) (a : Addr) (n k : Nat) (h : k ≠ a.block) : (w.freeze a n).heap[k]? = w.heap[k]? := by
 unfold World.freeze
 split
 ·rfl
 ·simp only [Array.getElem?_modify]
  rw [if_neg (by omega)]
theorem freeze_size (w : World) (a : Addr) (n : Nat) : (w.freeze a n).heap.size = w.heap.size := by
 unfold World.freeze
 split <;> simp
theorem cell_freeze (w : World) (a : Addr) (n : Nat) (b : Addr) : (w.freeze a n).cell? b = w.cell? b := by
 unfold World.freeze
 split
 ·rfl
 ·unfold World.cell?
  simp only [Array.getElem?_modify]
  by_cases h : a.block = b.block
  ·rw [if_pos h]
   cases hb : w.heap[b.block]? with
   | none => rfl
   | some o => cases o <;> rfl
  ·rw [if_neg h]
theorem Ext.freeze {w0 w : World} (h : Ext w0 w) {a : Addr} (n : Nat) (hb : w0.heap.size ≤ a.block) : Ext w0 (w.freeze a n) :=
 ⟨by unfold World.freeze; split <;> exact h.os, by unfold World.freeze; split <;> exact h.tape, by unfold World.freeze; split <;> exact h.output, by rw [freeze_size]; exact h.size,
  fun k hk => by rw [heap_freeze_ne _ _ _ _ (by omega)]; exact h.block k hk⟩
theorem At.freeze {w : World} {a : Addr} {cs : List Value} (h : At w a cs) (b : Addr) (n : Nat) : At (w.freeze b n) a cs := fun j v hj => by rw [cell_freeze]; exact h j v hj

/-! ### a place of an own row is written -/
theorem Own.place {w : World} {base : Nat} {e : TypeId} {size : Nat} {s : Sl} {xs : List Value} (h : Own w base e size s xs) {j : Nat} (hj : j < s.len * size) :
  ∃ g, s.a = some ⟨g, 0, none⟩ ∧ base ≤ g ∧ g < w.heap.size ∧ w.cell? ⟨g, j, none⟩ = xs[j]? ∧ w.frozen? ⟨g, j, none⟩ = false ∧
   ∀ (v : Value), Own (w.setCell ⟨g, j, none⟩ v) base e size s (xs.set j v) ∧ ∀ B a, Below B a w → B ≤ base → Below B a (w.setCell ⟨g, j, none⟩ v) := by
 obtain ⟨a, l, c⟩ := s
 rcases h.2 with ⟨h1, h2⟩ | ⟨g, cap, cur, h1, h2, h3, _⟩
 ·simp only at h2 hj; subst h2; rw [Nat.zero_mul] at hj; omega
 ·simp only [Value.slice.injEq] at h1
  obtain ⟨rfl, _, rfl⟩ := h1
  have hg : g < w.heap.size := by
   rcases Nat.lt_or_ge g w.heap.size with h' | h'
   ·exact h'
   ·rw [Array.getElem?_eq_none h'] at h3; cases h3
  refine ⟨g, rfl, h2, hg, World.ownsRow.cellAt h j hj, World.ownsRow.frozenAt h j, fun v => ⟨(World.ownsRow.stored h j v).1, fun B a hb hB => Below.setCell hb (Nat.le_trans hB h2) v⟩⟩
theorem Own.below {w : World} {base : Nat} {e : TypeId} {size : Nat} {s : Sl} {xs : List Value} (h : Own w base e size s xs) {a : Addr} (ha : a.block < base) (v : Value) : Own (w.setCell a v) base e size s xs := ownsRow_setCell_below h ha v
theorem ix_own {w : World} {base : Nat} {e : TypeId} {size : Nat} {s : Sl} {xs : List Value} {i : Int} {j : Nat} {K : Addr → Prop} (h : Own w base e size s xs) (hs : 0 < size) (hi : i = (j : Int)) (hj : j < s.len)
  (hk : ∀ g, s.a = some ⟨g, 0, none⟩ → base ≤ g → g < w.heap.size → K ⟨g, j * size, none⟩) : ix s size i K := by
 subst hi
 have hj2 : j * size < s.len * size := Nat.mul_lt_mul_of_pos_right hj hs
 obtain ⟨g, hg, hb, hsz, _⟩ := h.place hj2
 refine ⟨⟨g, 0, none⟩, _, hg, by omega, by omega, rfl, ?_⟩
 rw [add_plain, Nat.zero_add, Int.toNat_natCast]
 exact hk g hg hb hsz
theorem st1_own {w : World} {base g : Nat} {e : TypeId} {size : Nat} {s : Sl} {xs : List Value} {v : Value} {j : Nat} {K : World → Prop} (h : Own w base e size s xs) (ha : s.a = some ⟨g, 0, none⟩) (hj : j < s.len * size)
  (hk : ∀ w', w' = w.setCell ⟨g, j, none⟩ v → Own w' base e size s (xs.set j v) → (∀ B a, Below B a w → B ≤ base → Below B a w') → K w') : st1 ⟨g, j, none⟩ v w K := by
 obtain ⟨g', hg, hb, hsz, hc, hf, hv⟩ := h.place hj
 rw [ha] at hg
 cases hg
 have hl : j < xs.length := by have := h.length; omega
 refine ⟨xs[j], by rw [hc, List.getElem?_eq_getElem hl], hf, fun w' hw => hk w' hw (by rw [hw]; exact (hv v).1) (by rw [hw]; exact (hv v).2)⟩

/-! ### numbers -/
theorem w64_eq {x : Int} (h0 : -9223372036854775808 ≤ x) (h1 : x ≤ 9223372036854775807) : IntKind.i64.wrap x = x := by
 simp [IntKind.wrap, IntKind.signed, IntKind.bits]; omega
theorem wu64_eq {x : Int} (h0 : 0 ≤ x) (h1 : x < 18446744073709551616) : IntKind.u64.wrap x = x := by
 simp [IntKind.wrap, IntKind.signed, IntKind.bits]; omega
theorem wu32_eq {x : Int} (h0 : 0 ≤ x) (h1 : x < 4294967296) : IntKind.u32.wrap x = x := by
 simp [IntKind.wrap, IntKind.signed, IntKind.bits]; omega
theorem wu8_eq {x : Int} (h0 : 0 ≤ x) (h1 : x < 256) : IntKind.u8.wrap x = x := by
 simp [IntKind.wrap, IntKind.signed, IntKind.bits]; omega
theorem wu8_mod (x : Int) : IntKind.u8.wrap x = x % 256 := by simp [IntKind.wrap, IntKind.signed, IntKind.bits]
theorem wu32_mod (x : Int) : IntKind.u32.wrap x = x % 4294967296 := by simp [IntKind.wrap, IntKind.signed, IntKind.bits]
theorem wu64_mod (x : Int) : IntKind.u64.wrap x = x % 18446744073709551616 := by simp [IntKind.wrap, IntKind.signed, IntKind.bits]

/-! ### ways -/
theorem ifB_t {b : Bool} {x y : Prop} (hb : b = true) (h : x) : ifB b x y := ⟨fun _ => h, fun h' => by rw [hb] at h'; cases h'⟩
theorem ifB_f {b : Bool} {x y : Prop} (hb : b = false) (h : y) : ifB b x y := ⟨fun h' => absurd h' (by simp [hb]), fun _ => h⟩
theorem ifB_dt {p : Prop} [Decidable p] {x y : Prop} (hp : p) (h : x) : ifB (decide p) x y := ifB_t (decide_eq_true hp) h
theorem ifB_df {p : Prop} [Decidable p] {x y : Prop} (hp : ¬ p) (h : y) : ifB (decide p) x y := ifB_f (decide_eq_false hp) h
theorem ifB_nt {p : Prop} [Decidable p] {x y : Prop} (hp : ¬ p) (h : x) : ifB (!decide p) x y := ifB_t (by simp [hp]) h
theorem ifB_nf {p : Prop} [Decidable p] {x y : Prop} (hp : p) (h : y) : ifB (!decide p) x y := ifB_f (by simp [hp]) h
theorem nd_t {p : Prop} [Decidable p] (h : (!decide p) = true) : ¬ p := by simpa using h
theorem nd_f {p : Prop} [Decidable p] (h : (!decide p) = false) : p := by simpa using h
/-- A call by its contract. -/
theorem cR_of {α : Type} {P : Program} {f : FuncId} {mk : α → Value} {args : Array Value} {w : World} {K K' : α → World → Prop} (h : Calls P f args w (Ret mk K')) (hk : ∀ x w', K' x w' → K x w') : cR P f mk args w K := by
 refine Calls.mono h fun e w' hh => ?_
 obtain ⟨x, he, hx⟩ := hh
 exact ⟨x, he, hk x w' hx⟩
theorem Ret.mono {α : Type} {P : Program} {f : FuncId} {mk : α → Value} {args : Array Value} {w : World} {K K' : α → World → Prop} (h : Calls P f args w (Ret mk K')) (hk : ∀ x w', K' x w' → K x w') : Calls P f args w (Ret mk K) := cR_of h hk
end Go.Lift
end
section
/- From a row's reading of its arguments to the facts that the contracts ask. -/
namespace Go.Lift
open Go.ChangeShapes Go.WideShapes Go.ChangeAt Go.RowKit Go.Deep

section
variable {H : Type} {enc : TypeId × Value → H} {P : Program} {w : World} {base : Nat} {held : Bool}
theorem sl_cells {s : Sl} {a : Option Addr} {l c : Nat} (h : (Value.slice a l c).cells.toList = [s.v]) : (Value.slice a l c) = s.v := by
 simpa [Value.cells] using h
/-- bytes -/
theorem open_u8s {t e : TypeId} {fuel : Nat} {cs : List Value} {x : DataW H × List MemPlace} (ht : P.underlying t = some (.slice e)) (he : P.underlying e = some (.int .u8)) (hc : P.cellsOf e = 1)
  (h : DataW.trod enc P w base (fun _ => true) held fuel t cs = some x) : ∃ s : Sl, cs = [s.v] ∧ s.len ≤ s.cap ∧ s.cap ≤ maxLen ∧ ∃ bs, Bytes w s bs := by
 rcases open_ints ht he hc h with ⟨hcs, _⟩ | ⟨a, len, cap, zs, hcs, _, hl, hm, hz, _, hcell, hwz⟩
 ·exact ⟨nilSl, hcs, Nat.le_refl _, Nat.zero_le _, [], rfl, rfl⟩
 ·have hz' : zs.length = cap := by simpa using hz
  refine ⟨⟨some a, len, cap⟩, hcs, hl, hm, (zs.take len).map (fun z => UInt8.ofNat z.toNat), by simp; omega, ?_⟩
  intro j v hj
  simp only [u8s, List.map_map, List.getElem?_map] at hj
  rcases hjz : (zs.take len)[j]? with _ | z
  ·rw [hjz] at hj; simp at hj
  ·rw [hjz] at hj
   simp only [Option.map_some, Option.some.injEq, Function.comp] at hj
   have hjl : j < zs.length := by
    have := (List.getElem?_eq_some_iff.1 hjz).1
    simp at this; omega
   have hzj : zs[j]? = some z := by
    have hjt : j < len := by
     have := (List.getElem?_eq_some_iff.1 hjz).1
     simp at this; omega
    rw [List.getElem?_take_of_lt hjt] at hjz
    exact hjz
   have hmem : z ∈ zs := List.mem_of_getElem? hzj
   have hwf := hwz z hmem
   have hb : 0 ≤ z ∧ z ≤ 255 := by simpa [Lit.wf, IntKind.min, IntKind.max, IntKind.signed, IntKind.bits] using hwf
   have := hcell j hjl
   rw [this, ← hj]
   have : zs.getD j 0 = z := by simp [List.getD, hzj]
   rw [this]
   have h2 : (UInt8.ofNat z.toNat).toNat = z.toNat := by simp; omega
   rw [h2]
   congr 2
   omega
theorem choose_fn {α β : Type} [Inhabited β] {p : α → β → Prop} {q : α → Prop} (h : ∀ i, q i → ∃ b, p i b) : ∃ f : α → β, ∀ i, q i → p i (f i) := by
 classical
 refine ⟨fun i => if hq : ∃ b, p i b then Classical.choose hq else default, fun i hi => ?_⟩
 have := h i hi
 simp only [dif_pos this]
 exact Classical.choose_spec this
instance : Inhabited Sl := ⟨nilSl⟩
/-- slices of bytes -/
theorem open_parts {t e q : TypeId} {fuel : Nat} {cs : List Value} {x : DataW H × List MemPlace} (ht : P.underlying t = some (.slice e)) (he : P.underlying e = some (.slice q)) (hq : P.underlying q = some (.int .u8))
  (ce : P.cellsOf e = 1) (cq : P.cellsOf q = 1) (h : DataW.trod enc P w base (fun _ => true) held fuel t cs = some x) : ∃ s : Sl, cs = [s.v] ∧ s.len ≤ s.cap ∧ s.cap ≤ maxLen ∧ ∃ l, Parts w s l ∧ ∀ b ∈ l, b.length ≤ maxLen := by
 rcases open_slice1 ht ce h with ⟨hcs, _⟩ | ⟨a, len, cap, m, n, V, D, Pl, hcs, _, hl, hm, hmm, _, hx⟩
 ·exact ⟨nilSl, hcs, Nat.le_refl _, Nat.zero_le _, [], ⟨[], rfl, rfl, rfl, fun k s b hs => by simp at hs⟩, by simp⟩
 ·have hmc : m = cap := by simpa using hmm
  have hel : ∀ i, i < len → ∃ y : Sl × List UInt8, V i = y.1.v ∧ w.cell? (a.add i) = some (V i) ∧ Bytes w y.1 y.2 ∧ y.1.len ≤ maxLen := by
   intro i hi
   obtain ⟨h1, h2⟩ := hx i (by omega)
   obtain ⟨s, hs, h3, h4, bs, hb⟩ := open_u8s he hq cq h2
   exact ⟨(s, bs), by simpa using hs, h1, hb, Nat.le_trans h3 h4⟩
  obtain ⟨f, hf⟩ := choose_fn (p := fun i (y : Sl × List UInt8) => V i = y.1.v ∧ w.cell? (a.add i) = some (V i) ∧ Bytes w y.1 y.2 ∧ y.1.len ≤ maxLen) (q := fun i => i < len) hel
  refine ⟨⟨some a, len, cap⟩, hcs, hl, hm, (List.range len).map fun i => (f i).2, ⟨(List.range len).map fun i => (f i).1, by simp, by simp, ?_, ?_⟩, ?_⟩
  ·intro j v hj
   simp only [List.map_map, List.getElem?_map] at hj
   by_cases hjl : j < len
   ·simp only [List.getElem?_range hjl, Option.map_some, Function.comp, Option.some.injEq] at hj
    obtain ⟨h1, h2, _⟩ := hf j hjl
    rw [h2, h1, hj]
   ·rw [List.getElem?_eq_none (by simpa using hjl)] at hj; simp at hj
  ·intro k s b hs hb
   by_cases hjl : k < len
   ·simp only [List.getElem?_map, List.getElem?_range hjl, Option.map_some, Option.some.injEq] at hs hb
    subst hs; subst hb
    exact (hf k hjl).2.2.1
   ·rw [List.getElem?_eq_none (by simpa using hjl)] at hs; simp at hs
  ·intro b hb
   simp only [List.mem_map, List.mem_range] at hb
   obtain ⟨i, hi, rfl⟩ := hb
   have := (hf i hi).2.2
   rw [this.1.1]
   exact this.2
end
end Go.Lift
end
section
/- Blocks that are written: what stays, what a store, a copy and an append leave. -/
namespace Go.Lift
open Go.RowKit
/-- All that was there is as it was, but for some blocks. -/
structure Fr (X : Nat → Prop) (w w' : World) : Prop where
 os : w'.os = w.os
 tape : w'.tape = w.tape
 output : w'.output = w.output
 size : w.heap.size ≤ w'.heap.size
 block : ∀ k, k < w.heap.size → ¬ X k → w'.heap[k]? = w.heap[k]?
theorem Fr.of {X : Nat → Prop} {w w' : World} (h : Ext w w') : Fr X w w' := ⟨h.os, h.tape, h.output, h.size, fun k hk _ => h.block k hk⟩
theorem Fr.refl {X : Nat → Prop} (w : World) : Fr X w w := Fr.of (Ext.refl w)
theorem Fr.trans {X : Nat → Prop} {a b c : World} (h : Fr X a b) (k : Fr X b c) : Fr X a c :=
 ⟨k.os.trans h.os, k.tape.trans h.tape, k.output.trans h.output, Nat.le_trans h.size k.size, fun i hi hx => (k.block i (Nat.lt_of_lt_of_le hi h.size) hx).trans (h.block i hi hx)⟩
theorem Fr.mono {X Y : Nat → Prop} {a b : World} (h : Fr X a b) (hxy : ∀ k, k < a.heap.size → X k → Y k) : Fr Y a b := ⟨h.os, h.tape, h.output, h.size, fun i hi hx => h.block i hi fun hx' => hx (hxy i hi hx')⟩
theorem Fr.below {X : Nat → Prop} {B : Nat} {a w w' : World} (h : Fr X w w') (hb : Below B a w) (hX : ∀ k, k < w.heap.size → X k → B ≤ k) (hB : B ≤ w.heap.size) : Below B a w' :=
 ⟨h.os.trans hb.os, h.tape.trans hb.tape, h.output.trans hb.output, Nat.le_trans hb.size h.size, fun k hk => (h.block k (Nat.lt_of_lt_of_le hk hB) fun hx => Nat.lt_irrefl _ (Nat.lt_of_lt_of_le hk (hX k (Nat.lt_of_lt_of_le hk hB) hx))).trans (hb.block k hk)⟩
theorem Fr.ext {X : Nat → Prop} {w0 w w' : World} (h : Fr X w w') (hb : Ext w0 w) (hX : ∀ k, k < w.heap.size → X k → w0.heap.size ≤ k) : Ext w0 w' := h.below hb hX hb.size
theorem Fr.cell {X : Nat → Prop} {w w' : World} (h : Fr X w w') {a : Addr} {v : Value} (hx : ¬ X a.block) (hc : w.cell? a = some v) : w'.cell? a = some v :=
 (World.cell?_of_block (h.block a.block (World.block_lt_of_cell? w a hc) hx)).trans hc
theorem Fr.at {X : Nat → Prop} {w w' : World} (h : Fr X w w') {a : Addr} {cs : List Value} (hx : ¬ X a.block) (hc : At w a cs) : At w' a cs := fun j v hj => h.cell (by rw [add_block]; exact hx) (hc j v hj)
theorem Fr.atO {X : Nat → Prop} {w w' : World} (h : Fr X w w') {a : Option Addr} {cs : List Value} (hx : ∀ b, a = some b → ¬ X b.block) (hc : AtO w a cs) : AtO w' a cs := by
 cases a with
 | none => exact hc
 | some a => exact h.at (hx a rfl) hc
theorem Fr.bytes {X : Nat → Prop} {w w' : World} (h : Fr X w w') {s : Sl} {bs : List UInt8} (hx : ∀ b, s.a = some b → ¬ X b.block) (hc : Bytes w s bs) : Bytes w' s bs := ⟨hc.1, h.atO hx hc.2⟩
theorem Fr.own {X : Nat → Prop} {w w' : World} (h : Fr X w w') {base : Nat} {e : TypeId} {size : Nat} {s : Sl} {xs : List Value} (hx : ∀ b, s.a = some b → ¬ X b.block) (hc : Own w base e size s xs) : Own w' base e size s xs := by
 obtain ⟨a, l, c⟩ := s
 refine ⟨hc.1, ?_⟩
 rcases hc.2 with h0 | ⟨g, cap, cur, h1, h2, h3, h4⟩
 ·exact .inl h0
 ·simp only [Value.slice.injEq] at h1
  obtain ⟨rfl, _, rfl⟩ := h1
  refine .inr ⟨g, c, cur, rfl, h2, ?_, h4⟩
  have hg : g < w.heap.size := (Array.getElem?_eq_some_iff.1 h3).1
  rw [h.block g hg (hx _ rfl)]
  exact h3

/-! ### blocks -/
def Blk (w : World) (g : Nat) (e : TypeId) (cs : List Value) : Prop := w.heap[g]? = some (.cells cs.toArray e (0, 0))
theorem Blk.lt {w : World} {g : Nat} {e : TypeId} {cs : List Value} (h : Blk w g e cs) : g < w.heap.size := (Array.getElem?_eq_some_iff.1 h).1
theorem Blk.new {w w' : World} {b : Nat} {e : TypeId} {cs : List Value} (hb : b = w.heap.size) (hw : w' = w.alloc (.cells cs.toArray e)) : Blk w' b e cs := by subst hb; subst hw; exact heap_new _ _
theorem Blk.fr {X : Nat → Prop} {w w' : World} {g : Nat} {e : TypeId} {cs : List Value} (h : Blk w g e cs) (hf : Fr X w w') (hx : ¬ X g) : Blk w' g e cs := (hf.block g h.lt hx).trans h
theorem Blk.ext {w w' : World} {g : Nat} {e : TypeId} {cs : List Value} (h : Blk w g e cs) (hf : Ext w w') : Blk w' g e cs := Ext.heap hf h
theorem Blk.at {w : World} {g o : Nat} {e : TypeId} {cs ds : List Value} (h : Blk w g e cs) (hd : (cs.drop o).take ds.length = ds) : At w ⟨g, o, none⟩ ds := At.block h (by simpa using hd)
theorem Blk.cell {w : World} {g o : Nat} {e : TypeId} {cs : List Value} {v : Value} (h : Blk w g e cs) (hv : cs[o]? = some v) : w.cell? ⟨g, o, none⟩ = some v := by
 rw [cell_of_row w g o cs.toArray e (0, 0) h]; simpa using hv
theorem Blk.unfrozen {w : World} {g o : Nat} {e : TypeId} {cs : List Value} (h : Blk w g e cs) : w.frozen? ⟨g, o, none⟩ = false := by
 have h' : w.heap[g]? = some (.cells cs.toArray e (0, 0)) := h
 unfold World.frozen?
 simp [h']
theorem setCell_fr (w : World) (g o : Nat) (v : Value) : Fr (· = g) w (w.setCell ⟨g, o, none⟩ v) :=
 ⟨rfl, rfl, rfl, by simp [World.setCell], fun k _ hk => Below.heap_setCell w _ v k hk⟩
theorem setRow_fr (w : World) (g : Nat) (cs : Array Value) : Fr (· = g) w (w.setRow g cs) := by
 refine ⟨rfl, rfl, rfl, by simp [World.setRow], fun k _ hk => ?_⟩
 unfold World.setRow
 simp only [Array.getElem?_modify]
 rw [if_neg (fun e => hk e.symm)]
theorem Blk.setCell {w : World} {g o : Nat} {e : TypeId} {cs : List Value} (h : Blk w g e cs) (v : Value) : Blk (w.setCell ⟨g, o, none⟩ v) g e (cs.set o v) := by
 have h' : w.heap[g]? = some (.cells cs.toArray e (0, 0)) := h
 unfold Blk World.setCell
 simp only [Array.getElem?_modify, if_true, h', Option.map_some, Option.isSome_none, Bool.false_eq_true, if_false]
 simp
theorem st1_blk {w : World} {g o : Nat} {e : TypeId} {cs : List Value} {v : Value} {K : World → Prop} (h : Blk w g e cs) (ho : o < cs.length) (hk : ∀ w', Blk w' g e (cs.set o v) → Fr (· = g) w w' → K w') : st1 ⟨g, o, none⟩ v w K := by
 refine ⟨cs[o], h.cell (List.getElem?_eq_getElem ho), h.unfrozen, fun w' hw => ?_⟩
 subst hw
 exact hk _ (h.setCell v) (setCell_fr w g o v)
/-- cells among cells -/
def splice (xs : List Value) (o : Nat) (cs : List Value) : List Value := xs.take o ++ cs ++ xs.drop (o + cs.length)
theorem stA_blk {w : World} {g o n : Nat} {e : TypeId} {xs cs : List Value} {K : World → Prop} (h : Blk w g e xs) (hl : cs.length = n) (ho : o + n ≤ xs.length) (h1 : ∀ v ∈ cs, v.oneCell' = true)
  (hk : ∀ w', Blk w' g e (splice xs o cs) → Fr (· = g) w w' → K w') : stA n ⟨g, o, none⟩ cs w K := by
 refine ⟨g, o, e, xs.toArray, rfl, hl, h, by simp; omega, h1, fun w' hw => ?_⟩
 subst hw
 refine hk _ ?_ (setRow_fr _ _ _)
 have := setRow_heap w g xs.toArray (splice xs o cs).toArray e (0, 0) h
 exact this
theorem byteSl_size {P : Program} {t e : TypeId} {bytes : Nat} {z : Value} (h : mkCells P t = some (e, 1, bytes, [z])) : P.underlying t = some (.slice e) ∧ (P.info? e).map (·.size) = some 1 := by
 obtain ⟨hu, i, z, hi, _, hs, _⟩ := mkCells_eq h
 exact ⟨hu, by rw [hi]; simpa using hs⟩
/-- 'copy' into a block -/
theorem cpy_blk {P : Program} {w : World} {t e5 e : TypeId} {ty : TypeId} {ts : TypeId} {bytes : Nat} {z : Value} {g o dLen dCap : Nat} {s : Sl} {xs cs : List Value} {K : Int → World → Prop} (ht : mkCells P t = some (e5, 1, bytes, [z]))
  (h : Blk w g e xs) (hn : cs.length = min s.len dLen) (hc : AtO w s.a cs) (ho : o + cs.length ≤ xs.length) (h1 : ∀ v ∈ cs, v.oneCell' = true)
  (hs : s.a = none → s.len = 0 ∧ s.cap = 0)
  (hk : ∀ w', Blk w' g e (splice xs o cs) → Fr (· = g) w w' → K cs.length w') : cpy P #[t, ts] ty #[.slice (some ⟨g, o, none⟩) dLen dCap, s.v] w K := by
 obtain ⟨hu, hsz⟩ := byteSl_size ht
 obtain ⟨sa, sl, sc⟩ := s
 cases sa with
 | none =>
  obtain ⟨h2, h3⟩ := hs rfl
  simp only at h2 h3
  subst h2; subst h3
  have hcs : cs = [] := hc
  subst hcs
  refine ⟨0, w, ?_, ?_⟩
  ·exact run_copy_nil P w t ts ty e5 ⟨g, o, none⟩ dLen dCap hu (by rw [hsz]; rfl)
  ·have := hk w (by simpa [splice] using h) (Fr.refl w)
   simpa using this
 | some a =>
  refine ⟨cs.length, _, run_copy_row (P := P) w t ts ty e5 g o dLen dCap a sl sc xs.toArray e cs hu hsz h (by simpa using hn) hc (by simpa using ho) h1, ?_⟩
  refine hk _ ?_ (setRow_fr _ _ _)
  exact setRow_heap w g xs.toArray (splice xs o cs).toArray e (0, 0) h
/-- 'copy' of a text into a block -/
theorem cpy_blk_str {P : Program} {w : World} {t e5 e : TypeId} {ty : TypeId} {ts : TypeId} {bytes : Nat} {z : Value} {g o dLen dCap : Nat} {bs : List UInt8} {xs : List Value} {K : Int → World → Prop} (ht : mkCells P t = some (e5, 1, bytes, [z]))
  (h : Blk w g e xs) (ho : o + min bs.length dLen ≤ xs.length)
  (hk : ∀ w', Blk w' g e (splice xs o (u8s (bs.take (min bs.length dLen)))) → Fr (· = g) w w' → K (min bs.length dLen : Nat) w') : cpy P #[t, ts] ty #[.slice (some ⟨g, o, none⟩) dLen dCap, str bs] w K := by
 obtain ⟨hu, hsz⟩ := byteSl_size ht
 have hlen : (u8s (bs.take (min bs.length dLen))).length = min bs.length dLen := by rw [u8s_length, List.length_take]; omega
 have hst := run_storeCells_at P g o e (u8s (bs.take (min bs.length dLen))) 0 xs.toArray w h (by simp [hlen]; omega) (u8s_one _)
 simp only [Nat.add_zero] at hst
 refine ⟨(min bs.length dLen : Nat), _, ?_, hk _ (setRow_heap w g xs.toArray (splice xs o (u8s (bs.take (min bs.length dLen)))).toArray e (0, 0) h) (setRow_fr _ _ _)⟩
 cases hq : P.info? e5 with
 | none => simp [hq] at hsz
 | some i =>
  have hi : i.size = 1 := by simpa [hq] using hsz
  have hx : (Builtin.firstCells i.size (min bs.length dLen) (str bs)).run P w = .ok (u8s (bs.take (min bs.length dLen))).toArray w := by
   simp only [Builtin.firstCells, Sem.run_pure]
   congr 1
   apply Array.ext'
   simp [u8s, List.map_take]
  simp only [hi] at hx
  simp [Builtin.copy_, run_underlying hu, Builtin.lenOf, sizeOf, typeInfo, hq, hi, hx, hst, splice, goInt, List.length_take, ByteArray.size]
/-- an own row's block -/
theorem Own.blk {w : World} {base : Nat} {e : TypeId} {size : Nat} {s : Sl} {xs : List Value} (h : Own w base e size s xs) (hl : 0 < s.len) :
  ∃ g rest, s.a = some ⟨g, 0, none⟩ ∧ base ≤ g ∧ Blk w g e (xs ++ rest) ∧ s.len ≤ s.cap := by
 have hc := h.cap
 obtain ⟨a, l, c⟩ := s
 rcases h.2 with ⟨h1, h2⟩ | ⟨g, cap, cur, h1, h2, h3, h4, h5, h6, h7⟩
 ·simp only at h2 hl; omega
 ·simp only [Value.slice.injEq] at h1
  obtain ⟨rfl, _, rfl⟩ := h1
  refine ⟨g, cur.toList.drop (l * size), rfl, h2, ?_, hc⟩
  have h7 : cur.toList.take (l * size) = xs := h7
  unfold Blk
  rw [← h7, List.take_append_drop]
  exact h3
/-- 'append' onto a slice that is full: a new row -/
theorem app_full {P : Program} {w : World} {base : Nat} {t e : TypeId} {zs : List Value} {size bytes : Nat} {s x : Sl} {olds news : List Value} {K : Sl → World → Prop}
  (ht : mkCells P t = some (e, size, bytes, zs)) (hzs : zs.length = size)
  (hfull : s.cap = s.len) (hnil : s.a = none → s.len = 0) (hlo : olds.length = s.len * size) (hol : AtO w s.a olds) (hl : news.length = x.len * size) (hx : AtO w x.a news) (hxn : x.a ≠ none) (h0 : 0 < x.len)
  (h63 : s.len + x.len ≤ maxLen) (hb : (s.len + x.len) * bytes ≤ 140737488355328) (hbase : base ≤ w.heap.size)
  (h : ∀ (s' : Sl) (w' : World), s'.len = s.len + x.len → Own w' base e size s' (olds ++ news) → Ext w w' → K s' w') : app P t s x w K := by
 obtain ⟨hu, i, z, hi, hz, hs, hby, hc⟩ := mkCells_eq ht
 subst hs; subst hby
 have hzc : z.cells.size = i.size := by rw [← hzs, ← hc]; simp
 obtain ⟨xa, xl, xc⟩ := x
 obtain ⟨sa, sl, sc⟩ := s
 simp only at hfull hlo hl h0 h63 hb hnil hol hx h hxn
 subst hfull
 cases xa with
 | none => exact absurd rfl hxn
 | some a =>
  cases sa with
  | none =>
   obtain rfl := hnil rfl
   have ho : olds = [] := hol
   subst ho
   simp only [Nat.zero_add] at hb h63 h
   have hr := run_append_nil (P := P) (w := w) t t e i z hu hi hz a xl xc news hl hx h0 (by simp only [maxLen] at h63; omega) (by omega)
   refine ⟨⟨some ⟨w.heap.size, 0, none⟩, xl, grownCap w xl 0 e⟩, _, hr, h _ _ rfl ?_ ?_⟩
   ·refine ⟨by simpa using hl, .inr ⟨w.heap.size, grownCap w xl 0 e, _, rfl, hbase, heap_new _ _, grownCap_ge w xl 0 e, grownCap_le_maxLen w xl 0 e h63, ?_, ?_⟩⟩
    ·have := grownCap_ge w xl 0 e
     simp only [Array.size_append, List.size_toArray, size_zeroCells, hzc, hl]
     rw [← Nat.add_mul]; congr 1; omega
    ·simp only [Array.toList_append, List.nil_append]
     rw [List.take_append_of_le_length (by simp [hl]), List.take_of_length_le (by simp [hl])]
   ·exact (Ext.drew w).trans (Ext.alloc (Ext.refl _) _)
  | some b =>
   have hr := run_append_grow (P := P) (w := w) t t e i z hu hi hz b sc sc olds hlo hol a xl xc news hl hx (by omega) (by simp only [maxLen] at h63; omega)
    (growslice_fits (by omega) hb)
   refine ⟨⟨some ⟨w.heap.size, 0, none⟩, sc + xl, grownCap w (sc + xl) sc e⟩, _, hr, h _ _ rfl ?_ ?_⟩
   ·refine ⟨by simp [hl, hlo, Nat.add_mul], .inr ⟨w.heap.size, grownCap w (sc + xl) sc e, _, rfl, hbase, heap_new _ _, grownCap_ge w _ _ e, grownCap_le_maxLen w _ _ e h63, ?_, ?_⟩⟩
    ·have := grownCap_ge w (sc + xl) sc e
     simp only [Array.size_append, List.size_toArray, size_zeroCells, hzc, hl, hlo]
     rw [← Nat.add_mul, ← Nat.add_mul]; congr 1; omega
    ·simp only [Array.toList_append]
     rw [List.take_append_of_le_length (by simp [hl, hlo, Nat.add_mul]), List.take_of_length_le (by simp [hl, hlo, Nat.add_mul])]
   ·exact (Ext.drew w).trans (Ext.alloc (Ext.refl _) _)
end Go.Lift
end
section
/- Maps of numbers to numbers, and functions as values, over typed values: one law for each operation. -/
namespace Go.Lift
open Go.RowKit Go.Instr
abbrev KV := List (Int × Int)
/-- A map's entries, in their order. -/
def MapAt (w : World) (r : Nat) (l : KV) : Prop :=
 ∃ (es : Array MapEntry) (clock : Nat), w.heap[r]? = some (.map es clock) ∧ es.toList.map (fun e => (e.key, e.val)) = l.map fun p => (Value.int .i64 p.1, Value.int .i64 p.2)
def lkAt : KV → Int → Option Int
 | [], _ => none
 | p :: l, k => if k = p.1 then some p.2 else lkAt l k
def dlAt : KV → Int → KV
 | [], _ => []
 | p :: l, k => if k = p.1 then l else p :: dlAt l k
def fnd : KV → Int → Nat → Option (Nat × Value)
 | [], _, _ => none
 | p :: l, k, i => if k = p.1 then some (i, .int .i64 p.2) else fnd l k (i + 1)
def mapII (P : Program) (t : TypeId) : Bool := match P.underlying t with
 | some (.map k e) => match P.underlying k with
  | some (.int _) => match P.info? e with
   | some i => (match i.zero with
    | some (.int .i64 0) => true
    | _ => false)
   | none => false
  | _ => false
 | _ => false
theorem mapII_eq {P : Program} {t : TypeId} (h : mapII P t = true) : ∃ k e ik i, P.underlying t = some (.map k e) ∧ P.underlying k = some (.int ik) ∧ P.info? e = some i ∧ i.zero = some (.int .i64 0) := by
 unfold mapII at h
 split at h
 ·rename_i k e h1
  split at h
  ·rename_i ik h2
   split at h
   ·rename_i i h3
    split at h
    ·rename_i h4; exact ⟨k, e, ik, i, h1, h2, h3, h4⟩
    ·simp at h
   ·simp at h
  ·simp at h
 ·simp at h
theorem findNow_eq (ik : IntKind) (k : Int) : ∀ (es : List MapEntry) (l : KV) (i : Nat), es.map (fun e => (e.key, e.val)) = l.map (fun p => (Value.int .i64 p.1, Value.int .i64 p.2)) →
  findNow (.int ik) (.int .i64 k) es i = some (fnd l k i)
 | [], [], i, _ => rfl
 | [], _ :: _, _, h => by simp at h
 | _ :: _, [], _, h => by simp at h
 | e :: es, p :: l, i, h => by
  simp only [List.map_cons, List.cons.injEq, Prod.mk.injEq] at h
  obtain ⟨⟨h1, h2⟩, h3⟩ := h
  unfold findNow fnd
  rw [h1, h2]
  simp only [sameNow, if_true]
  by_cases hk : k = p.1
  ·subst hk; simp
  ·rw [if_neg hk]
   have : (k == p.1) = false := by simpa using hk
   rw [this]
   exact findNow_eq ik k es l (i + 1) h3
theorem fnd_val : ∀ (l : KV) (k : Int) (i : Nat), (fnd l k i).map (·.2) = (lkAt l k).map (Value.int .i64)
 | [], _, _ => rfl
 | p :: l, k, i => by
  unfold fnd lkAt
  by_cases h : k = p.1
  ·rw [if_pos h, if_pos h]; rfl
  ·rw [if_neg h, if_neg h]; exact fnd_val l k (i + 1)
theorem fnd_none {l : KV} {k : Int} (i : Nat) (h : lkAt l k = none) : fnd l k i = none := by
 have := fnd_val l k i
 rw [h] at this
 cases hf : fnd l k i with
 | none => rfl
 | some x => rw [hf] at this; simp at this
theorem fnd_del : ∀ (l : KV) (k : Int) (i j : Nat) (v : Value), fnd l k i = some (j, v) → i ≤ j ∧ j < i + l.length ∧ dlAt l k = l.eraseIdx (j - i)
 | [], _, _, _, _, h => by simp [fnd] at h
 | p :: l, k, i, j, v, h => by
  unfold fnd at h
  by_cases hk : k = p.1
  ·rw [if_pos hk] at h
   simp only [Option.some.injEq, Prod.mk.injEq] at h
   obtain ⟨rfl, _⟩ := h
   simp [dlAt, hk]
  ·rw [if_neg hk] at h
   obtain ⟨h1, h2, h3⟩ := fnd_del l k (i + 1) j v h
   refine ⟨by omega, by simp only [List.length_cons]; omega, ?_⟩
   unfold dlAt
   rw [if_neg hk, h3, show j - i = (j - (i + 1)) + 1 by omega, List.eraseIdx_cons_succ]
theorem map_erase {α β : Type} (f : α → β) : ∀ (l : List α) (j : Nat), (l.eraseIdx j).map f = (l.map f).eraseIdx j
 | [], _ => by simp
 | a :: l, 0 => rfl
 | a :: l, j + 1 => by simp only [List.eraseIdx_cons_succ, List.map_cons, map_erase f l j]
theorem dl_none : ∀ {l : KV} {k : Int}, lkAt l k = none → dlAt l k = l
 | [], _, _ => rfl
 | p :: l, k, h => by
  unfold lkAt at h
  by_cases hk : k = p.1
  ·rw [if_pos hk] at h; cases h
  ·rw [if_neg hk] at h
   unfold dlAt
   rw [if_neg hk, dl_none h]

section
variable {P : Program} {ty : TypeId} {ρ : Env} {K : Value → World → Prop} {w : World} {x y z : Operand} {v : Value}
theorem run_getObj_map {r : Nat} {es : Array MapEntry} {c : Nat} (h : w.heap[r]? = some (.map es c)) : (getObj r).run P w = .ok (.map es c) w := by
 simp [getObj, Sem.run, h]
theorem run_setObj_map {r : Nat} {es : Array MapEntry} {c : Nat} (o : Obj) (h : w.heap[r]? = some (.map es c)) : (setObj r o).run P w = .ok () { w with heap := w.heap.setIfInBounds r o } := by
 simp [setObj, Sem.run, h]
theorem run_checkKey {e : Bool} {kt : TypeId} {ik : IntKind} (h : P.underlying kt = some (.int ik)) (v : Value) : (checkKey e 10000 kt v).run P w = .ok () w := by
 show (checkKey e (9999 + 1) kt v).run P w = _
 unfold checkKey
 simp only [Sem.run_bind, run_underlying h, Result.andThen_ok]
 rfl
theorem run_findKey {kt : TypeId} {ik : IntKind} {k : Int} {es : List MapEntry} {l : KV} (h : P.underlying kt = some (.int ik)) (he : es.map (fun e => (e.key, e.val)) = l.map (fun p => (Value.int .i64 p.1, Value.int .i64 p.2))) :
  (findKey kt (.int .i64 k) es).run P w = .ok (fnd l k 0) w := by
 unfold findKey
 simp only [Sem.run_bind, run_underlying h, Result.andThen_ok, findNow_eq ik k es l 0 he, Sem.run_pure]
theorem setObj_fr {r : Nat} (o : Obj) : Fr (· = r) w { w with heap := w.heap.setIfInBounds r o } :=
 ⟨rfl, rfl, rfl, by simp, fun k hk hne => by
  show (w.heap.setIfInBounds r o)[k]? = _
  rw [Array.getElem?_setIfInBounds_ne (fun e => hne e.symm)]⟩
theorem setObj_at {r : Nat} {o o' : Obj} (h : w.heap[r]? = some o') : ({ w with heap := w.heap.setIfInBounds r o } : World).heap[r]? = some o := by
 show (w.heap.setIfInBounds r o)[r]? = _
 have := (Array.getElem?_eq_some_iff.1 h).1
 simp [Array.getElem?_setIfInBounds, this]

def lkM (m : Option Nat) (k : Int) (w : World) (K : Int → Bool → Prop) : Prop := ∃ v ok r l, m = some r ∧ MapAt w r l ∧ (v, ok) = ((lkAt l k).getD 0, (lkAt l k).isSome) ∧ K v ok
def upM (m : Option Nat) (k v : Int) (w : World) (K : World → Prop) : Prop := ∃ r l, m = some r ∧ MapAt w r l ∧ lkAt l k = none ∧ ∀ w', MapAt w' r (l ++ [(k, v)]) → Fr (· = r) w w' → K w'
def dlM (m : Option Nat) (k : Int) (w : World) (K : World → Prop) : Prop := ∃ r l, m = some r ∧ MapAt w r l ∧ ∀ w', MapAt w' r (dlAt l k) → Fr (· = r) w w' → K w'
def mkM (w : World) (K : Option Nat → World → Prop) : Prop := ∀ b w', b = w.heap.size → MapAt w' b [] → Ext w w' → b < w'.heap.size → K (some b) w'

theorem OpW.mkmE {t : TypeId} {K' : Option Nat → World → Prop} (h : mkM w K') (hK : ∀ m w', K' m w' → K (.map m) w') : OpW P (.makeMap t none) ty ρ K w := by
 refine OpW.val (w' := w.alloc (.map #[] 0)) ?_ (hK _ _ (h w.heap.size _ rfl ⟨#[], 0, heap_new _ _, rfl⟩ (Ext.alloc (Ext.refl _) _) (by show w.heap.size < (w.heap.push _).size; simp)))
 simp [execOp, Instr.makeMap, newObj, Sem.run]
theorem OpW.lookE {t : TypeId} {m : Option Nat} {r : Nat} {l : KV} {k a : Int} {ok : Bool} (ht : mapII P t = true) (hx : ev ρ x = .map m) (hy : ev ρ y = .int .i64 k) (h1 : m = some r) (h2 : MapAt w r l)
  (h3 : (a, ok) = ((lkAt l k).getD 0, (lkAt l k).isSome)) (h : K (.tuple #[.int .i64 a, .bool ok]) w) : OpW P (.lookup t x y true) ty ρ K w := by
 refine OpW.val (w' := w) ?_ h
 obtain ⟨kt, e, ik, i, hu, hk, hi, hz⟩ := mapII_eq ht
 obtain ⟨es, c, hr, he⟩ := h2
 subst h1
 simp only [Prod.mk.injEq] at h3
 obtain ⟨rfl, rfl⟩ := h3
 have hv := fnd_val l k 0
 cases hf : fnd l k 0 with
 | none =>
  rw [hf] at hv
  have hl : lkAt l k = none := by cases hq : lkAt l k <;> simp_all
  simp [execOp, hx, hy, Instr.lookup, run_underlying hu, run_getObj_map hr, run_checkKey hk, run_findKey hk he, hf, zeroValue, typeInfo, hi, hz, hl]
 | some p =>
  rw [hf] at hv
  obtain ⟨j, u⟩ := p
  cases hq : lkAt l k with
  | none => rw [hq] at hv; simp at hv
  | some b =>
   rw [hq] at hv
   simp only [Option.map_some, Option.some.injEq] at hv
   subst hv
   simp [execOp, hx, hy, Instr.lookup, run_underlying hu, run_getObj_map hr, run_checkKey hk, run_findKey hk he, hf]
theorem OpW.updE {t : TypeId} {m : Option Nat} {k a : Int} {K' : World → Prop} (ht : mapII P t = true) (hx : ev ρ x = .map m) (hy : ev ρ y = .int .i64 k) (hz : ev ρ z = .int .i64 a) (h : upM m k a w K') (hK : ∀ w', K' w' → K undef w') :
  OpW P (.mapUpdate t x y z) ty ρ K w := by
 obtain ⟨r, l, rfl, ⟨es, c, hr, he⟩, h3, h⟩ := h
 obtain ⟨kt, e, ik, i, hu, hk, hi, _⟩ := mapII_eq ht
 refine OpW.unit (w' := { w with heap := w.heap.setIfInBounds r (.map (es.push ⟨.int .i64 k, .int .i64 a, c⟩) (c + 1)) }) ?_ (hK _ (h _ ⟨_, _, setObj_at hr, by simp [he]⟩ (setObj_fr _)))
 simp [execOp, hx, hy, hz, Instr.mapUpdate, run_underlying hu, run_getObj_map hr, run_checkKey hk, run_findKey hk he, fnd_none 0 h3, run_setObj_map _ hr]
theorem OpW.delE {t : TypeId} {m : Option Nat} {k : Int} {ts : Array TypeId} {K' : World → Prop} (ht : mapII P t = true) (hts : ts[0]? = some t) (hx : ev ρ x = .map m) (hy : ev ρ y = .int .i64 k) (h : dlM m k w K') (hK : ∀ w', K' w' → K (.tuple #[]) w') :
  OpW P (.call { callee := .builtin .delete, args := #[x, y], argTypes := ts }) ty ρ K w := by
 obtain ⟨r, l, rfl, ⟨es, c, hr, he⟩, h⟩ := h
 obtain ⟨kt, e, ik, i, hu, hk, hi, _⟩ := mapII_eq ht
 cases hf : fnd l k 0 with
 | none =>
  have hl : lkAt l k = none := by
   have hv := fnd_val l k 0
   rw [hf] at hv
   cases hq : lkAt l k <;> simp_all
  refine OpW.runBuiltin (args := #[.map (some r), .int .i64 k]) (w' := { w with heap := w.heap.setIfInBounds r (.map es c) }) (by simp [hx, hy]) ?_ (hK _ (h _ ⟨_, _, setObj_at hr, by rw [dl_none hl]; exact he⟩ (setObj_fr _)))
  simp [builtin, Builtin.delete_, hts, run_underlying hu, run_getObj_map hr, run_checkKey hk, run_findKey hk he, hf, run_setObj_map _ hr]
 | some p =>
  obtain ⟨j, u⟩ := p
  obtain ⟨h1, h2, h3⟩ := fnd_del l k 0 j u hf
  refine OpW.runBuiltin (args := #[.map (some r), .int .i64 k]) (w' := { w with heap := w.heap.setIfInBounds r (.map (es.eraseIdxIfInBounds j) c) }) (by simp [hx, hy]) ?_ (hK _ (h _ ⟨_, _, setObj_at hr, ?_⟩ (setObj_fr _)))
  ·simp [builtin, Builtin.delete_, hts, run_underlying hu, run_getObj_map hr, run_checkKey hk, run_findKey hk he, hf, run_setObj_map _ hr]
  ·rw [h3, Nat.sub_zero]
   have hjl : j < es.size := by
    have := congrArg List.length he
    simp at this; omega
   have : (es.eraseIdxIfInBounds j).toList = es.toList.eraseIdx j := by
    simp [Array.eraseIdxIfInBounds, hjl]
   rw [this, map_erase, he, map_erase]
/-! ### functions as values -/
abbrev fnv (f : FuncId) : Value := .func (.func f) #[] #[]
def cF {α : Type} (P : Program) (f : FuncId) (mk : α → Value) (args : Array Value) (w : World) (K : α → World → Prop) : Prop :=
 ∃ fn, P.funcs[f]? = some fn ∧ fn.body.isNone = false ∧ decide (fn.name = "runtime.NumGoroutine") = false ∧ cR P f mk args w K
theorem OpW.callF {f : FuncId} {xs : Array Operand} {ts : Array TypeId} {α : Type} {mk : α → Value} {K' : α → World → Prop} {al : List Value} (hx : ev ρ x = fnv f) (ha : xs.toList.map (ev ρ) = al) (h : cF P f mk al.toArray w K') (hK : ∀ x w', K' x w' → K (mk x) w') :
  OpW P (.call { callee := .value x, args := xs, argTypes := ts }) ty ρ K w := by
 obtain ⟨fn, hf, hb, hn, h⟩ := h
 unfold OpW
 have ha' : xs.map (ev ρ) = al.toArray := by rw [← ha, ← Array.toList_map]
 have : (execOp (ev ρ) ⟨none, .call { callee := .value x, args := xs, argTypes := ts }, ty, "", #[], none⟩).run P w = .ok (.enter f al.toArray) w := by
  have hn' : ¬ fn.name = "runtime.NumGoroutine" := of_decide_eq_false hn
  simp only [execOp, resolve, hx, Deferred.ofValue]
  have hb' : ¬ fn.body = none := fun e => by simp [e] at hb
  simp [invoke, callFunc, hf, hn', hb', ha', Sem.run, program]
 rw [this]
 exact Calls.mono h fun e w' ⟨x, he, hx⟩ => by subst he; exact hK x w' hx
end
theorem MapAt.fr {X : Nat → Prop} {w w' : World} {r : Nat} {l : KV} (h : MapAt w r l) (hf : Fr X w w') (hx : ¬ X r) : MapAt w' r l := by
 obtain ⟨es, c, h1, h2⟩ := h
 exact ⟨es, c, (hf.block r (Array.getElem?_eq_some_iff.1 h1).1 hx).trans h1, h2⟩
theorem MapAt.lt {w : World} {r : Nat} {l : KV} (h : MapAt w r l) : r < w.heap.size := by
 obtain ⟨es, c, h1, h2⟩ := h
 exact (Array.getElem?_eq_some_iff.1 h1).1
end Go.Lift
end
section
/- The pool without any program: what each thing done to it leaves and answers; and a map that agrees with its frames. -/
namespace Go.Lift.Pool
open Go.Lift Go.RowKit
structure Fm where
 page : Int
 mark : Bool
 bs : List UInt8
def emF : Fm := ⟨-1, false, []⟩
structure Pl where
 fr : List Fm
 hand : Nat
 hits : Nat
 misses : Nat
def atF : List Fm → Int → Option Nat
 | [], _ => none
 | f :: l, n => if f.page = n then some 0 else (atF l n).map (· + 1)
def fAt (l : List Fm) (i : Nat) : Fm := l.getD i emF
def unmark (f : Fm) : Fm := { f with mark := false }
def marks (l : List Fm) : Nat := l.countP (·.mark)
/-- The hand goes round. -/
def clk : Nat → List Fm → Nat → List Fm × Nat × Nat
 | 0, l, h => (l, (h + 1) % l.length, h)
 | f + 1, l, h => if (fAt l h).mark then clk f (l.set h (unmark (fAt l h))) ((h + 1) % l.length) else (l, (h + 1) % l.length, h)
def Pl.place (P : Pl) : Pl × Nat := match atF P.fr (-1) with
 | some i => (P, i)
 | none => ({ P with fr := (clk (marks P.fr) P.fr P.hand).1, hand := (clk (marks P.fr) P.fr P.hand).2.1 }, (clk (marks P.fr) P.fr P.hand).2.2)
def Pl.find (P : Pl) (n : Int) : Option Nat := if 0 ≤ n then atF P.fr n else none
def Pl.setF (P : Pl) (i : Nat) (f : Fm) : Pl := { P with fr := P.fr.set i f }
def Pl.get (P : Pl) (n : Int) : Pl × List UInt8 × Bool := match P.find n with
 | none => ({ P with misses := P.misses + 1 }, [], false)
 | some i => ({ P with hits := P.hits + 1, fr := P.fr.set i { fAt P.fr i with mark := true } }, (fAt P.fr i).bs, true)
def Pl.put (P : Pl) (n : Int) (s : List UInt8) : Pl × Int := if n < 0 then (P, -1) else match atF P.fr n with
 | some i => (P.setF i ⟨n, true, s⟩, -1)
 | none => (P.place.1.setF P.place.2 ⟨n, true, s⟩, (fAt P.place.1.fr P.place.2).page)
def Pl.drop (P : Pl) (n : Int) : Pl × Bool := match P.find n with
 | none => (P, false)
 | some i => (P.setF i emF, true)
def newP (n : Nat) : Pl := ⟨List.replicate n emF, 0, 0, 0⟩

theorem fAt_lt {l : List Fm} {i : Nat} (h : i < l.length) : fAt l i = l[i] := by simp [fAt, List.getD, h]
theorem atF_some : ∀ {l : List Fm} {n : Int} {i : Nat}, atF l n = some i → i < l.length ∧ (fAt l i).page = n ∧ ∀ j, j < i → (fAt l j).page ≠ n
 | [], _, _, h => by simp [atF] at h
 | f :: l, n, i, h => by
  unfold atF at h
  by_cases hf : f.page = n
  ·rw [if_pos hf] at h
   cases h
   exact ⟨by simp, hf, fun j hj => by omega⟩
  ·rw [if_neg hf] at h
   cases ha : atF l n with
   | none => rw [ha] at h; simp at h
   | some k =>
    rw [ha] at h
    simp only [Option.map_some, Option.some.injEq] at h
    subst h
    obtain ⟨h1, h2, h3⟩ := atF_some ha
    refine ⟨by simp; omega, by simpa [fAt] using h2, fun j hj => ?_⟩
    cases j with
    | zero => exact hf
    | succ j => have := h3 j (by omega); simpa [fAt] using this
theorem atF_none : ∀ {l : List Fm} {n : Int}, atF l n = none → ∀ j, j < l.length → (fAt l j).page ≠ n
 | [], _, _, j, hj => by simp at hj
 | f :: l, n, h, j, hj => by
  unfold atF at h
  by_cases hf : f.page = n
  ·rw [if_pos hf] at h; cases h
  ·rw [if_neg hf] at h
   have ha : atF l n = none := by cases hq : atF l n <;> simp_all
   cases j with
   | zero => exact hf
   | succ j => have := atF_none ha j (by simpa using hj); simpa [fAt] using this
theorem atF_of {l : List Fm} {n : Int} {i : Nat} (hi : i < l.length) (h1 : (fAt l i).page = n) (h2 : ∀ j, j < i → (fAt l j).page ≠ n) : atF l n = some i := by
 cases h : atF l n with
 | none => exact absurd h1 (atF_none h i hi)
 | some k =>
  obtain ⟨h3, h4, h5⟩ := atF_some h
  rcases Nat.lt_trichotomy i k with hk | hk | hk
  ·exact absurd h1 (h5 i hk)
  ·rw [hk]
  ·exact absurd h4 (h2 k hk)
theorem atF_of_none {l : List Fm} {n : Int} (h : ∀ j, j < l.length → (fAt l j).page ≠ n) : atF l n = none := by
 cases hq : atF l n with
 | none => rfl
 | some k => obtain ⟨h1, h2, _⟩ := atF_some hq; exact absurd h2 (h k h1)

structure Pl.Wf (P : Pl) : Prop where
 pos : 0 < P.fr.length
 few : P.fr.length ≤ 64
 hand : P.hand < P.fr.length
 page : ∀ f ∈ P.fr, f.page = -1 ∨ 0 ≤ f.page
 bs : ∀ f ∈ P.fr, f.bs.length ≤ 1000
theorem fAt_mem {l : List Fm} {i : Nat} (h : i < l.length) : fAt l i ∈ l := by rw [fAt_lt h]; exact List.getElem_mem h
theorem Pl.Wf.set {P : Pl} (h : P.Wf) (i : Nat) {f : Fm} (h1 : f.page = -1 ∨ 0 ≤ f.page) (h2 : f.bs.length ≤ 1000) : (P.setF i f).Wf := by
 refine ⟨by simpa [Pl.setF] using h.pos, by simpa [Pl.setF] using h.few, by simpa [Pl.setF] using h.hand, ?_, ?_⟩
 ·intro q hq
  rcases List.mem_or_eq_of_mem_set hq with hq | rfl
  ·exact h.page q hq
  ·exact h1
 ·intro q hq
  rcases List.mem_or_eq_of_mem_set hq with hq | rfl
  ·exact h.bs q hq
  ·exact h2

/-! ### the hand -/
theorem marks_pos {l : List Fm} {h : Nat} (hl : h < l.length) (hm : (fAt l h).mark = true) : marks l = marks (l.set h (unmark (fAt l h))) + 1 := by
 unfold marks
 rw [List.countP_set (p := fun f : Fm => f.mark) hl]
 rw [fAt_lt hl] at hm ⊢
 have h0 : 0 < l.countP (·.mark) := List.countP_pos_iff.2 ⟨l[h], List.getElem_mem hl, hm⟩
 simp only [hm, if_true, unmark, Bool.false_eq_true, if_false]
 omega
theorem clk_stop {l : List Fm} {h : Nat} (hm : (fAt l h).mark = false) : ∀ f, clk f l h = (l, (h + 1) % l.length, h)
 | 0 => rfl
 | f + 1 => by unfold clk; rw [if_neg (by rw [hm]; simp)]
theorem clk_next {l : List Fm} {h : Nat} (hl : h < l.length) (hm : (fAt l h).mark = true) : clk (marks l) l h = clk (marks (l.set h (unmark (fAt l h)))) (l.set h (unmark (fAt l h))) ((h + 1) % l.length) := by
 rw [marks_pos hl hm]
 show (if (fAt l h).mark then _ else _) = _
 rw [if_pos hm]
/-- What the hand leaves: the same pages and texts. -/
theorem clk_ok : ∀ (k : Nat) (l : List Fm) (h : Nat), h < l.length → marks l ≤ k → ((clk k l h).1.map fun f => (f.page, f.bs)) = (l.map fun f => (f.page, f.bs)) ∧ (clk k l h).2.1 < l.length ∧ (clk k l h).2.2 < l.length
 | 0, l, h, hl, _ => ⟨rfl, Nat.mod_lt _ (by omega), hl⟩
 | k + 1, l, h, hl, hk => by
  unfold clk
  by_cases hm : (fAt l h).mark = true
  ·rw [if_pos hm]
   have hk' := marks_pos hl hm
   have := clk_ok k (l.set h (unmark (fAt l h))) ((h + 1) % l.length) (by rw [List.length_set]; exact Nat.mod_lt _ (by omega)) (by omega)
   rw [List.length_set, List.map_set] at this
   refine ⟨this.1.trans ?_, this.2⟩
   have e : ((unmark (fAt l h)).page, (unmark (fAt l h)).bs) = (fun f : Fm => (f.page, f.bs)) l[h] := by rw [fAt_lt hl]; rfl
   rw [e]
   have hl' : h < (l.map fun f : Fm => (f.page, f.bs)).length := by simpa using hl
   have e2 : (l.map fun f : Fm => (f.page, f.bs))[h] = (fun f : Fm => (f.page, f.bs)) l[h] := List.getElem_map ..
   rw [← e2]
   exact List.set_getElem_self hl'
  ·rw [if_neg hm]
   exact ⟨rfl, Nat.mod_lt _ (by omega), hl⟩

/-! ### a map that agrees -/
structure Agree (kv : KV) (ps : List Int) : Prop where
 nodup : (kv.map (·.1)).Nodup
 dis : ∀ (i j : Nat) (n : Int), 0 ≤ n → ps[i]? = some n → ps[j]? = some n → i = j
 iff : ∀ (n i : Int), lkAt kv n = some i ↔ 0 ≤ n ∧ ∃ k : Nat, i = (k : Int) ∧ ps[k]? = some n
theorem lk_app : ∀ (l : KV) (k v n : Int), lkAt l k = none → lkAt (l ++ [(k, v)]) n = if n = k then some v else lkAt l n
 | [], k, v, n, _ => by simp [lkAt]
 | p :: l, k, v, n, h => by
  have hp : ¬ k = p.1 := by
   intro e
   unfold lkAt at h
   rw [if_pos e] at h; cases h
  have hl : lkAt l k = none := by unfold lkAt at h; rwa [if_neg hp] at h
  rw [List.cons_append]
  show (if n = p.1 then some p.2 else lkAt (l ++ [(k, v)]) n) = if n = k then some v else if n = p.1 then some p.2 else lkAt l n
  rw [lk_app l k v n hl]
  by_cases h1 : n = p.1
  ·rw [if_pos h1, if_neg (by omega), if_pos h1]
  ·rw [if_neg h1, if_neg h1]
theorem lk_mem : ∀ {l : KV} {k : Int}, lkAt l k = none → k ∉ l.map (·.1)
 | [], _, _ => by simp
 | p :: l, k, h => by
  unfold lkAt at h
  by_cases hk : k = p.1
  ·rw [if_pos hk] at h; cases h
  ·rw [if_neg hk] at h
   simp only [List.map_cons, List.mem_cons, not_or]
   exact ⟨hk, lk_mem h⟩
theorem lk_not : ∀ {l : KV} {k : Int}, k ∉ l.map (·.1) → lkAt l k = none
 | [], _, _ => rfl
 | p :: l, k, h => by
  simp only [List.map_cons, List.mem_cons, not_or] at h
  unfold lkAt
  rw [if_neg h.1]
  exact lk_not h.2
theorem dl_sub : ∀ (l : KV) (k : Int), (dlAt l k).Sublist l
 | [], _ => List.Sublist.slnil
 | p :: l, k => by
  unfold dlAt
  by_cases h : k = p.1
  ·rw [if_pos h]; exact List.sublist_cons_self _ _
  ·rw [if_neg h]; exact (dl_sub l k).cons_cons p
theorem lk_dl : ∀ (l : KV) (k n : Int), (l.map (·.1)).Nodup → lkAt (dlAt l k) n = if n = k then none else lkAt l n
 | [], k, n, _ => by simp [lkAt, dlAt]
 | p :: l, k, n, h => by
  simp only [List.map_cons, List.nodup_cons] at h
  unfold dlAt
  by_cases hk : k = p.1
  ·rw [if_pos hk]
   by_cases hn : n = k
   ·rw [if_pos hn, hn, hk]; exact lk_not h.1
   ·rw [if_neg hn]
    show _ = if n = p.1 then some p.2 else lkAt l n
    rw [if_neg (by omega)]
  ·rw [if_neg hk]
   show (if n = p.1 then some p.2 else lkAt (dlAt l k) n) = if n = k then none else if n = p.1 then some p.2 else lkAt l n
   rw [lk_dl l k n h.2]
   by_cases h1 : n = p.1
   ·rw [if_pos h1, if_neg (by omega), if_pos h1]
   ·rw [if_neg h1, if_neg h1]
theorem Agree.clear {kv : KV} {ps : List Int} (h : Agree kv ps) {a : Nat} {o : Int} (ho : ps[a]? = some o) : Agree (if 0 ≤ o then dlAt kv o else kv) (ps.set a (-1)) := by
 have hal : a < ps.length := (List.getElem?_eq_some_iff.1 ho).1
 have hset : ∀ (k : Nat) (n : Int), 0 ≤ n → ((ps.set a (-1))[k]? = some n ↔ k ≠ a ∧ ps[k]? = some n) := by
  intro k n hn
  by_cases hk : k = a
  ·subst hk
   rw [List.getElem?_set_self hal]
   simp only [Option.some.injEq, ne_eq, not_true, false_and, iff_false]
   omega
  ·rw [List.getElem?_set_ne (Ne.symm hk)]
   simp [hk]
 refine ⟨?_, ?_, ?_⟩
 ·split
  ·exact (((dl_sub kv o).map _).nodup h.nodup)
  ·exact h.nodup
 ·intro i j n hn hi hj
  exact h.dis i j n hn ((hset i n hn).1 hi).2 ((hset j n hn).1 hj).2
 ·intro n i
  have e : lkAt (if 0 ≤ o then dlAt kv o else kv) n = some i ↔ n ≠ o ∧ lkAt kv n = some i := by
   by_cases h0 : 0 ≤ o
   ·rw [if_pos h0, lk_dl kv o n h.nodup]
    by_cases hn : n = o
    ·rw [if_pos hn]; simp [hn]
    ·rw [if_neg hn]; simp [hn]
   ·rw [if_neg h0]
    refine ⟨fun hl => ⟨fun e => ?_, hl⟩, fun hl => hl.2⟩
    have := ((h.iff n i).1 hl).1
    omega
  rw [e, h.iff]
  constructor
  ·rintro ⟨h1, h2, k, h3, h4⟩
   refine ⟨h2, k, h3, (hset k n h2).2 ⟨fun e => ?_, h4⟩⟩
   subst e
   rw [ho] at h4
   exact h1 (Option.some.inj h4).symm
  ·rintro ⟨h2, k, h3, h4⟩
   obtain ⟨h5, h6⟩ := (hset k n h2).1 h4
   refine ⟨fun e => h5 (h.dis k a n h2 h6 (by rw [ho, e])), h2, k, h3, h6⟩
theorem Agree.fill {kv : KV} {ps : List Int} (h : Agree kv ps) {a : Nat} {o m : Int} (ho : ps[a]? = some o) (hneg : o < 0) (hm : 0 ≤ m) (hl : lkAt kv m = none) : Agree (kv ++ [(m, (a : Int))]) (ps.set a m) := by
 have hal : a < ps.length := (List.getElem?_eq_some_iff.1 ho).1
 have hno : ∀ k : Nat, ps[k]? ≠ some m := fun k hk => by
  have := (h.iff m (k : Int)).2 ⟨hm, k, rfl, hk⟩
  rw [hl] at this; cases this
 have hset : ∀ (k : Nat) (n : Int), 0 ≤ n → ((ps.set a m)[k]? = some n ↔ (k = a ∧ n = m) ∨ ps[k]? = some n) := by
  intro k n hn
  by_cases hk : k = a
  ·subst hk
   rw [List.getElem?_set_self hal, ho]
   simp only [Option.some.injEq, true_and]
   constructor
   ·intro e; exact .inl e.symm
   ·rintro (e | e)
    ·exact e.symm
    ·omega
  ·rw [List.getElem?_set_ne (Ne.symm hk)]
   simp [hk]
 refine ⟨?_, ?_, ?_⟩
 ·rw [List.map_append, List.nodup_append]
  refine ⟨h.nodup, by simp, fun x hx y hy e => ?_⟩
  simp only [List.map_cons, List.map_nil, List.mem_singleton] at hy
  subst hy; subst e
  exact lk_mem hl hx
 ·intro i j n hn hi hj
  rcases (hset i n hn).1 hi with ⟨e1, e2⟩ | hi'
  ·rcases (hset j n hn).1 hj with ⟨e3, _⟩ | hj'
   ·rw [e1, e3]
   ·rw [e2] at hj'; exact absurd hj' (hno j)
  ·rcases (hset j n hn).1 hj with ⟨e3, e4⟩ | hj'
   ·rw [e4] at hi'; exact absurd hi' (hno i)
   ·exact h.dis i j n hn hi' hj'
 ·intro n i
  rw [lk_app kv m a n hl]
  by_cases hn : n = m
  ·rw [if_pos hn]
   subst hn
   constructor
   ·intro e
    exact ⟨hm, a, (Option.some.inj e).symm, (hset a n hm).2 (.inl ⟨rfl, rfl⟩)⟩
   ·rintro ⟨_, k, rfl, hk⟩
    rcases (hset k n hm).1 hk with ⟨rfl, _⟩ | hk
    ·rfl
    ·exact absurd hk (hno k)
  ·rw [if_neg hn, h.iff]
   constructor
   ·rintro ⟨h0, k, h1, h2⟩
    exact ⟨h0, k, h1, (hset k n h0).2 (.inr h2)⟩
   ·rintro ⟨h0, k, h1, h2⟩
    rcases (hset k n h0).1 h2 with ⟨_, e⟩ | h2
    ·exact absurd e hn
    ·exact ⟨h0, k, h1, h2⟩
theorem Agree.find {kv : KV} {P : Pl} (h : Agree kv (P.fr.map (·.page))) (n : Int) : lkAt kv n = (P.find n).map Int.ofNat := by
 unfold Pl.find
 have hp : ∀ k (n : Int), (P.fr.map (·.page))[k]? = some n ↔ k < P.fr.length ∧ (fAt P.fr k).page = n := by
  intro k n
  by_cases hk : k < P.fr.length
  ·simp [hk, fAt_lt hk]
  ·simp [hk]
 by_cases h0 : 0 ≤ n
 ·rw [if_pos h0]
  cases ha : atF P.fr n with
  | none =>
   cases hl : lkAt kv n with
   | none => rfl
   | some i =>
    obtain ⟨_, k, _, hk⟩ := (h.iff n i).1 hl
    obtain ⟨h1, h2⟩ := (hp k n).1 hk
    exact absurd h2 (atF_none ha k h1)
  | some k =>
   obtain ⟨h1, h2, _⟩ := atF_some ha
   exact (h.iff n k).2 ⟨h0, k, rfl, (hp k n).2 ⟨h1, h2⟩⟩
 ·rw [if_neg h0]
  cases hl : lkAt kv n with
  | none => rfl
  | some i => exact absurd ((h.iff n i).1 hl).1 h0
end Go.Lift.Pool
end
section
/- Closed facts on the types and functions: written by gen.py (a program of this session). -/
namespace Go.Proofs.Ytijopkmclcbehaa
open Go.Lift
abbrev T : Bool := true
abbrev F : Bool := false
theorem agg_31 : aggT Try.prog 31 = some 4 := by kernel_rfl
theorem agg_35 : aggT Try.prog 35 = some 3 := by kernel_rfl
theorem agg_52 : aggT Try.prog 52 = some 3 := by kernel_rfl
theorem agg_60 : aggT Try.prog 60 = some 3 := by kernel_rfl
theorem bsl_33 : byteSl Try.prog 33 = true := by kernel_rfl
theorem fb_10 : Try.f10.body.isNone = false := by kernel_rfl
theorem fb_11 : Try.f11.body.isNone = false := by kernel_rfl
theorem fb_12 : Try.f12.body.isNone = false := by kernel_rfl
theorem fb_13 : Try.f13.body.isNone = false := by kernel_rfl
theorem fb_14 : Try.f14.body.isNone = false := by kernel_rfl
theorem fb_15 : Try.f15.body.isNone = false := by kernel_rfl
theorem fb_16 : Try.f16.body.isNone = false := by kernel_rfl
theorem fb_17 : Try.f17.body.isNone = false := by kernel_rfl
theorem fb_18 : Try.f18.body.isNone = false := by kernel_rfl
theorem fb_19 : Try.f19.body.isNone = false := by kernel_rfl
theorem fb_20 : Try.f20.body.isNone = false := by kernel_rfl
theorem fb_21 : Try.f21.body.isNone = false := by kernel_rfl
theorem fb_22 : Try.f22.body.isNone = false := by kernel_rfl
theorem fb_4 : Try.f4.body.isNone = false := by kernel_rfl
theorem fb_5 : Try.f5.body.isNone = false := by kernel_rfl
theorem fb_6 : Try.f6.body.isNone = false := by kernel_rfl
theorem fb_7 : Try.f7.body.isNone = false := by kernel_rfl
theorem fb_8 : Try.f8.body.isNone = false := by kernel_rfl
theorem fb_9 : Try.f9.body.isNone = false := by kernel_rfl
theorem field_31_0 : fieldT Try.prog 31 0 = some 0 := by kernel_rfl
theorem field_31_1 : fieldT Try.prog 31 1 = some 1 := by kernel_rfl
theorem field_31_2 : fieldT Try.prog 31 2 = some 2 := by kernel_rfl
theorem field_31_3 : fieldT Try.prog 31 3 = some 3 := by kernel_rfl
theorem field_35_0 : fieldT Try.prog 35 0 = some 0 := by kernel_rfl
theorem field_35_1 : fieldT Try.prog 35 1 = some 1 := by kernel_rfl
theorem field_35_2 : fieldT Try.prog 35 2 = some 2 := by kernel_rfl
theorem field_52_0 : fieldT Try.prog 52 0 = some 0 := by kernel_rfl
theorem field_52_1 : fieldT Try.prog 52 1 = some 1 := by kernel_rfl
theorem field_52_2 : fieldT Try.prog 52 2 = some 2 := by kernel_rfl
theorem field_57_0 : fieldT Try.prog 57 0 = some 0 := by kernel_rfl
theorem field_57_1 : fieldT Try.prog 57 1 = some 1 := by kernel_rfl
theorem field_57_2 : fieldT Try.prog 57 2 = some 2 := by kernel_rfl
theorem field_57_3 : fieldT Try.prog 57 3 = some 3 := by kernel_rfl
theorem field_57_4 : fieldT Try.prog 57 4 = some 4 := by kernel_rfl
theorem field_60_0 : fieldT Try.prog 60 0 = some 0 := by kernel_rfl
theorem field_60_1 : fieldT Try.prog 60 1 = some 1 := by kernel_rfl
theorem field_60_2 : fieldT Try.prog 60 2 = some 2 := by kernel_rfl
theorem fn_10 : decide (Try.f10.name = "runtime.NumGoroutine") = false := by kernel_rfl
theorem fn_11 : decide (Try.f11.name = "runtime.NumGoroutine") = false := by kernel_rfl
theorem fn_12 : decide (Try.f12.name = "runtime.NumGoroutine") = false := by kernel_rfl
theorem fn_13 : decide (Try.f13.name = "runtime.NumGoroutine") = false := by kernel_rfl
theorem fn_14 : decide (Try.f14.name = "runtime.NumGoroutine") = false := by kernel_rfl
theorem fn_15 : decide (Try.f15.name = "runtime.NumGoroutine") = false := by kernel_rfl
theorem fn_16 : decide (Try.f16.name = "runtime.NumGoroutine") = false := by kernel_rfl
theorem fn_17 : decide (Try.f17.name = "runtime.NumGoroutine") = false := by kernel_rfl
theorem fn_18 : decide (Try.f18.name = "runtime.NumGoroutine") = false := by kernel_rfl
theorem fn_19 : decide (Try.f19.name = "runtime.NumGoroutine") = false := by kernel_rfl
theorem fn_20 : decide (Try.f20.name = "runtime.NumGoroutine") = false := by kernel_rfl
theorem fn_21 : decide (Try.f21.name = "runtime.NumGoroutine") = false := by kernel_rfl
theorem fn_22 : decide (Try.f22.name = "runtime.NumGoroutine") = false := by kernel_rfl
theorem fn_4 : decide (Try.f4.name = "runtime.NumGoroutine") = false := by kernel_rfl
theorem fn_5 : decide (Try.f5.name = "runtime.NumGoroutine") = false := by kernel_rfl
theorem fn_6 : decide (Try.f6.name = "runtime.NumGoroutine") = false := by kernel_rfl
theorem fn_7 : decide (Try.f7.name = "runtime.NumGoroutine") = false := by kernel_rfl
theorem fn_8 : decide (Try.f8.name = "runtime.NumGoroutine") = false := by kernel_rfl
theorem fn_9 : decide (Try.f9.name = "runtime.NumGoroutine") = false := by kernel_rfl
theorem int_3 : intT Try.prog 3 = some .i64 := by kernel_rfl
theorem int_36 : intT Try.prog 36 = some .u64 := by kernel_rfl
theorem map_54 : mapII Try.prog 54 = true := by kernel_rfl
theorem mixed : Try.prog.follows .mixedOrders = true := by kernel_rfl
theorem mkz_29 : mkCells Try.prog 29 = some (52, 3, 32, [Value.int .i64 0, Value.bool false, str []]) := by kernel_rfl
theorem mkz_55 : mkCells Try.prog 55 = some (60, 3, 40, [Value.int .i64 0, Value.bool false, Value.slice none 0 0]) := by kernel_rfl
theorem one_29 : oneT Try.prog 29 = true := by kernel_rfl
theorem one_3 : oneT Try.prog 3 = true := by kernel_rfl
theorem one_33 : oneT Try.prog 33 = true := by kernel_rfl
theorem one_4 : oneT Try.prog 4 = true := by kernel_rfl
theorem one_5 : oneT Try.prog 5 = true := by kernel_rfl
theorem one_54 : oneT Try.prog 54 = true := by kernel_rfl
theorem one_55 : oneT Try.prog 55 = true := by kernel_rfl
theorem one_9 : oneT Try.prog 9 = true := by kernel_rfl
theorem ptr_25 : ptrT Try.prog 25 = true := by kernel_rfl
theorem size_29 : sizeT Try.prog 29 = some 1 := by kernel_rfl
theorem size_3 : sizeT Try.prog 3 = some 1 := by kernel_rfl
theorem size_31 : sizeT Try.prog 31 = some 4 := by kernel_rfl
theorem size_35 : sizeT Try.prog 35 = some 3 := by kernel_rfl
theorem size_4 : sizeT Try.prog 4 = some 1 := by kernel_rfl
theorem size_5 : sizeT Try.prog 5 = some 1 := by kernel_rfl
theorem size_52 : sizeT Try.prog 52 = some 3 := by kernel_rfl
theorem size_55 : sizeT Try.prog 55 = some 1 := by kernel_rfl
theorem size_60 : sizeT Try.prog 60 = some 3 := by kernel_rfl
theorem slice_22 : sliceT Try.prog 22 = some (35, 3) := by kernel_rfl
theorem slice_29 : sliceT Try.prog 29 = some (52, 3) := by kernel_rfl
theorem slice_33 : sliceT Try.prog 33 = some (5, 1) := by kernel_rfl
theorem slice_47 : sliceT Try.prog 47 = some (3, 1) := by kernel_rfl
theorem slice_55 : sliceT Try.prog 55 = some (60, 3) := by kernel_rfl
theorem slice_67 : sliceT Try.prog 67 = some (55, 1) := by kernel_rfl
theorem str_9 : strT Try.prog 9 = true := by kernel_rfl
theorem ub_4 : Try.prog.underlying 4 = some .bool := by kernel_rfl
theorem zero_31 : zeroT Try.prog 31 = some [Value.slice none 0 0, Value.int .i64 0, Value.int .i64 0, Value.int .i64 0] := by kernel_rfl
theorem zero_35 : zeroT Try.prog 35 = some [Value.int .i64 0, Value.int .i64 0, Value.slice none 0 0] := by kernel_rfl
theorem zero_52 : zeroT Try.prog 52 = some [Value.int .i64 0, Value.bool false, str []] := by kernel_rfl
theorem zero_60 : zeroT Try.prog 60 = some [Value.int .i64 0, Value.bool false, Value.slice none 0 0] := by kernel_rfl
end Go.Proofs.Ytijopkmclcbehaa
end
section
/- The typed readings of the functions, and that the program meets each: written by gen.py (a program of this session). -/
namespace Go.Proofs.Ytijopkmclcbehaa
open Go.Lift
abbrev r3 : Bool → Value := fun (x : Bool) => .bool x
abbrev r4 : Bool → Value := fun (x : Bool) => .bool x
abbrev r5 : Bool → Value := fun (x : Bool) => .bool x
abbrev r6 : Option Addr × Int → Value := fun (x : Option Addr × Int) => .tuple #[.pointer x.1, .int .i64 x.2]
abbrev r7 : List Value → Value := fun (x : List Value) => aggv x
abbrev r8 : Sl × Bool → Value := fun (x : Sl × Bool) => .tuple #[Sl.v x.1, .bool x.2]
abbrev r9 : List Value × List UInt8 × Bool → Value := fun (x : List Value × List UInt8 × Bool) => .tuple #[aggv x.1, str x.2.1, .bool x.2.2]
abbrev r10 : Int → Value := fun (x : Int) => .int .i64 x
abbrev r11 : List Value × Int → Value := fun (x : List Value × Int) => .tuple #[aggv x.1, .int .i64 x.2]
abbrev r12 : List Value × Bool → Value := fun (x : List Value × Bool) => .tuple #[aggv x.1, .bool x.2]
abbrev r13 : Bool → Value := fun (x : Bool) => .bool x
abbrev r14 : Sl → Value := fun (x : Sl) => Sl.v x
abbrev r15 : Int × Int → Value := fun (x : Int × Int) => .tuple #[.int .i64 x.1, .int .i64 x.2]
abbrev r16 : Sl → Value := fun (x : Sl) => Sl.v x
abbrev r17 : Sl → Value := fun (x : Sl) => Sl.v x
abbrev r18 : Int → Value := fun (x : Int) => .int .i64 x
abbrev r19 : List Value → Value := fun (x : List Value) => aggv x
abbrev r20 : Int → Value := fun (x : Int) => .int .i64 x
abbrev r21 : Sl → Value := fun (x : Sl) => Sl.v x
abbrev r22 : Int → Value := fun (x : Int) => .int .i64 x
abbrev r23 : Bool → Value := fun (x : Bool) => .bool x
/-- dowser/dowserlaw05.PoolPlays -/
def s3 (K : Bool → World → Prop) (p0 : Int) (p1 : Sl) (w : World) : Prop :=
 cR Try.prog 4 r4 #[] w fun x1 w2 =>
 jn (J := Bool → World → Prop) (fun J4 =>
  ifB (!x1) (
   J4 true w2) (
   cR Try.prog 5 r5 #[Sl.v p1] w2 fun x5 w6 =>
   J4 (!x5) w6)) fun s7 w8 =>
 ifB s7 (
  cR Try.prog 4 r4 #[] w8 fun x13 w14 =>
  K x13 w14) (
  cR Try.prog 6 r6 #[.int .i64 p0] w8 fun x15 w16 =>
  jn (J := Bool → World → Prop) (fun J18 =>
   ifB (decide (p0 < 1)) (
    J18 true w16) (
    J18 (decide (64 < p0)) w16)) fun s19 w20 =>
  ifB s19 (
   jn (J := Bool → World → Prop) (fun J28 =>
    ifB (x15.1.isNone) (
     J28 (decide (x15.2 = 1)) w20) (
     J28 false w20)) fun s29 w30 =>
   K s29 w30) (
   cR Try.prog 7 r7 #[.int .i64 p0] w20 fun x34 w35 =>
   newA 4 31 x34 w35 fun b36 w37 =>
   LoopS (σ := Int) (fun next40 s38 w39 =>
    ifB (decide (s38 < (p1.len : Int))) (
     ix p1 3 s38 fun a47 =>
     ldA 3 a47 w39 fun x49 =>
     newA 3 35 x49 w39 fun b50 w51 =>
     jn (J := Bool → World → Prop) (fun J52 =>
      ldI .i64 (Addr.add ⟨b50, 0, none⟩ 0) w51 fun x53 =>
      ifB (decide ((Int.tmod (IntKind.u64.wrap x53) 3) = 0)) (
       ldI .i64 (Addr.add ⟨b50, 0, none⟩ 1) w51 fun x55 =>
       cR Try.prog 8 r8 #[.pointer x15.1, .int .i64 x55] w51 fun x56 w57 =>
       ldA 4 ⟨b36, 0, none⟩ w57 fun x58 =>
       ldI .i64 (Addr.add ⟨b50, 0, none⟩ 1) w57 fun x59 =>
       cR Try.prog 9 r9 #[aggv x58, .int .i64 x59] w57 fun x60 w61 =>
       newA 4 31 x60.1 w61 fun b62 w63 =>
       drw w63 fun w64 =>
       jn (J := Bool → World → Prop) (fun J66 =>
        ifB (x56.2 == x60.2.2) (
         b2s x56.1 w63 fun x68 =>
         J66 (decide (x68 = x60.2.1)) w64) (
         J66 false w64)) fun s69 w70 =>
       ldA 4 ⟨b62, 0, none⟩ w63 fun x79 =>
       stA 4 ⟨b36, 0, none⟩ x79 w70 fun w80 =>
       J52 s69 w80) (
       ifB (decide ((Int.tmod (IntKind.u64.wrap x53) 3) = 1)) (
        newB 5 [] w51 fun b84 w85 =>
        ldL (Addr.add ⟨b50, 0, none⟩ 2) w85 fun x86 =>
        app Try.prog 33 ⟨some ⟨b84, 0, none⟩, 0, 0⟩ x86 w85 fun x87 w88 =>
        ldI .i64 (Addr.add ⟨b50, 0, none⟩ 1) w88 fun x89 =>
        cR Try.prog 10 r10 #[.pointer x15.1, .int .i64 x89, Sl.v x87] w88 fun x90 w91 =>
        ldA 4 ⟨b36, 0, none⟩ w91 fun x92 =>
        ldI .i64 (Addr.add ⟨b50, 0, none⟩ 1) w91 fun x93 =>
        ldL (Addr.add ⟨b50, 0, none⟩ 2) w91 fun x94 =>
        b2s x94 w91 fun x95 =>
        cR Try.prog 11 r11 #[aggv x92, .int .i64 x93, str x95] w91 fun x96 w97 =>
        newA 4 31 x96.1 w97 fun b98 w99 =>
        drw w99 fun w100 =>
        ldA 4 ⟨b98, 0, none⟩ w99 fun x102 =>
        stA 4 ⟨b36, 0, none⟩ x102 w100 fun w103 =>
        LoopS (σ := Int) (fun next106 s104 w105 =>
         ifB (decide (s104 < (x87.len : Int))) (
          ix x87 1 s104 fun a117 =>
          ldI .u8 a117 w105 fun x119 =>
          ix x87 1 s104 fun a120 =>
          st1 a120 (.int .u8 (IntKind.u8.wrap (x119 + 1))) w105 fun w122 =>
          next106 (IntKind.i64.wrap (s104 + 1)) w122) (
          J52 (decide (x90 = x96.2)) w105)) 0 w103) (
        ldA 4 ⟨b36, 0, none⟩ w51 fun x125 =>
        ldI .i64 (Addr.add ⟨b50, 0, none⟩ 1) w51 fun x126 =>
        cR Try.prog 12 r12 #[aggv x125, .int .i64 x126] w51 fun x127 w128 =>
        newA 4 31 x127.1 w128 fun b129 w130 =>
        xr fun X131 =>
        drw w130 fun w132 =>
        rq (¬ X131 (Addr.block (Addr.add ⟨b50, 0, none⟩ 1))) <|
        ldI .i64 (Addr.add ⟨b50, 0, none⟩ 1) w130 fun x134 =>
        rq (¬ X131 (Addr.block ⟨b129, 0, none⟩)) <|
        ldA 4 ⟨b129, 0, none⟩ w130 fun x136 =>
        cR Try.prog 13 r13 #[.pointer x15.1, .int .i64 x134] w132 fun x138 w139 =>
        rq (ExtX X131 w132 w139) <|
        stA 4 ⟨b36, 0, none⟩ x136 w139 fun w141 =>
        J52 (x138 == x127.2) w141))) fun s142 w143 =>
     cR Try.prog 14 r14 #[.pointer x15.1] w143 fun x150 w151 =>
     cR Try.prog 15 r15 #[.pointer x15.1] w151 fun x152 w153 =>
     jn (J := Bool → World → Prop) (fun J155 =>
      ifB (!s142) (
       J155 true w153) (
       ldL (Addr.add ⟨b36, 0, none⟩ 0) w153 fun x156 =>
       J155 (!decide ((x150.len : Int) = (x156.len : Int))) w153)) fun s157 w158 =>
     jn (J := Bool → World → Prop) (fun J169 =>
      ifB s157 (
       J169 true w158) (
       ldI .i64 (Addr.add ⟨b36, 0, none⟩ 2) w158 fun x170 =>
       J169 (!decide (x152.1 = x170)) w158)) fun s171 w172 =>
     jn (J := Bool → World → Prop) (fun J182 =>
      ifB s171 (
       J182 true w172) (
       ldI .i64 (Addr.add ⟨b36, 0, none⟩ 3) w172 fun x183 =>
       J182 (!decide (x152.2 = x183)) w172)) fun s184 w185 =>
     ifB s184 (
      K false w185) (
      LoopS (σ := Int) (fun next196 s194 w195 =>
       ifB (decide (s194 < (x150.len : Int))) (
        ix x150 1 s194 fun a206 =>
        ldI .i64 a206 w195 fun x208 =>
        ldL (Addr.add ⟨b36, 0, none⟩ 0) w195 fun x209 =>
        ix x209 3 s194 fun a210 =>
        ldI .i64 (Addr.add a210 0) w195 fun x212 =>
        ifB (!decide (x208 = x212)) (
         K false w195) (
         next196 (IntKind.i64.wrap (s194 + 1)) w195)) (
        next40 (IntKind.i64.wrap (s38 + 1)) w195)) 0 w185)) (
     K true w39)) 0 w37))
/-- dowser/dowserlaw05.lives -/
def s4 (K : Bool → World → Prop)  (w : World) : Prop :=
 cR Try.prog 6 r6 #[.int .i64 2] w fun x1 w2 =>
 jn (J := Bool → World → Prop) (fun J4 =>
  ifB (x1.1.isNone) (
   J4 true w2) (
   J4 (!decide (x1.2 = 0)) w2)) fun s5 w6 =>
 jn (J := Bool → World → Prop) (fun J10 =>
  ifB s5 (
   J10 true w6) (
   newB 5 [.int .u8 97] w6 fun b11 w12 =>
   mkd ⟨some ⟨b11, 0, none⟩, 1, 1⟩ w12 fun w13 =>
   cR Try.prog 10 r10 #[.pointer x1.1, .int .i64 1, Sl.v ⟨some ⟨b11, 0, none⟩, 1, 1⟩] w13 fun x14 w15 =>
   J10 (!decide (x14 = (-1))) w15)) fun s16 w17 =>
 jn (J := Bool → World → Prop) (fun J21 =>
  ifB s16 (
   J21 true w17) (
   newB 5 [.int .u8 98] w17 fun b22 w23 =>
   mkd ⟨some ⟨b22, 0, none⟩, 1, 1⟩ w23 fun w24 =>
   cR Try.prog 10 r10 #[.pointer x1.1, .int .i64 2, Sl.v ⟨some ⟨b22, 0, none⟩, 1, 1⟩] w24 fun x25 w26 =>
   J21 (!decide (x25 = (-1))) w26)) fun s27 w28 =>
 jn (J := Bool → World → Prop) (fun J32 =>
  ifB s27 (
   J32 true w28) (
   newB 5 [.int .u8 99] w28 fun b33 w34 =>
   mkd ⟨some ⟨b33, 0, none⟩, 1, 1⟩ w34 fun w35 =>
   cR Try.prog 10 r10 #[.pointer x1.1, .int .i64 3, Sl.v ⟨some ⟨b33, 0, none⟩, 1, 1⟩] w35 fun x36 w37 =>
   J32 (!decide (x36 = 1)) w37)) fun s38 w39 =>
 ifB s38 (
  K false w39) (
  cR Try.prog 8 r8 #[.pointer x1.1, .int .i64 2] w39 fun x43 w44 =>
  cR Try.prog 8 r8 #[.pointer x1.1, .int .i64 1] w44 fun x45 w46 =>
  jn (J := Bool → World → Prop) (fun J48 =>
   ifB x43.2 (
    b2s x43.1 w46 fun x49 =>
    J48 (decide (x49 = [98])) w46) (
    J48 false w46)) fun s50 w51 =>
  jn (J := Bool → World → Prop) (fun J55 =>
   ifB s50 (
    J55 (!x45.2) w51) (
    J55 false w51)) fun s56 w57 =>
  K s56 w57)
/-- dowser/dowserlaw05.fits -/
def s5 (K : Bool → World → Prop) (p0 : Sl) (w : World) : Prop :=
 ifB (decide (300 < (p0.len : Int))) (
  K false w) (
  LoopS (σ := Int) (fun next4 s2 w3 =>
   ifB (decide (s2 < (p0.len : Int))) (
    ix p0 3 s2 fun a9 =>
    ldA 3 a9 w3 fun x11 =>
    newA 3 35 x11 w3 fun b12 w13 =>
    ldL (Addr.add ⟨b12, 0, none⟩ 2) w13 fun x14 =>
    ifB (decide (100 < (x14.len : Int))) (
     K false w13) (
     next4 (IntKind.i64.wrap (s2 + 1)) w13)) (
    K true w3)) 0 w)
/-- dowser/pool.New -/
def s6 (K : Option Addr × Int → World → Prop) (p0 : Int) (w : World) : Prop :=
 jn (J := Bool → World → Prop) (fun J2 =>
  ifB (decide (p0 < 1)) (
   J2 true w) (
   J2 (decide (64 < p0)) w)) fun s3 w4 =>
 ifB s3 (
  K (none, 1) w4) (
  mkM w4 fun x8 w9 =>
  newB 57 [Value.slice none 0 0, Value.int .i64 0, .map x8, Value.int .i64 0, Value.int .i64 0] w9 fun b10 w11 =>
  LoopS (σ := Int) (fun next14 s12 w13 =>
   ifB (decide (s12 < p0)) (
    ldL (Addr.add ⟨b10, 0, none⟩ 0) w13 fun x19 =>
    newA 3 60 [.int .i64 (-1), Value.bool false, Value.slice none 0 0] w13 fun b20 w21 =>
    newB 55 [Sl.v x19, Sl.v ⟨some ⟨b20, 0, none⟩, 1, 1⟩] w21 fun b22 w23 =>
    cR Try.prog 16 r16 #[Sl.v ⟨some ⟨b22, 0, none⟩, 2, 2⟩] w23 fun x24 w25 =>
    st1 (Addr.add ⟨b10, 0, none⟩ 0) (Sl.v x24) w25 fun w26 =>
    next14 (IntKind.i64.wrap (s12 + 1)) w26) (
    K (some ⟨b10, 0, none⟩, 0) w13)) 0 w11)
/-- dowser/dowserref05.New -/
def s7 (K : List Value → World → Prop) (p0 : Int) (w : World) : Prop :=
 newB 31 [Value.slice none 0 0, Value.int .i64 0, Value.int .i64 0, Value.int .i64 0] w fun b1 w2 =>
 newA 4 31 [Value.slice none 0 0, Value.int .i64 0, Value.int .i64 0, Value.int .i64 0] w2 fun b3 w4 =>
 LoopS (σ := Int) (fun next7 s5 w6 =>
  ifB (decide (s5 < p0)) (
   ldL (Addr.add ⟨b3, 0, none⟩ 0) w6 fun x13 =>
   newA 3 52 [.int .i64 (-1), Value.bool false, str []] w6 fun b14 w15 =>
   app Try.prog 29 x13 ⟨some ⟨b14, 0, none⟩, 1, 1⟩ w15 fun x16 w17 =>
   st1 (Addr.add ⟨b3, 0, none⟩ 0) (Sl.v x16) w17 fun w18 =>
   next7 (IntKind.i64.wrap (s5 + 1)) w18) (
   ldA 4 ⟨b3, 0, none⟩ w6 fun x19 =>
   stA 4 ⟨b1, 0, none⟩ x19 w6 fun w20 =>
   ldA 4 ⟨b1, 0, none⟩ w20 fun x21 =>
   K x21 w20)) 0 w4
/-- (*dowser/pool.Pool).Get -/
def s8 (K : Sl × Bool → World → Prop) (p0 : Option Addr) (p1 : Int) (w : World) : Prop :=
 ifB (p0.isNone) (
  K (nilSl, false) w) (
  nn p0 fun a2 =>
  ldM (Addr.add a2 2) w fun x4 =>
  lkM x4 p1 w fun x5 x6 =>
  ifB (!x6) (
   nn p0 fun a8 =>
   ldI .i64 (Addr.add a8 4) w fun x10 =>
   nn p0 fun a11 =>
   st1 (Addr.add a11 4) (.int .i64 (IntKind.i64.wrap (x10 + 1))) w fun w13 =>
   K (nilSl, false) w13) (
   nn p0 fun a14 =>
   ldI .i64 (Addr.add a14 3) w fun x16 =>
   nn p0 fun a17 =>
   st1 (Addr.add a17 3) (.int .i64 (IntKind.i64.wrap (x16 + 1))) w fun w19 =>
   nn p0 fun a20 =>
   ldL (Addr.add a20 0) w19 fun x22 =>
   ix x22 3 x5 fun a23 =>
   st1 (Addr.add a23 1) (.bool true) w19 fun w25 =>
   ldL (Addr.add a23 2) w25 fun x26 =>
   cR Try.prog 17 r17 #[Sl.v x26] w25 fun x27 w28 =>
   K (x27, true) w28))
/-- dowser/dowserref05.Get -/
def s9 (K : List Value × List UInt8 × Bool → World → Prop) (p0 : List Value) (p1 : Int) (w : World) : Prop :=
 newB 31 p0 w fun b1 w2 =>
 newB 31 [Value.slice none 0 0, Value.int .i64 0, Value.int .i64 0, Value.int .i64 0] w2 fun b3 w4 =>
 jn (J := Int → World → Prop) (fun J5 =>
  ifB (decide (0 ≤ p1)) (
   ldA 4 ⟨b1, 0, none⟩ w4 fun x7 =>
   cR Try.prog 18 r18 #[aggv x7, .int .i64 p1] w4 fun x8 w9 =>
   J5 x8 w9) (
   J5 (-1) w4)) fun s10 w11 =>
 ifB (decide (s10 < 0)) (
  ldI .i64 (Addr.add ⟨b1, 0, none⟩ 3) w11 fun x16 =>
  st1 (Addr.add ⟨b1, 0, none⟩ 3) (.int .i64 (IntKind.i64.wrap (x16 + 1))) w11 fun w17 =>
  ldA 4 ⟨b1, 0, none⟩ w17 fun x18 =>
  stA 4 ⟨b3, 0, none⟩ x18 w17 fun w19 =>
  ldA 4 ⟨b3, 0, none⟩ w19 fun x20 =>
  K (x20, [], false) w19) (
  ldI .i64 (Addr.add ⟨b1, 0, none⟩ 2) w11 fun x21 =>
  st1 (Addr.add ⟨b1, 0, none⟩ 2) (.int .i64 (IntKind.i64.wrap (x21 + 1))) w11 fun w22 =>
  ldL (Addr.add ⟨b1, 0, none⟩ 0) w22 fun x23 =>
  ix x23 3 s10 fun a24 =>
  ldA 3 a24 w22 fun x26 =>
  newA 3 52 x26 w22 fun b27 w28 =>
  st1 (Addr.add ⟨b27, 0, none⟩ 1) (.bool true) w28 fun w29 =>
  drw w29 fun w30 =>
  rq (some (Addr.block ⟨b1, 0, none⟩) ≠ (some (Addr.block ⟨b3, 0, none⟩))) <|
  ldA 4 ⟨b1, 0, none⟩ w29 fun x32 =>
  rq (some (Addr.block ⟨b27, 0, none⟩) ≠ (some (Addr.block ⟨b3, 0, none⟩))) <|
  ldA 3 ⟨b27, 0, none⟩ w29 fun x34 =>
  rq (some (Addr.block (Addr.add ⟨b27, 0, none⟩ 2)) ≠ (some (Addr.block ⟨b3, 0, none⟩))) <|
  ldS (Addr.add ⟨b27, 0, none⟩ 2) w29 fun x36 =>
  cR Try.prog 19 r19 #[aggv x32, .int .i64 s10, aggv x34] w30 fun x38 w39 =>
  rq (Ext w30 w39) <|
  stA 4 ⟨b3, 0, none⟩ x38 w39 fun w41 =>
  ldA 4 ⟨b3, 0, none⟩ w41 fun x43 =>
  K (x43, x36, true) w41)
/-- (*dowser/pool.Pool).Put -/
def s10 (K : Int → World → Prop) (p0 : Option Addr) (p1 : Int) (p2 : Sl) (w : World) : Prop :=
 jn (J := Bool → World → Prop) (fun J2 =>
  ifB (p0.isNone) (
   J2 true w) (
   J2 (decide (p1 < 0)) w)) fun s3 w4 =>
 ifB s3 (
  K (-1) w4) (
  nn p0 fun a10 =>
  ldM (Addr.add a10 2) w4 fun x12 =>
  lkM x12 p1 w4 fun x13 x14 =>
  jn (J := Int × Int → World → Prop) (fun J15 =>
   ifB (!x14) (
    cR Try.prog 20 r20 #[.pointer p0] w4 fun x17 w18 =>
    jn (J := Int → World → Prop) (fun J19 =>
     nn p0 fun a20 =>
     ldL (Addr.add a20 0) w18 fun x22 =>
     ix x22 3 x17 fun a23 =>
     ldI .i64 (Addr.add a23 0) w18 fun x25 =>
     ifB (decide (0 ≤ x25)) (
      nn p0 fun a27 =>
      ldM (Addr.add a27 2) w18 fun x29 =>
      dlM x29 x25 w18 fun w30 =>
      J19 x25 w30) (
      J19 x25 w18)) fun s31 w32 =>
    nn p0 fun a38 =>
    ldM (Addr.add a38 2) w32 fun x40 =>
    upM x40 p1 x17 w32 fun w41 =>
    J15 (x17, s31) w41) (
    J15 (x13, (-1)) w4)) fun s44 w45 =>
  drw w45 fun w51 =>
  nn p0 fun a53 =>
  ldL (Addr.add a53 0) w45 fun x55 =>
  cR Try.prog 17 r17 #[Sl.v p2] w51 fun x56 w57 =>
  rq (Ext w45 w57) <|
  ix x55 3 s44.1 fun a59 =>
  stA 3 a59 [.int .i64 p1, .bool true, Sl.v x56] w57 fun w61 =>
  K s44.2 w61)
/-- dowser/dowserref05.Put -/
def s11 (K : List Value × Int → World → Prop) (p0 : List Value) (p1 : Int) (p2 : List UInt8) (w : World) : Prop :=
 newB 31 p0 w fun b1 w2 =>
 newB 31 [Value.slice none 0 0, Value.int .i64 0, Value.int .i64 0, Value.int .i64 0] w2 fun b3 w4 =>
 ifB (decide (p1 < 0)) (
  ldA 4 ⟨b1, 0, none⟩ w4 fun x6 =>
  stA 4 ⟨b3, 0, none⟩ x6 w4 fun w7 =>
  ldA 4 ⟨b3, 0, none⟩ w7 fun x8 =>
  K (x8, (-1)) w7) (
  ldA 4 ⟨b1, 0, none⟩ w4 fun x9 =>
  cR Try.prog 18 r18 #[aggv x9, .int .i64 p1] w4 fun x10 w11 =>
  jn (J := Int → World → Prop) (fun J12 =>
   ifB (decide (x10 < 0)) (
    ldA 4 ⟨b1, 0, none⟩ w11 fun x14 =>
    cR Try.prog 18 r18 #[aggv x14, .int .i64 (-1)] w11 fun x15 w16 =>
    J12 x15 w16) (
    J12 x10 w11)) fun s17 w18 =>
  LoopS (σ := Int × Int) (fun next27 s25 w26 =>
   ifB (decide (s25.1 < 0)) (
    ldL (Addr.add ⟨b1, 0, none⟩ 0) w26 fun x35 =>
    ldI .i64 (Addr.add ⟨b1, 0, none⟩ 1) w26 fun x36 =>
    ix x35 3 x36 fun a37 =>
    ldA 3 a37 w26 fun x39 =>
    newA 3 52 x39 w26 fun b40 w41 =>
    jn (J := Int × Int → World → Prop) (fun J42 =>
     ldB (Addr.add ⟨b40, 0, none⟩ 1) w41 fun x43 =>
     ifB x43 (
      st1 (Addr.add ⟨b40, 0, none⟩ 1) (.bool false) w41 fun w45 =>
      ldA 4 ⟨b1, 0, none⟩ w45 fun x46 =>
      ldI .i64 (Addr.add ⟨b1, 0, none⟩ 1) w45 fun x47 =>
      ldA 3 ⟨b40, 0, none⟩ w45 fun x48 =>
      cR Try.prog 19 r19 #[aggv x46, .int .i64 x47, aggv x48] w45 fun x49 w50 =>
      stA 4 ⟨b1, 0, none⟩ x49 w50 fun w51 =>
      J42 (s25.1, s25.2) w51) (
      drw w41 fun w52 =>
      ldI .i64 (Addr.add ⟨b1, 0, none⟩ 1) w41 fun x54 =>
      ldI .i64 (Addr.add ⟨b40, 0, none⟩ 0) w41 fun x55 =>
      J42 (x54, x55) w52)) fun s56 w57 =>
    ldI .i64 (Addr.add ⟨b1, 0, none⟩ 1) w57 fun x64 =>
    ldL (Addr.add ⟨b1, 0, none⟩ 0) w57 fun x65 =>
    rq ((x65.len : Int) ≠ 0) <|
    st1 (Addr.add ⟨b1, 0, none⟩ 1) (.int .i64 (Int.tmod (IntKind.i64.wrap (x64 + 1)) (x65.len : Int))) w57 fun w66 =>
    next27 (s56.1, s56.2) w66) (
    ldA 4 ⟨b1, 0, none⟩ w26 fun x69 =>
    cR Try.prog 19 r19 #[aggv x69, .int .i64 s25.1, aggv [.int .i64 p1, .bool true, str p2]] w26 fun x70 w71 =>
    stA 4 ⟨b3, 0, none⟩ x70 w71 fun w72 =>
    ldA 4 ⟨b3, 0, none⟩ w72 fun x73 =>
    K (x73, s25.2) w72)) (s17, (-1)) w18)
/-- dowser/dowserref05.Drop -/
def s12 (K : List Value × Bool → World → Prop) (p0 : List Value) (p1 : Int) (w : World) : Prop :=
 newB 31 p0 w fun b1 w2 =>
 newB 31 [Value.slice none 0 0, Value.int .i64 0, Value.int .i64 0, Value.int .i64 0] w2 fun b3 w4 =>
 jn (J := Bool → World → Prop) (fun J6 =>
  ifB (decide (p1 < 0)) (
   J6 true w4) (
   ldA 4 ⟨b1, 0, none⟩ w4 fun x7 =>
   cR Try.prog 18 r18 #[aggv x7, .int .i64 p1] w4 fun x8 w9 =>
   J6 (decide (x8 < 0)) w9)) fun s10 w11 =>
 ifB s10 (
  ldA 4 ⟨b1, 0, none⟩ w11 fun x17 =>
  stA 4 ⟨b3, 0, none⟩ x17 w11 fun w18 =>
  ldA 4 ⟨b3, 0, none⟩ w18 fun x19 =>
  K (x19, false) w18) (
  drw w11 fun w20 =>
  ldA 4 ⟨b1, 0, none⟩ w11 fun x22 =>
  ldA 4 ⟨b1, 0, none⟩ w11 fun x23 =>
  cR Try.prog 18 r18 #[aggv x23, .int .i64 p1] w20 fun x24 w25 =>
  rq (Ext w11 w25) <|
  cR Try.prog 19 r19 #[aggv x22, .int .i64 x24, aggv [.int .i64 (-1), Value.bool false, str []]] w25 fun x27 w28 =>
  stA 4 ⟨b3, 0, none⟩ x27 w28 fun w29 =>
  ldA 4 ⟨b3, 0, none⟩ w29 fun x30 =>
  K (x30, true) w29)
/-- (*dowser/pool.Pool).Drop -/
def s13 (K : Bool → World → Prop) (p0 : Option Addr) (p1 : Int) (w : World) : Prop :=
 ifB (p0.isNone) (
  K false w) (
  nn p0 fun a2 =>
  ldM (Addr.add a2 2) w fun x4 =>
  lkM x4 p1 w fun x5 x6 =>
  jn (J := Unit → World → Prop) (fun J7 =>
   ifB x6 (
    nn p0 fun a9 =>
    ldL (Addr.add a9 0) w fun x11 =>
    ix x11 3 x5 fun a12 =>
    stA 3 a12 [.int .i64 (-1), Value.bool false, Value.slice none 0 0] w fun w14 =>
    nn p0 fun a15 =>
    ldM (Addr.add a15 2) w14 fun x17 =>
    dlM x17 p1 w14 fun w18 =>
    J7 () w18) (
    J7 () w)) fun s19 w20 =>
  K x6 w20)
/-- (*dowser/pool.Pool).Pages -/
def s14 (K : Sl → World → Prop) (p0 : Option Addr) (w : World) : Prop :=
 ifB (p0.isNone) (
  K nilSl w) (
  nn p0 fun a2 =>
  ldL (Addr.add a2 0) w fun x4 =>
  LoopS (σ := Sl × Int) (fun next7 s5 w6 =>
   ifB (decide (s5.2 < (x4.len : Int))) (
    ix x4 3 s5.2 fun a13 =>
    ldA 3 a13 w6 fun x15 =>
    newA 3 60 x15 w6 fun b16 w17 =>
    ldI .i64 (Addr.add ⟨b16, 0, none⟩ 0) w17 fun x18 =>
    newB 3 [.int .i64 x18] w17 fun b19 w20 =>
    app Try.prog 47 s5.1 ⟨some ⟨b19, 0, none⟩, 1, 1⟩ w20 fun x21 w22 =>
    next7 (x21, (IntKind.i64.wrap (s5.2 + 1))) w22) (
    K s5.1 w6)) (nilSl, 0) w)
/-- (*dowser/pool.Pool).Counts -/
def s15 (K : Int × Int → World → Prop) (p0 : Option Addr) (w : World) : Prop :=
 ifB (p0.isNone) (
  K (0, 0) w) (
  drw w fun w2 =>
  nn p0 fun a4 =>
  ldI .i64 (Addr.add a4 3) w fun x6 =>
  nn p0 fun a7 =>
  ldI .i64 (Addr.add a7 4) w fun x9 =>
  K (x6, x9) w2)
/-- slices.Concat[[]dowser/pool.frame,dowser/pool.frame] -/
def s16 (K : Sl → World → Prop) (p0 : Sl) (w : World) : Prop :=
 LoopS (σ := Int × Int) (fun next3 s1 w2 =>
  ifB (decide (s1.2 < (p0.len : Int))) (
   jn (J := Int → World → Prop) (fun J10 =>
    ix p0 1 s1.2 fun a11 =>
    ldL a11 w2 fun x13 =>
    ifB (decide ((IntKind.i64.wrap (s1.1 + (x13.len : Int))) < 0)) (
     False) (
     J10 (IntKind.i64.wrap (s1.1 + (x13.len : Int))) w2)) fun s15 w16 =>
   next3 (s15, (IntKind.i64.wrap (s1.2 + 1))) w16) (
   cR Try.prog 21 r21 #[Sl.v nilSl, .int .i64 s1.1] w2 fun x24 w25 =>
   LoopS (σ := Sl × Int) (fun next28 s26 w27 =>
    ifB (decide (s26.2 < (p0.len : Int))) (
     ix p0 1 s26.2 fun a34 =>
     ldL a34 w27 fun x36 =>
     app Try.prog 55 s26.1 x36 w27 fun x37 w38 =>
     next28 (x37, (IntKind.i64.wrap (s26.2 + 1))) w38) (
     K s26.1 w27)) (x24, 0) w25)) (0, 0) w
/-- slices.Clone[[]byte,byte] -/
def s17 (K : Sl → World → Prop) (p0 : Sl) (w : World) : Prop :=
 ifB (p0.a.isNone) (
  K nilSl w) (
  newB 5 [] w fun b2 w3 =>
  app Try.prog 33 ⟨some ⟨b2, 0, none⟩, 0, 0⟩ p0 w3 fun x4 w5 =>
  K x4 w5)
/-- dowser/dowserref05.At -/
def s18 (K : Int → World → Prop) (p0 : List Value) (p1 : Int) (w : World) : Prop :=
 newB 31 p0 w fun b1 w2 =>
 LoopS (σ := Int) (fun next5 s3 w4 =>
  ldL (Addr.add ⟨b1, 0, none⟩ 0) w4 fun x9 =>
  ifB (decide (s3 < (x9.len : Int))) (
   ldL (Addr.add ⟨b1, 0, none⟩ 0) w4 fun x11 =>
   ix x11 3 s3 fun a12 =>
   ldI .i64 (Addr.add a12 0) w4 fun x14 =>
   ifB (decide (x14 = p1)) (
    K s3 w4) (
    next5 (IntKind.i64.wrap (s3 + 1)) w4)) (
   K (-1) w4)) 0 w2
/-- dowser/dowserref05.with -/
def s19 (K : List Value → World → Prop) (p0 : List Value) (p1 : Int) (p2 : List Value) (w : World) : Prop :=
 newB 31 p0 w fun b1 w2 =>
 newB 52 p2 w2 fun b3 w4 =>
 newB 31 [Value.slice none 0 0, Value.int .i64 0, Value.int .i64 0, Value.int .i64 0] w4 fun b5 w6 =>
 newB 52 [] w6 fun b7 w8 =>
 ldL (Addr.add ⟨b1, 0, none⟩ 0) w8 fun x9 =>
 app Try.prog 29 ⟨some ⟨b7, 0, none⟩, 0, 0⟩ x9 w8 fun x10 w11 =>
 ldA 3 ⟨b3, 0, none⟩ w11 fun x12 =>
 ix x10 3 p1 fun a13 =>
 stA 3 a13 x12 w11 fun w15 =>
 st1 (Addr.add ⟨b1, 0, none⟩ 0) (Sl.v x10) w15 fun w16 =>
 ldA 4 ⟨b1, 0, none⟩ w16 fun x17 =>
 stA 4 ⟨b5, 0, none⟩ x17 w16 fun w18 =>
 ldA 4 ⟨b5, 0, none⟩ w18 fun x19 =>
 K x19 w18
/-- (*dowser/pool.Pool).place -/
def s20 (K : Int → World → Prop) (p0 : Option Addr) (w : World) : Prop :=
 nn p0 fun a1 =>
 ldL (Addr.add a1 0) w fun x3 =>
 cR Try.prog 22 r22 #[Sl.v x3, fnv 23] w fun x4 w5 =>
 ifB (decide (0 ≤ x4)) (
  K x4 w5) (
  LoopS (σ := Unit) (fun next9 s7 w8 =>
   nn p0 fun a11 =>
   ldI .i64 (Addr.add a11 1) w8 fun x13 =>
   nn p0 fun a14 =>
   ldL (Addr.add a14 0) w8 fun x16 =>
   rq ((x16.len : Int) ≠ 0) <|
   nn p0 fun a17 =>
   st1 (Addr.add a17 1) (.int .i64 (Int.tmod (IntKind.i64.wrap (x13 + 1)) (x16.len : Int))) w8 fun w19 =>
   nn p0 fun a20 =>
   ldL (Addr.add a20 0) w19 fun x22 =>
   ix x22 3 x13 fun a23 =>
   ldB (Addr.add a23 1) w19 fun x25 =>
   ifB (!x25) (
    K x13 w19) (
    nn p0 fun a27 =>
    ldL (Addr.add a27 0) w19 fun x29 =>
    ix x29 3 x13 fun a30 =>
    st1 (Addr.add a30 1) (.bool false) w19 fun w32 =>
    next9 () w32)) () w5)
/-- slices.Grow[[]dowser/pool.frame,dowser/pool.frame] -/
def s21 (K : Sl → World → Prop) (p0 : Sl) (p1 : Int) (w : World) : Prop :=
 jn (J := Unit → World → Prop) (fun J1 =>
  ifB (decide (p1 < 0)) (
   False) (
   J1 () w)) fun s3 w4 =>
 jn (J := Sl → World → Prop) (fun J7 =>
  ifB (decide (0 < (IntKind.i64.wrap (p1 - (IntKind.i64.wrap ((p0.cap : Int) - (p0.len : Int))))))) (
   rq ((0 : Int) ≤ 0 ∧ (0 : Int) ≤ (p0.cap : Int) ∧ ((p0.cap : Int) : Int) ≤ (p0.cap : Int)) <|
   appV Try.prog #[55, 3] 55 #[Sl.v (p0.cut 3 0 (p0.cap : Int) p0.cap), .int .i64 (IntKind.i64.wrap (p1 - (IntKind.i64.wrap ((p0.cap : Int) - (p0.len : Int)))))] w4 fun x9 w10 =>
   rq ((0 : Int) ≤ 0 ∧ (0 : Int) ≤ (p0.len : Int) ∧ ((p0.len : Int) : Int) ≤ (x9.cap : Int)) <|
   J7 (x9.cut 3 0 (p0.len : Int) x9.cap) w10) (
   J7 p0 w4)) fun s11 w12 =>
 K s11 w12
/-- slices.IndexFunc[[]dowser/pool.frame,dowser/pool.frame] -/
def s22 (K : Int → World → Prop) (p0 : Sl) (p1 : Nat) (w : World) : Prop :=
 LoopS (σ := Int) (fun next3 s1 w2 =>
  ifB (decide (s1 < (p0.len : Int))) (
   ix p0 3 s1 fun a9 =>
   ldA 3 a9 w2 fun x11 =>
   cF Try.prog p1 (fun (x : Bool) => .bool x) #[aggv x11] w2 fun x12 w13 =>
   ifB x12 (
    K s1 w13) (
    next3 (IntKind.i64.wrap (s1 + 1)) w13)) (
   K (-1) w2)) 0 w
/-- (*dowser/pool.Pool).place$1 -/
def s23 (K : Bool → World → Prop) (p0 : List Value) (w : World) : Prop :=
 newB 60 p0 w fun b1 w2 =>
 ldI .i64 (Addr.add ⟨b1, 0, none⟩ 0) w2 fun x3 =>
 K (decide (x3 < 0)) w2
end Go.Proofs.Ytijopkmclcbehaa
end
section
/- The typed readings of the functions, and that the program meets each: written by gen.py (a program of this session). -/
namespace Go.Proofs.Ytijopkmclcbehaa
open Go.Lift
set_option maxRecDepth 100000 in
set_option maxHeartbeats 4000000 in
theorem s17_calls (K : Sl → World → Prop) (p0 : Sl) (w : World) (h : s17 K p0 w) :
  Calls Try.prog 17 #[Sl.v p0] w (Ret r17 K) := by
 unfold s17 at h
 refine calls_of_CW (n := 8) Try.func17 rfl rfl rfl ?_
 refine CW.seq ?_
 refine CW.region ?_
 refine RL.opS trivial rfl (OpW.assign (v := Sl.v nilSl) rfl ?_)
 refine RL.nil ?_
 refine CW.seq ?_
 refine CW.seq ?_
 refine CW.region ?_
 refine RL.opS trivial rfl (OpW.move (v := Sl.v p0) rfl ?_)
 refine RL.opS trivial rfl (OpW.slNil (b := p0.a.isNone) (s := p0) slice_33 rfl rfl rfl ?_)
 refine RL.nil ?_
 obtain ⟨ha, hc⟩ := h
 refine CW.cond (b := (p0.a.isNone)) rfl (fun hb1 => ?_) (fun hb1 => ?_)
 ·have h := ha hb1; clear ha hc
  refine CW.seq ?_
  refine CW.region ?_
  refine RL.opS trivial rfl (OpW.assign (v := Sl.v nilSl) rfl ?_)
  refine RL.nil ?_
  refine CW.ret ?_
  exact ret_intro (res1 rfl rfl) ⟨nilSl, rfl, h⟩
 ·have h := hc hb1; clear ha hc
  refine CW.skip ?_
  refine CW.seq ?_
  refine CW.region ?_
  obtain ⟨b2, hb2_⟩ : ∃ b_, b_ = w.heap.size := ⟨_, rfl⟩
  obtain ⟨w3, hw3_⟩ : ∃ w_, w_ = w.alloc (.cells (List.toArray []) 5) := ⟨_, rfl⟩
  have h := h b2 w3 hb2_ hw3_
  refine RL.opS trivial rfl (OpW.buildSliceE (vs := []) (cs := []) (by rfl) (by kernel_rfl) hb2_ hw3_ ?_)
  refine RL.opS trivial rfl (OpW.move (v := Sl.v p0) rfl ?_)
  obtain ⟨x4, w5, hr_, h⟩ := h
  refine RL.opS trivial rfl (OpW.appendL (v := Sl.v x4) rfl hr_ ?_)
  refine RL.opS trivial rfl (OpW.assign (v := Sl.v x4) rfl ?_)
  refine RL.nil ?_
  refine CW.ret ?_
  exact ret_intro (res1 rfl rfl) ⟨x4, rfl, h⟩
end Go.Proofs.Ytijopkmclcbehaa
end
section
/- The typed readings of the functions, and that the program meets each: written by gen.py (a program of this session). -/
namespace Go.Proofs.Ytijopkmclcbehaa
open Go.Lift
set_option maxRecDepth 100000 in
set_option maxHeartbeats 4000000 in
theorem s20_calls (K : Int → World → Prop) (p0 : Option Addr) (w : World) (h : s20 K p0 w) :
  Calls Try.prog 20 #[.pointer p0] w (Ret r20 K) := by
 unfold s20 at h
 refine calls_of_CW (n := 45) Try.func20 rfl rfl rfl ?_
 refine CW.seq ?_
 refine CW.region ?_
 refine RL.opS trivial rfl (OpW.assign (v := .int .i64 0) rfl ?_)
 refine RL.nil ?_
 refine CW.seq ?_
 refine CW.seq ?_
 refine CW.region ?_
 refine RL.opS trivial rfl (OpW.move (v := .pointer p0) rfl ?_)
 obtain ⟨a1, ha2, h⟩ := h
 refine RL.opS trivial rfl (OpW.nilCheck (a := a1) (congrArg Value.pointer ha2) ?_)
 refine RL.opS trivial rfl (OpW.fieldAddr (off := 0) field_57_0 rfl ?_)
 obtain ⟨x3, h1, h⟩ := h
 refine RL.opS trivial rfl (OpW.load1 (v := Sl.v x3) one_55 rfl h1 ?_)
 refine RL.opS trivial rfl (OpW.callR (al := [Sl.v x3, fnv 23]) Try.func22 fb_22 fn_22 rfl h (fun x4 w5 h => ?_))
 refine RL.opS trivial rfl (OpW.assign (v := .int .i64 x4) rfl ?_)
 refine RL.nil ?_
 refine CW.seq ?_
 refine CW.region ?_
 refine RL.opS trivial rfl (OpW.move (v := .int .i64 x4) rfl ?_)
 refine RL.opS trivial rfl (OpW.bin (k := .i64) (a := x4) (b := 0) (v := .bool (decide (0 ≤ x4))) rfl rfl rfl ?_)
 refine RL.nil ?_
 obtain ⟨ha, hc⟩ := h
 refine CW.cond (b := (decide (0 ≤ x4))) rfl (fun hb6 => ?_) (fun hb6 => ?_)
 ·have h := ha hb6; clear ha hc
  refine CW.seq ?_
  refine CW.region ?_
  refine RL.opS trivial rfl (OpW.move (v := .int .i64 x4) rfl ?_)
  refine RL.opS trivial rfl (OpW.assign (v := .int .i64 x4) rfl ?_)
  refine RL.nil ?_
  refine CW.ret ?_
  exact ret_intro (res1 rfl rfl) ⟨x4, rfl, h⟩
 ·have h := hc hb6; clear ha hc
  refine CW.skip ?_
  refine CW.block ?_
  obtain ⟨I33, mu34, hI, hs⟩ := h
  refine CW.loop (σ := Unit) (fun s7 ρ => ρ 0 = .pointer p0) I33 mu34 () rfl hI ?_
  rintro s7 ρ w8 e10 hI
  have h := hs s7 w8 hI
  clear hs hI
  refine CW.block ?_
  refine CW.seq ?_
  refine CW.region ?_
  refine RL.opS trivial rfl (OpW.move (v := .pointer p0) e10 ?_)
  obtain ⟨a11, ha12, h⟩ := h
  refine RL.opS trivial rfl (OpW.nilCheck (a := a11) (congrArg Value.pointer ha12) ?_)
  refine RL.opS trivial rfl (OpW.fieldAddr field_57_1 rfl ?_)
  obtain ⟨x13, h1, h⟩ := h
  refine RL.opS trivial rfl (OpW.load1 (v := .int .i64 x13) one_3 rfl h1 ?_)
  refine RL.opS trivial rfl (OpW.assign (v := .int .i64 x13) rfl ?_)
  refine RL.nil ?_
  refine CW.seq ?_
  refine CW.region ?_
  refine RL.opS trivial rfl (OpW.move (v := .pointer p0) e10 ?_)
  refine RL.opS trivial rfl (OpW.move (v := .int .i64 x13) rfl ?_)
  refine RL.opS trivial rfl (OpW.bin (k := .i64) (a := x13) (b := 1) (v := .int .i64 (IntKind.i64.wrap (x13 + 1))) rfl rfl rfl ?_)
  refine RL.opS trivial rfl (OpW.move (v := .pointer p0) e10 ?_)
  obtain ⟨a14, ha15, h⟩ := h
  refine RL.opS trivial rfl (OpW.nilCheck (a := a14) (congrArg Value.pointer ha15) ?_)
  refine RL.opS trivial rfl (OpW.fieldAddr (off := 0) field_57_0 rfl ?_)
  obtain ⟨x16, h1, h⟩ := h
  refine RL.opS trivial rfl (OpW.load1 (v := Sl.v x16) one_55 rfl h1 ?_)
  refine RL.opS trivial rfl (OpW.len (s := x16) slice_55 rfl ?_)
  obtain ⟨hq_, h⟩ := h
  refine RL.opS trivial rfl (OpW.quo (a := (IntKind.i64.wrap (x13 + 1))) (b := (x16.len : Int)) (v := .int .i64 (Int.tmod (IntKind.i64.wrap (x13 + 1)) (x16.len : Int))) rfl rfl hq_ rfl ?_)
  obtain ⟨a17, ha18, h⟩ := h
  refine RL.opS trivial rfl (OpW.nilCheck (a := a17) (congrArg Value.pointer ha18) ?_)
  refine RL.opS trivial rfl (OpW.fieldAddr field_57_1 rfl ?_)
  obtain ⟨u_, h1, h2, h⟩ := h
  obtain ⟨w19, hw19_⟩ : ∃ w_, w_ = w8.setCell (Addr.add a17 1) (.int .i64 (Int.tmod (IntKind.i64.wrap (x13 + 1)) (x16.len : Int))) := ⟨_, rfl⟩
  have h := h w19 hw19_
  refine RL.opN trivial (OpW.store1E (v := .int .i64 (Int.tmod (IntKind.i64.wrap (x13 + 1)) (x16.len : Int))) size_3 rfl rfl rfl h1 h2 hw19_ ?_)
  refine RL.nil ?_
  refine CW.seq ?_
  refine CW.seq ?_
  refine CW.region ?_
  refine RL.opS trivial rfl (OpW.move (v := .pointer p0) e10 ?_)
  obtain ⟨a20, ha21, h⟩ := h
  refine RL.opS trivial rfl (OpW.nilCheck (a := a20) (congrArg Value.pointer ha21) ?_)
  refine RL.opS trivial rfl (OpW.fieldAddr (off := 0) field_57_0 rfl ?_)
  obtain ⟨x22, h1, h⟩ := h
  refine RL.opS trivial rfl (OpW.load1 (v := Sl.v x22) one_55 rfl h1 ?_)
  refine RL.opS trivial rfl (OpW.move (v := .int .i64 x13) rfl ?_)
  obtain ⟨a23_, a23, h1, h2, h3, h4, h⟩ := h
  refine RL.opS trivial rfl (OpW.indexE (a' := a23) slice_55 rfl rfl h1 h2 h3 h4 ?_)
  refine RL.opS trivial rfl (OpW.fieldAddr field_60_1 rfl ?_)
  obtain ⟨x25, h1, h⟩ := h
  refine RL.opS trivial rfl (OpW.load1 (v := .bool x25) one_4 rfl h1 ?_)
  refine RL.opS trivial rfl (OpW.not rfl ?_)
  refine RL.nil ?_
  obtain ⟨ha, hc⟩ := h
  refine CW.cond (b := (!x25)) rfl (fun hb26 => ?_) (fun hb26 => ?_)
  ·have h := ha hb26; clear ha hc
   refine CW.seq ?_
   refine CW.region ?_
   refine RL.opS trivial rfl (OpW.move (v := .int .i64 x13) rfl ?_)
   refine RL.opS trivial rfl (OpW.assign (v := .int .i64 x13) rfl ?_)
   refine RL.nil ?_
   refine CW.ret ?_
   exact ret_intro (res1 rfl rfl) ⟨x13, rfl, h⟩
  ·have h := hc hb26; clear ha hc
   refine CW.skip ?_
   refine CW.region ?_
   refine RL.opS trivial rfl (OpW.move (v := .pointer p0) e10 ?_)
   obtain ⟨a27, ha28, h⟩ := h
   refine RL.opS trivial rfl (OpW.nilCheck (a := a27) (congrArg Value.pointer ha28) ?_)
   refine RL.opS trivial rfl (OpW.fieldAddr (off := 0) field_57_0 rfl ?_)
   obtain ⟨x29, h1, h⟩ := h
   refine RL.opS trivial rfl (OpW.load1 (v := Sl.v x29) one_55 rfl h1 ?_)
   refine RL.opS trivial rfl (OpW.move (v := .int .i64 x13) rfl ?_)
   obtain ⟨a30_, a30, h1, h2, h3, h4, h⟩ := h
   refine RL.opS trivial rfl (OpW.indexE (a' := a30) slice_55 rfl rfl h1 h2 h3 h4 ?_)
   refine RL.opS trivial rfl (OpW.fieldAddr field_60_1 rfl ?_)
   obtain ⟨u_, h1, h2, h⟩ := h
   obtain ⟨w32, hw32_⟩ : ∃ w_, w_ = w19.setCell (Addr.add a30 1) (.bool false) := ⟨_, rfl⟩
   have h := h w32 hw32_
   refine RL.opN trivial (OpW.store1E (v := .bool false) size_4 rfl rfl rfl h1 h2 hw32_ ?_)
   refine RL.nil ?_
   exact ⟨(), e10, h⟩
end Go.Proofs.Ytijopkmclcbehaa
end
section
/- The typed readings of the functions, and that the program meets each: written by gen.py (a program of this session). -/
namespace Go.Proofs.Ytijopkmclcbehaa
open Go.Lift
set_option maxRecDepth 100000 in
set_option maxHeartbeats 4000000 in
theorem s22_calls (K : Int → World → Prop) (p0 : Sl) (p1 : Nat) (w : World) (h : s22 K p0 p1 w) :
  Calls Try.prog 22 #[Sl.v p0, fnv p1] w (Ret r22 K) := by
 unfold s22 at h
 refine calls_of_CW (n := 19) Try.func22 rfl rfl rfl ?_
 refine CW.seq ?_
 refine CW.region ?_
 refine RL.opS trivial rfl (OpW.assign (v := .int .i64 0) rfl ?_)
 refine RL.nil ?_
 refine CW.seq ?_
 refine CW.seq ?_
 refine CW.region ?_
 refine RL.opS trivial rfl (OpW.move (v := Sl.v p0) rfl ?_)
 refine RL.opS trivial rfl (OpW.len (s := p0) slice_55 rfl ?_)
 refine RL.opS trivial rfl (OpW.move (v := .int .i64 0) rfl ?_)
 refine RL.nil ?_
 refine CW.block ?_
 obtain ⟨I15, mu16, hI, hs⟩ := h
 refine CW.loop (σ := Int) (fun s1 ρ => ρ 8 = .int .i64 s1 ∧ ρ 0 = Sl.v p0 ∧ ρ 1 = fnv p1 ∧ ρ 7 = .int .i64 (p0.len : Int)) I15 mu16 0 ⟨rfl, rfl, rfl, rfl⟩ hI ?_
 rintro s1 ρ w2 ⟨e4, e5, e6, e7⟩ hI
 have h := hs s1 w2 hI
 clear hs hI
 refine CW.seq ?_
 refine CW.region ?_
 refine RL.opS trivial rfl (OpW.bin (k := .i64) (a := s1) (b := (p0.len : Int)) (v := .bool (decide (s1 < (p0.len : Int)))) e4 e7 rfl ?_)
 refine RL.nil ?_
 refine CW.seq ?_
 obtain ⟨ha, hc⟩ := h
 refine CW.cond (b := (decide (s1 < (p0.len : Int)))) rfl (fun hb8 => ?_) (fun hb8 => ?_)
 ·have h := ha hb8; clear ha hc
  refine CW.skip ?_
  refine CW.seq ?_
  refine CW.block ?_
  refine CW.seq ?_
  refine CW.region ?_
  refine RL.opS trivial rfl (OpW.move (v := .int .i64 s1) e4 ?_)
  refine RL.opS trivial rfl (OpW.assign (v := .int .i64 s1) rfl ?_)
  refine RL.nil ?_
  refine CW.seq ?_
  refine CW.region ?_
  refine RL.opS trivial rfl (OpW.move (v := fnv p1) e6 ?_)
  refine RL.opS trivial rfl (OpW.move (v := Sl.v p0) e5 ?_)
  refine RL.opS trivial rfl (OpW.move (v := .int .i64 s1) rfl ?_)
  obtain ⟨a9_, a9, h1, h2, h3, h4, h⟩ := h
  refine RL.opS trivial rfl (OpW.indexE (a' := a9) slice_55 rfl rfl h1 h2 h3 h4 ?_)
  obtain ⟨x11, h1, h2, h⟩ := h
  refine RL.opS trivial rfl (OpW.loadA agg_60 rfl h1 h2 ?_)
  refine RL.opS trivial rfl (OpW.callF (al := [aggv x11]) rfl rfl h (fun x12 w13 h => ?_))
  refine RL.nil ?_
  obtain ⟨ha, hc⟩ := h
  refine CW.cond (b := x12) rfl (fun hb14 => ?_) (fun hb14 => ?_)
  ·have h := ha hb14; clear ha hc
   refine CW.seq ?_
   refine CW.region ?_
   refine RL.opS trivial rfl (OpW.move (v := .int .i64 s1) rfl ?_)
   refine RL.opS trivial rfl (OpW.assign (v := .int .i64 s1) rfl ?_)
   refine RL.nil ?_
   refine CW.ret ?_
   exact ret_intro (res1 rfl rfl) ⟨s1, rfl, h⟩
  ·have h := hc hb14; clear ha hc
   refine CW.skip ?_
   refine CW.region ?_
   refine RL.opS trivial rfl (OpW.bin (k := .i64) (a := s1) (b := 1) (v := .int .i64 (IntKind.i64.wrap (s1 + 1))) e4 rfl rfl ?_)
   refine RL.opS trivial rfl (OpW.move (v := .int .i64 (IntKind.i64.wrap (s1 + 1))) rfl ?_)
   refine RL.nil ?_
   exact ⟨(IntKind.i64.wrap (s1 + 1)), ⟨rfl, e5, e6, e7⟩, h⟩
 ·have h := hc hb8; clear ha hc
  refine CW.exit ?_
  refine CW.seq ?_
  refine CW.region ?_
  refine RL.opS trivial rfl (OpW.assign (v := .int .i64 (-1)) rfl ?_)
  refine RL.nil ?_
  refine CW.ret ?_
  exact ret_intro (res1 rfl rfl) ⟨(-1), rfl, h⟩
end Go.Proofs.Ytijopkmclcbehaa
end
section
/- The typed readings of the functions, and that the program meets each: written by gen.py (a program of this session). -/
namespace Go.Proofs.Ytijopkmclcbehaa
open Go.Lift
set_option maxRecDepth 100000 in
set_option maxHeartbeats 4000000 in
theorem s23_calls (K : Bool → World → Prop) (p0 : List Value) (w : World) (h : s23 K p0 w) :
  Calls Try.prog 23 #[aggv p0] w (Ret r23 K) := by
 unfold s23 at h
 refine calls_of_CW (n := 6) Try.func23 rfl rfl rfl ?_
 refine CW.seq ?_
 refine CW.region ?_
 obtain ⟨b1, hb1_⟩ : ∃ b_, b_ = w.heap.size := ⟨_, rfl⟩
 obtain ⟨w2, hw2_⟩ : ∃ w_, w_ = w.alloc (.cells (List.toArray p0) 60) := ⟨_, rfl⟩
 have h := h b1 w2 hb1_ hw2_
 refine RL.opS trivial rfl (OpW.boxE (cs := p0) (rfl) hb1_ hw2_ ?_)
 refine RL.opS trivial rfl (OpW.assign (v := .bool false) rfl ?_)
 refine RL.nil ?_
 refine CW.seq ?_
 refine CW.region ?_
 refine RL.opS trivial rfl (OpW.fieldAddr (off := 0) field_60_0 rfl ?_)
 obtain ⟨x3, h1, h⟩ := h
 refine RL.opS trivial rfl (OpW.load1 (v := .int .i64 x3) one_3 rfl h1 ?_)
 refine RL.opS trivial rfl (OpW.bin (k := .i64) (a := x3) (b := 0) (v := .bool (decide (x3 < 0))) rfl rfl rfl ?_)
 refine RL.opS trivial rfl (OpW.assign (v := .bool (decide (x3 < 0))) rfl ?_)
 refine RL.nil ?_
 refine CW.ret ?_
 exact ret_intro (res1 rfl rfl) ⟨(decide (x3 < 0)), rfl, h⟩
end Go.Proofs.Ytijopkmclcbehaa
end
section
/- The pool in memory; a copy of bytes; which frame a new page takes. -/
namespace Go.Proofs.Ytijopkmclcbehaa
open Go.Lift Go.Lift.Pool Go.RowKit
theorem u8s_len (bs : List UInt8) : (u8s bs).length = bs.length := u8s_length bs
theorem flatMap_at {α : Type} {n : Nat} (g : α → List Value) (hg : ∀ a, (g a).length = n) : ∀ (l : List α) (k : Nat) (hk : k < l.length), ((l.flatMap g).drop (k * n)).take n = g l[k]
 | a :: l, 0, _ => by
  rw [Nat.zero_mul, List.drop_zero, List.flatMap_cons, List.take_left' (hg a)]
  rfl
 | a :: l, k + 1, hk => by
  have := flatMap_at g hg l k (by simpa using hk)
  rw [List.getElem_cons_succ, ← this, List.flatMap_cons, Nat.succ_mul, Nat.add_comm, ← List.drop_drop, List.drop_left' (hg a)]
theorem flatMap_len {α : Type} {n : Nat} (g : α → List Value) (hg : ∀ a, (g a).length = n) : ∀ l : List α, (l.flatMap g).length = l.length * n
 | [] => by simp
 | a :: l => by rw [List.flatMap_cons, List.length_append, hg, flatMap_len g hg l, List.length_cons, Nat.succ_mul, Nat.add_comm]
theorem flatMap_get {α : Type} {n : Nat} (g : α → List Value) (hg : ∀ a, (g a).length = n) (l : List α) (k j : Nat) (hk : k < l.length) (hj : j < n) (rest : List Value) : (l.flatMap g ++ rest)[k * n + j]? = (g l[k])[j]? := by
 have h1 : k * n + j < (l.flatMap g).length := by
  rw [flatMap_len g hg]
  have : (k + 1) * n ≤ l.length * n := Nat.mul_le_mul_right n hk
  rw [Nat.succ_mul] at this
  omega
 rw [List.getElem?_append_left h1, ← flatMap_at g hg l k hk, List.getElem?_take_of_lt hj, List.getElem?_drop]
theorem flatMap_splice {α : Type} {n : Nat} (g : α → List Value) (hg : ∀ a, (g a).length = n) (rest : List Value) (q : α) : ∀ (l : List α) (k : Nat) (hk : k < l.length), splice (l.flatMap g ++ rest) (k * n) (g q) = (l.set k q).flatMap g ++ rest
 | a :: l, 0, _ => by
  unfold splice
  rw [Nat.zero_mul, List.take_zero, List.nil_append, Nat.zero_add, hg q, List.flatMap_cons, List.append_assoc, List.drop_left' (hg a), List.set_cons_zero, List.flatMap_cons, List.append_assoc]
 | a :: l, k + 1, hk => by
  have ih := flatMap_splice g hg rest q l k (by simpa using hk)
  rw [List.set_cons_succ, List.flatMap_cons, List.flatMap_cons, List.append_assoc, List.append_assoc, ← ih]
  unfold splice
  have e : (k + 1) * n = (g a).length + k * n := by rw [hg, Nat.succ_mul, Nat.add_comm]
  rw [e, List.take_length_add_append, Nat.add_assoc, List.drop_length_add_append]
  simp only [List.append_assoc]
abbrev FS := Fm × Sl
def fsC (q : FS) : List Value := [.int .i64 q.1.page, .bool q.1.mark, q.2.v]
theorem fsC_len (q : FS) : (fsC q).length = 3 := rfl
theorem fsC_one (q : FS) : ∀ v ∈ fsC q, v.oneCell' = true := by
 intro v hv
 simp only [fsC, List.mem_cons, List.not_mem_nil, or_false] at hv
 rcases hv with rfl | rfl | rfl <;> rfl
def setMark (q : FS) (b : Bool) : FS := ({ q.1 with mark := b }, q.2)
theorem flat_mark (rest : List Value) (b : Bool) : ∀ (L : List FS) (i : Nat) (hi : i < L.length), (L.flatMap fsC ++ rest).set (i * 3 + 1) (.bool b) = (L.set i (setMark L[i] b)).flatMap fsC ++ rest
 | q :: L, 0, _ => rfl
 | q :: L, i + 1, hi => by
  have ih := flat_mark rest b L i (by simpa using hi)
  rw [List.getElem_cons_succ, List.set_cons_succ, List.flatMap_cons, List.flatMap_cons, List.append_assoc, List.append_assoc, ← ih, List.set_append_right _ _ (by rw [fsC_len]; omega), fsC_len]
  congr 2
  omega
def Foot (pb g r : Nat) : Nat → Prop := fun k => k = pb ∨ k = g ∨ k = r
def Txt (w : World) (B : Nat → Prop) (pb g r : Nat) (q : FS) : Prop := Bytes w q.2 q.1.bs ∧ ∀ a, q.2.a = some a → B a.block ∧ a.block < w.heap.size ∧ ¬ Foot pb g r a.block
abbrev pc (g r cap : Nat) (P : Pl) : List Value := [(⟨some ⟨g, 0, none⟩, P.fr.length, cap⟩ : Sl).v, .int .i64 (P.hand : Int), .map (some r), .int .i64 (P.hits : Int), .int .i64 (P.misses : Int)]
structure PX (w : World) (B : Nat → Prop) (pb g r cap : Nat) (rest : List Value) (L : List FS) (kv : KV) (P : Pl) : Prop where
 wf : P.Wf
 fr : L.map (·.1) = P.fr
 hp : B pb
 hg : B g
 hr : B r
 n1 : pb ≠ g
 n2 : pb ≠ r
 n3 : g ≠ r
 hcap : P.fr.length ≤ cap
 pool : Blk w pb 57 (pc g r cap P)
 rows : Blk w g 60 (L.flatMap fsC ++ rest)
 map : MapAt w r kv
 agree : Agree kv (P.fr.map (·.page))
 txt : ∀ q ∈ L, Txt w B pb g r q
def PAt (w : World) (B : Nat → Prop) (pb g r : Nat) (P : Pl) : Prop := ∃ cap rest L kv, PX w B pb g r cap rest L kv P
abbrev pp (pb : Nat) : Option Addr := some ⟨pb, 0, none⟩

theorem Txt.fr {w w' : World} {B B' : Nat → Prop} {pb g r : Nat} {q : FS} {X : Nat → Prop} (h : Txt w B pb g r q) (hf : Fr X w w') (hX : ∀ k, B k → ¬ Foot pb g r k → ¬ X k) (hB : ∀ k, k < w.heap.size → B k → B' k) : Txt w' B' pb g r q :=
 ⟨hf.bytes (fun a ha => hX _ (h.2 a ha).1 (h.2 a ha).2.2) h.1, fun a ha => ⟨hB _ (h.2 a ha).2.1 (h.2 a ha).1, Nat.lt_of_lt_of_le (h.2 a ha).2.1 hf.size, (h.2 a ha).2.2⟩⟩
section
variable {w w' : World} {B B' : Nat → Prop} {pb g r cap : Nat} {rest : List Value} {L : List FS} {kv : KV} {P : Pl}
theorem PX.fr' {X : Nat → Prop} (h : PX w B pb g r cap rest L kv P) (hf : Fr X w w') (hX : ∀ k, B k → ¬ X k) (hB : ∀ k, k < w.heap.size → B k → B' k) : PX w' B' pb g r cap rest L kv P :=
 ⟨h.wf, h.fr, hB _ h.pool.lt h.hp, hB _ h.rows.lt h.hg, hB _ h.map.lt h.hr, h.n1, h.n2, h.n3, h.hcap, h.pool.fr hf (hX _ h.hp), h.rows.fr hf (hX _ h.hg), h.map.fr hf (hX _ h.hr), h.agree, fun q hq => (h.txt q hq).fr hf (fun k hk _ => hX k hk) hB⟩
theorem PX.ext (h : PX w B pb g r cap rest L kv P) (hf : Ext w w') : PX w' B pb g r cap rest L kv P := h.fr' (X := fun _ => False) (Fr.of hf) (fun _ _ h => h) fun _ _ h => h
theorem PX.mono (h : PX w B pb g r cap rest L kv P) (hB : ∀ k, k < w.heap.size → B k → B' k) : PX w B' pb g r cap rest L kv P := h.fr' (X := fun _ => False) (Fr.refl w) (fun _ _ h => h) hB
theorem PAt.fr' {X : Nat → Prop} (h : PAt w B pb g r P) (hf : Fr X w w') (hX : ∀ k, B k → ¬ X k) (hB : ∀ k, k < w.heap.size → B k → B' k) : PAt w' B' pb g r P := by
 obtain ⟨c, rest, L, kv, h⟩ := h
 exact ⟨c, rest, L, kv, h.fr' hf hX hB⟩
theorem PAt.ext (h : PAt w B pb g r P) (hf : Ext w w') : PAt w' B pb g r P := h.fr' (X := fun _ => False) (Fr.of hf) (fun _ _ h => h) fun _ _ h => h
theorem PAt.mono (h : PAt w B pb g r P) (hB : ∀ k, k < w.heap.size → B k → B' k) : PAt w B' pb g r P := h.fr' (X := fun _ => False) (Fr.refl w) (fun _ _ h => h) hB
theorem PAt.wf (h : PAt w B pb g r P) : P.Wf := by obtain ⟨c, rest, L, kv, h⟩ := h; exact h.wf
theorem PAt.lt (h : PAt w B pb g r P) : (B pb ∧ B g ∧ B r) ∧ pb < w.heap.size ∧ g < w.heap.size ∧ r < w.heap.size := by obtain ⟨c, rest, L, kv, h⟩ := h; exact ⟨⟨h.hp, h.hg, h.hr⟩, h.pool.lt, h.rows.lt, h.map.lt⟩
theorem PX.len (h : PX w B pb g r cap rest L kv P) : L.length = P.fr.length := by rw [← h.fr, List.length_map]
theorem PX.fst (h : PX w B pb g r cap rest L kv P) {i : Nat} (hi : i < L.length) : (L[i]).1 = fAt P.fr i := by
 rw [fAt_lt (by rw [← h.len]; exact hi)]
 simp [← h.fr]
theorem PX.upd (h : PX w B pb g r cap rest L kv P) {P' : Pl} {L' : List FS} {kv' : KV} (hf : Fr (Foot pb g r) w w') (hB : ∀ k, k < w.heap.size → B k → B' k) (hpool : Blk w' pb 57 (pc g r cap P')) (hrows : Blk w' g 60 (L'.flatMap fsC ++ rest)) (hmap : MapAt w' r kv')
  (hwf : P'.Wf) (hfr : L'.map (·.1) = P'.fr) (hlen : P'.fr.length = P.fr.length) (hag : Agree kv' (P'.fr.map (·.page))) (htx : ∀ q ∈ L', (∃ q0 ∈ L, q.2 = q0.2 ∧ q.1.bs = q0.1.bs) ∨ Txt w' B' pb g r q) : PX w' B' pb g r cap rest L' kv' P' :=
 ⟨hwf, hfr, hB _ h.pool.lt h.hp, hB _ h.rows.lt h.hg, hB _ h.map.lt h.hr, h.n1, h.n2, h.n3, by rw [hlen]; exact h.hcap, hpool, hrows, hmap, hag, fun q hq => by
  rcases htx q hq with ⟨q0, h0, h1, h2⟩ | ht
  ·have := (h.txt q0 h0).fr (B' := B') hf (fun k _ hk => hk) hB
   unfold Txt at this ⊢
   rw [h1, h2]
   exact this
  ·exact ht⟩
theorem foot_p : ∀ k, k < w.heap.size → k = pb → Foot pb g r k := fun _ _ h => .inl h
theorem foot_g : ∀ k, k < w.heap.size → k = g → Foot pb g r k := fun _ _ h => .inr (.inl h)
theorem foot_r : ∀ k, k < w.heap.size → k = r → Foot pb g r k := fun _ _ h => .inr (.inr h)
theorem map_fst_mark (L : List FS) (i : Nat) (hi : i < L.length) (b : Bool) : (L.set i (setMark L[i] b)).map (·.1) = (L.map (·.1)).set i { (L[i]).1 with mark := b } := by rw [List.map_set]; rfl
theorem mem_setMark {L : List FS} {i : Nat} (hi : i < L.length) {b : Bool} {q : FS} (hq : q ∈ L.set i (setMark L[i] b)) : ∃ q0 ∈ L, q.2 = q0.2 ∧ q.1.bs = q0.1.bs := by
 rcases List.mem_or_eq_of_mem_set hq with hq | rfl
 ·exact ⟨q, hq, rfl, rfl⟩
 ·exact ⟨L[i], List.getElem_mem hi, rfl, rfl⟩
/-- a frame's cells -/
theorem PX.cell (h : PX w B pb g r cap rest L kv P) {i j : Nat} (hi : i < L.length) (hj : j < 3) {v : Value} (hv : (fsC L[i])[j]? = some v) : w.cell? ⟨g, i * 3 + j, none⟩ = some v :=
 h.rows.cell (by rw [flatMap_get fsC fsC_len L i j hi hj rest]; exact hv)
theorem PX.frame (h : PX w B pb g r cap rest L kv P) {i : Nat} (hi : i < L.length) : At w ⟨g, i * 3, none⟩ (fsC L[i]) := by
 intro j v hj
 rw [add_plain]
 have hjl : j < 3 := by have := (List.getElem?_eq_some_iff.1 hj).1; rwa [fsC_len] at this
 exact h.cell hi hjl hj
end

theorem mk_33 : mkCells Try.prog 33 = some (5, 1, 1, [Value.int .u8 0]) := by kernel_rfl
theorem clone_ok (w : World) (s : Sl) (bs : List UInt8) (hb : Bytes w s bs) (hl : bs.length ≤ 1000000) : Calls Try.prog 17 #[s.v] w (Ret r17 fun x w' => Bytes w' x bs ∧ Ext w w' ∧ ∀ a, x.a = some a → w.heap.size ≤ a.block ∧ a.block < w'.heap.size) := by
 apply s17_calls
 refine ⟨fun h => ?_, fun h => ?_⟩
 ·have hn := Option.isNone_iff_eq_none.1 h
  have h2 := hb.2
  rw [hn] at h2
  have : bs = [] := by
   have h3 : u8s bs = [] := h2
   simpa [u8s] using h3
  subst this
  exact ⟨⟨rfl, rfl⟩, Ext.refl w, fun a ha => by cases ha⟩
 ·intro b2 w3 hb2 hw3
  have hx3 : Ext w w3 := Ext.new hw3
  have h1 := hb.1
  refine app_ok (base := w.heap.size) mk_33 rfl (by decide) (Own.made (e := 5) (size := 1) (c := 0) hb2 hw3 (Nat.le_refl _) rfl (by simp [maxLen])) (news := u8s bs)
   (by rw [u8s_len, h1, Nat.mul_one]) (Ext.atO hx3 hb.2) (u8s_one bs) (by simp only [maxLen]; omega) (by simp only; omega) hx3.size ?_
  intro s' w4 hl' ho' _ hB'
  have hx4 : Ext w w4 := hB' _ _ hx3 (Nat.le_refl _) hx3.size
  rw [List.nil_append] at ho'
  refine ⟨ho'.bytes, hx4, fun a ha => ?_⟩
  rcases ho'.2 with ⟨h2, _⟩ | ⟨g, c, cur, h2, h3, h4, _⟩
  ·obtain ⟨sa, sl, sc⟩ := s'
   simp only [Value.slice.injEq] at h2
   simp only at ha
   rw [h2.1] at ha; cases ha
  ·obtain ⟨sa, sl, sc⟩ := s'
   simp only [Value.slice.injEq] at h2
   simp only at ha
   rw [h2.1] at ha
   cases ha
   exact ⟨h3, (Array.getElem?_eq_some_iff.1 h4).1⟩

/-! ### the first empty frame -/
theorem neg_ok (w : World) (q : FS) : Calls Try.prog 23 #[aggv (fsC q)] w (Ret r23 fun x w' => x = decide (q.1.page < 0) ∧ Ext w w') := by
 apply s23_calls
 intro b1 w2 hb1 hw2
 refine ⟨q.1.page, ?_, rfl, Ext.new hw2⟩
 rw [add_plain]
 exact (Blk.new hb1 hw2).cell rfl
theorem fb_23 : Try.f23.body.isNone = false := by kernel_rfl
theorem fn_23 : decide (Try.f23.name = "runtime.NumGoroutine") = false := by kernel_rfl
theorem idx_ok (w : World) (B : Nat → Prop) (pb g r cap : Nat) (rest : List Value) (L : List FS) (kv : KV) (P : Pl) (h : PX w B pb g r cap rest L kv P) :
  Calls Try.prog 22 #[(⟨some ⟨g, 0, none⟩, P.fr.length, cap⟩ : Sl).v, fnv 23] w (Ret r22 fun x w' => x = (match atF P.fr (-1) with | some i => (i : Int) | none => -1) ∧ Ext w w') := by
 apply s22_calls
 have hlen := h.len
 have hfew := h.wf.few
 refine ⟨fun st w' => Ext w w' ∧ ∃ k : Nat, k ≤ P.fr.length ∧ st = (k : Int) ∧ ∀ j, j < k → (fAt P.fr j).page ≠ -1, fun st _ => P.fr.length - st.toNat, ⟨Ext.refl w, 0, Nat.zero_le _, rfl, fun j hj => by omega⟩, ?_⟩
 rintro st w' ⟨hx, k, hk, rfl, hj⟩
 have h' := h.ext hx
 refine ⟨fun hlt => ?_, fun hge => ?_⟩
 ·have hlt : k < P.fr.length := by have := of_decide_eq_true hlt; have h2 : (k : Int) < (P.fr.length : Int) := this; omega
  have hlL : k < L.length := by omega
  have hpg := h.wf.page _ (fAt_mem hlt)
  refine ⟨⟨g, 0, none⟩, _, rfl, by omega, by show (k : Int) < (P.fr.length : Int); omega, rfl, fsC L[k], rfl, ?_, Try.f23, Try.func23, fb_23, fn_23, ?_⟩
  ·rw [add_plain, Nat.zero_add, Int.toNat_natCast]; exact h'.frame hlL
  refine cR_of (neg_ok w' L[k]) fun x w'' hh => ?_
  obtain ⟨rfl, hx2⟩ := hh
  rw [h.fst hlL]
  refine ⟨fun hneg => ?_, fun hpos => ?_⟩
  ·have hneg := of_decide_eq_true hneg
   have : (fAt P.fr k).page = -1 := by omega
   rw [atF_of hlt this hj]
   exact ⟨rfl, hx.trans hx2⟩
  ·have hpos := of_decide_eq_false hpos
   rw [w64_eq (by omega) (by omega)]
   refine ⟨⟨hx.trans hx2, k + 1, by omega, by omega, fun j hjk => ?_⟩, by simp only; omega⟩
   rcases Nat.lt_or_ge j k with hh | hh
   ·exact hj j hh
   ·obtain rfl : j = k := by omega
    omega
 ·have hge : k = P.fr.length := by have := of_decide_eq_false hge; have h2 : ¬ ((k : Int) < (P.fr.length : Int)) := this; omega
  subst hge
  rw [atF_of_none hj]
  exact ⟨rfl, hx⟩

/-! ### which frame goes -/
def isT : Value → Bool
 | .bool true => true
 | _ => false
theorem count_marks : ∀ L : List FS, (L.flatMap fsC).countP isT = marks (L.map (·.1))
 | [] => rfl
 | q :: L => by
  rw [List.flatMap_cons, List.countP_append, count_marks L]
  unfold marks
  rw [List.map_cons, List.countP_cons, Nat.add_comm]
  congr 1
  obtain ⟨⟨p, m, b⟩, s⟩ := q
  cases m <;> rfl
def mu (g : Nat) (w : World) : Nat := match w.heap[g]? with
 | some (.cells c _ _) => c.toList.countP isT
 | _ => 0
theorem mu_blk {w : World} {g : Nat} {cs : List Value} (h : Blk w g 60 cs) : mu g w = cs.countP isT := by
 have h' : w.heap[g]? = some (.cells cs.toArray 60 (0, 0)) := h
 unfold mu
 rw [h']
theorem place_ok (w : World) (B : Nat → Prop) (pb g r cap : Nat) (rest : List Value) (L : List FS) (kv : KV) (P : Pl) (h : PX w B pb g r cap rest L kv P) :
  Calls Try.prog 20 #[.pointer (pp pb)] w (Ret r20 fun x w' => x = ((P.place).2 : Int) ∧ (∃ L', PX w' B pb g r cap rest L' kv P.place.1) ∧ Fr (Foot pb g r) w w') := by
 apply s20_calls
 have hfew := h.wf.few
 refine ⟨_, rfl, ⟨some ⟨g, 0, none⟩, P.fr.length, cap⟩, ?_, ?_⟩
 ·rw [add_plain]; exact h.pool.cell rfl
 refine cR_of (idx_ok w B pb g r cap rest L kv P h) fun x w5 hh => ?_
 obtain ⟨rfl, hx5⟩ := hh
 have h5 := h.ext hx5
 unfold Pl.place
 cases ha : atF P.fr (-1) with
 | some i =>
  simp only
  exact ⟨fun _ => ⟨trivial, ⟨L, h5⟩, Fr.of hx5⟩, fun hf => absurd (of_decide_eq_false hf) (by omega)⟩
 | none =>
  simp only
  refine ⟨fun hf => absurd (of_decide_eq_true hf) (by omega), fun _ => ?_⟩
  refine ⟨fun _ w' => Fr (Foot pb g r) w w' ∧ ∃ (l : List Fm) (hd : Nat) (L' : List FS), PX w' B pb g r cap rest L' kv { P with fr := l, hand := hd } ∧ clk (marks l) l hd = clk (marks P.fr) P.fr P.hand ∧ l.length = P.fr.length, fun _ w' => mu g w', ⟨Fr.of hx5, P.fr, P.hand, L, h5, rfl, rfl⟩, ?_⟩
  rintro _ w8 ⟨hf8, l, hd, L', h8, hc, hl⟩
  have hwf := h8.wf
  have hhd : hd < l.length := hwf.hand
  have hlL : L'.length = l.length := h8.len
  have e1 : Int.tmod (IntKind.i64.wrap ((hd : Int) + 1)) (l.length : Int) = (((hd + 1) % l.length : Nat) : Int) := by
   rw [w64_eq (by omega) (by omega)]
   rw [show (hd : Int) + 1 = ((hd + 1 : Nat) : Int) by omega]
   rfl
  refine ⟨_, rfl, (hd : Int), by rw [add_plain]; exact h8.pool.cell rfl, _, rfl, ⟨some ⟨g, 0, none⟩, l.length, cap⟩, by rw [add_plain]; exact h8.pool.cell rfl, ⟨by show (l.length : Int) ≠ 0; omega, ?_⟩⟩
  refine ⟨_, rfl, ?_⟩
  show st1 _ _ _ _
  rw [add_plain]
  refine st1_blk h8.pool (by simp [pc]) fun w19 hp19 hf19 => ?_
  have hp19 : Blk w19 pb 57 (pc g r cap { P with fr := l, hand := (hd + 1) % l.length }) := by
   have e2 : (pc g r cap { P with fr := l, hand := hd }).set (0 + 1) (.int .i64 (Int.tmod (IntKind.i64.wrap ((hd : Int) + 1)) (l.length : Int))) = pc g r cap { P with fr := l, hand := (hd + 1) % l.length } := by rw [e1]; rfl
   rw [← e2]; exact hp19
  have hF19 : Fr (Foot pb g r) w8 w19 := hf19.mono foot_p
  have h19 : PX w19 B pb g r cap rest L' kv { P with fr := l, hand := (hd + 1) % l.length } :=
   h8.upd hF19 (fun _ _ h => h) hp19 (h8.rows.fr hf19 (Ne.symm h8.n1)) (h8.map.fr hf19 (Ne.symm h8.n2)) ⟨hwf.pos, hwf.few, Nat.mod_lt _ (by omega), hwf.page, hwf.bs⟩ h8.fr rfl h8.agree fun q hq => .inl ⟨q, hq, rfl, rfl⟩
  have hhL : hd < L'.length := by omega
  refine ⟨_, rfl, ⟨some ⟨g, 0, none⟩, l.length, cap⟩, by rw [add_plain]; exact h19.pool.cell rfl, ⟨g, 0, none⟩, _, rfl, by omega, by show (hd : Int) < (l.length : Int); omega, rfl, (fAt l hd).mark, ?_, ?_⟩
  ·rw [add_plain, add_plain, Nat.zero_add, Int.toNat_natCast]
   refine h19.cell hhL (by decide) ?_
   have := h8.fst hhL
   show some (Value.bool (L'[hd]).1.mark) = _
   rw [this]
  refine ⟨fun hm => ?_, fun hm => ?_⟩
  ·have hm : (fAt l hd).mark = false := by simpa using hm
   have e3 := clk_stop hm (marks l)
   rw [hc] at e3
   rw [e3]
   exact ⟨rfl, ⟨L', h19⟩, hf8.trans hF19⟩
  ·have hm : (fAt l hd).mark = true := by simpa using hm
   refine ⟨_, rfl, ⟨some ⟨g, 0, none⟩, l.length, cap⟩, by rw [add_plain]; exact h19.pool.cell rfl, ⟨g, 0, none⟩, _, rfl, by omega, by show (hd : Int) < (l.length : Int); omega, rfl, ?_⟩
   show st1 _ _ _ _
   rw [add_plain, add_plain, Nat.zero_add, Int.toNat_natCast]
   have hlr : hd * 3 + 1 < (L'.flatMap fsC ++ rest).length := by
    rw [List.length_append, flatMap_len fsC fsC_len]; omega
   refine st1_blk h19.rows hlr fun w32 hr32 hf32 => ?_
   rw [flat_mark rest false L' hd hhL] at hr32
   have hF32 : Fr (Foot pb g r) w19 w32 := hf32.mono foot_g
   have hmf := map_fst_mark L' hd hhL false
   have hfst : { (L'[hd]).1 with mark := false } = unmark (fAt l hd) := by rw [h8.fst hhL]; rfl
   rw [hfst, show L'.map (·.1) = l from h8.fr] at hmf
   have hpm : ((l.set hd (unmark (fAt l hd))).map (·.page)) = l.map (·.page) := by
    rw [List.map_set]
    have : (unmark (fAt l hd)).page = (l.map (·.page))[hd]'(by simpa using hhd) := by
     rw [List.getElem_map, ← fAt_lt hhd]; rfl
    rw [this, List.set_getElem_self]
   have hmu := marks_pos hhd hm
   refine ⟨⟨hf8.trans (hF19.trans hF32), l.set hd (unmark (fAt l hd)), (hd + 1) % l.length, _, h19.upd hF32 (fun _ _ h => h) ?_ hr32 (h19.map.fr hf32 (Ne.symm h8.n3)) ?_ hmf (by simp) ?_ (fun q hq => .inl (mem_setMark hhL hq)), ?_, by rw [List.length_set]; exact hl⟩, ?_⟩
   ·have := h19.pool.fr hf32 h8.n1
    have e4 : pc g r cap { P with fr := l.set hd (unmark (fAt l hd)), hand := (hd + 1) % l.length } = pc g r cap { P with fr := l, hand := (hd + 1) % l.length } := by simp [pc]
    rw [e4]; exact this
   ·have hu : (unmark (fAt l hd)).page = (fAt l hd).page := rfl
    exact h19.wf.set hd (f := unmark (fAt l hd)) (hwf.page (fAt l hd) (fAt_mem hhd)) (hwf.bs (fAt l hd) (fAt_mem hhd))
   ·rw [hpm]; exact h8.agree
   ·rw [← hc, clk_next hhd hm]
   ·show mu g w32 < mu g w8
    rw [mu_blk hr32, mu_blk h8.rows, List.countP_append, List.countP_append, count_marks, count_marks, hmf, show L'.map (·.1) = l from h8.fr]
    omega
end Go.Proofs.Ytijopkmclcbehaa
end
