/- Parts of a proof, one behind the other: readings of functions, what they do, and what follows. -/
import Derived.Test.YtagkcbbbdlmcjaaRows
import Derived.OrdersHeld
import Derived.Deep.LoopGhost
import Derived.Tactics
import Derived.Below
import Derived.Laws.AppendOwn
import Derived.KernelRfl
import Derived.Laws.CopyRow
import Derived.Laws.Rows
import Derived.Laws.IdiomStrings
import Derived.Laws.BytesArg
import Derived.Lib.Bytes
import Derived.Lib.IndexBytes
import Derived.Laws.OwnMore
import Derived.WalkKit
import Derived.ProofKit
import Derived.OpenShut
import Derived.ShutString
import Derived.ChangeOld
import Derived.Deep.Slices
import Derived.SizedLaws
import Derived.Test.YtagkcbbbdlmcjaaProg
import Derived.Lib.AppendZerosOnto
set_option linter.unusedVariables false
set_option linter.unusedSimpArgs false
section
/- The rules by which a Go function's code is read as a predicate transformer over typed values: soundness of each step, once for all programs. -/
namespace Go.Lift

abbrev Env := Nat → Value
def upd (ρ : Env) (d : Nat) (v : Value) : Env := fun i => cond (Nat.beq i d) v (ρ i)
def ev (ρ : Env) : Operand → Value
  | .tmp t => ρ t
  | .const v => v
  | .global g => .pointer (some ⟨g, 0, none⟩)
  | .func f => .func (.func f) #[] #[]
def envOf (a : Act) : Env := fun i => a.tmps.getD i undef

theorem eval_env (a : Act) : a.eval = ev (envOf a) := funext fun x => by cases x <;> rfl

theorem env_put {a : Act} {d : Nat} {v : Value} (h : d < a.tmps.size) : envOf (a.put (some d) v) = upd (envOf a) d v := by
  funext i
  simp only [envOf, Act.put, upd]
  by_cases e : i = d
  · subst e
    simp [h]
  · have : Nat.beq i d = false := by
      cases hb : Nat.beq i d
      · rfl
      · exact absurd (Nat.eq_of_beq_eq_true hb) e
    simp only [this, cond]
    simp [Array.getElem?_setIfInBounds_ne (Ne.symm e)]

theorem put_size (a : Act) (d : Option Tmp) (v : Value) : (a.put d v).tmps.size = a.tmps.size := by
  cases d <;> simp [Act.put]
theorem put_defers (a : Act) (d : Option Tmp) (v : Value) : (a.put d v).defers = a.defers := by
  cases d <;> rfl

def Wanted (ops : Array Oper) (ρ : Env) : Option (Nat × Bool) → Prop
  | none => True
  | some (j, want) => ∃ t, (ops[j]?).bind (·.dst) = some t ∧ ρ t = .bool want
def NotWanted (ops : Array Oper) (ρ : Env) : Option (Nat × Bool) → Prop
  | none => False
  | some (j, want) => ∃ t, (ops[j]?).bind (·.dst) = some t ∧ (ρ t = .bool (!want) ∨ ρ t = undef)

theorem yielded_bool {ops : Array Oper} {tmps : Array Value} {j t : Nat} {b : Bool} (h : (ops[j]?).bind (·.dst) = some t) (h1 : tmps.getD t undef = .bool b) : yielded ops tmps j = some b := by
  unfold yielded
  rw [h]
  simp only [Option.bind_some]
  cases ht : tmps[t]? with
  | none => rw [Array.getD_eq_getD_getElem?, ht] at h1; simp [undef] at h1
  | some v => rw [Array.getD_eq_getD_getElem?, ht] at h1; simp at h1; subst h1; rfl
theorem yielded_undef {ops : Array Oper} {tmps : Array Value} {j t : Nat} (h : (ops[j]?).bind (·.dst) = some t) (h1 : tmps.getD t undef = undef) : yielded ops tmps j = none := by
  unfold yielded
  rw [h]
  simp only [Option.bind_some]
  cases ht : tmps[t]? with
  | none => rfl
  | some v => rw [Array.getD_eq_getD_getElem?, ht] at h1; simp at h1; subst h1; rfl
theorem Wanted.wanted {ops : Array Oper} {a : Act} {o : Oper} (h : Wanted ops (envOf a) o.guard) : Region.wanted o (yielded ops a.tmps) = true := by
  unfold Region.wanted
  cases hg : o.guard with
  | none => rfl
  | some g =>
    obtain ⟨j, want⟩ := g
    rw [hg] at h
    obtain ⟨t, h1, h2⟩ := h
    show (yielded ops a.tmps j == some want) = true
    rw [yielded_bool h1 h2]
    simp
theorem NotWanted.wanted {ops : Array Oper} {a : Act} {o : Oper} (h : NotWanted ops (envOf a) o.guard) : Region.wanted o (yielded ops a.tmps) = false := by
  unfold Region.wanted
  cases hg : o.guard with
  | none => rw [hg] at h; exact h.elim
  | some g =>
    obtain ⟨j, want⟩ := g
    rw [hg] at h
    obtain ⟨t, h1, h2⟩ := h
    show (yielded ops a.tmps j == some want) = false
    rcases h2 with h2 | h2
    · rw [yielded_bool h1 h2]
      cases want <;> rfl
    · rw [yielded_undef h1 h2]
      cases want <;> rfl

/-- What one operation needs, and what it hands on. -/
def OpW (P : Program) (op : Op) (ty : TypeId) (ρ : Env) (K : Value → World → Prop) (w : World) : Prop :=
  match (execOp (ev ρ) ⟨none, op, ty, "", #[], none⟩).run P w with
  | .ok (.value v) w' => K v w'
  | .ok .skip w' => K undef w'
  | .ok (.enter f args) w' => Calls P f args w' fun e w'' => match e with
      | .returned v => K v w''
      | _ => False
  | _ => False

theorem execOp_strip (ρ : Operand → Value) (o : Oper) : execOp ρ o = execOp ρ ⟨none, o.op, o.type, "", #[], none⟩ := by
  obtain ⟨dst, op, type, pos, after, guard⟩ := o
  cases op <;> rfl

theorem OpW.wp {P : Program} {o : Oper} {a : Act} {K : Value → World → Prop} {Q : Exit → Act → World → Prop} {next : Act → World → Prop} {w : World}
    (h : OpW P o.op o.type (envOf a) K w) (hk : ∀ v w', K v w' → next (a.put o.dst v) w') : o.wp P a w next Q := by
  unfold Oper.wp
  rw [eval_env, execOp_strip]
  unfold OpW at h
  generalize (execOp (ev (envOf a)) ⟨none, o.op, o.type, "", #[], none⟩).run P w = r at h ⊢
  cases r with
  | halt x w' => exact h.elim
  | ok nx w' =>
    cases nx <;> first
      | exact hk _ _ h
      | exact h.elim
      | (refine Calls.mono h fun e w'' he => ?_
         cases e with
         | returned v => exact hk _ _ he
         | panicked c => exact he.elim
         | outgrown => exact he.elim)

def lift (n : Nat) (Q : Exit → Env → World → Prop) : Exit → Act → World → Prop
  | .panic _, _, _ => False
  | .outgrown, _, _ => False
  | e, a, w => a.tmps.size = n ∧ a.defers = [] ∧ Q e (envOf a) w

def CW (P : Program) (n : Nat) (c : Code) (Q : Exit → Env → World → Prop) (ρ : Env) (w : World) : Prop :=
  ∀ a : Act, a.tmps.size = n → a.defers = [] → envOf a = ρ → c.wp P (lift n Q) a w
def RL (P : Program) (n : Nat) (ops : Array Oper) (Q : Exit → Env → World → Prop) (l : List Oper) (ρ : Env) (w : World) : Prop :=
  ∀ a : Act, a.tmps.size = n → a.defers = [] → envOf a = ρ → wpList P ops (lift n Q) l a w

section
variable {P : Program} {n : Nat} {ops : Array Oper} {Q : Exit → Env → World → Prop} {ρ : Env} {w : World} {rest : List Oper}

theorem RL.nil (h : Q .normal ρ w) : RL P n ops Q [] ρ w := fun a hs hd he => by
  subst he
  exact ⟨hs, hd, h⟩

theorem RL.opS {d : Nat} {op : Op} {ty : TypeId} {pos : String} {after : Array Edge} {g : Option (Nat × Bool)} (hw : Wanted ops ρ g) (hd : Nat.blt d n = true)
    (h : OpW P op ty ρ (fun v w' => RL P n ops Q rest (upd ρ d v) w') w) : RL P n ops Q (⟨some d, op, ty, pos, after, g⟩ :: rest) ρ w := by
  intro a hs hdf he
  subst he
  have hdn : d < a.tmps.size := by rw [hs]; exact Nat.le_of_ble_eq_true hd
  unfold wpList
  rw [if_pos (Wanted.wanted (o := ⟨some d, op, ty, pos, after, g⟩) hw)]
  refine .inl (OpW.wp (o := ⟨some d, op, ty, pos, after, g⟩) h fun v w' hk => ?_)
  exact hk _ ((put_size _ _ _).trans hs) ((put_defers _ _ _).trans hdf) (env_put hdn)

theorem RL.opN {op : Op} {ty : TypeId} {pos : String} {after : Array Edge} {g : Option (Nat × Bool)} (hw : Wanted ops ρ g)
    (h : OpW P op ty ρ (fun _ w' => RL P n ops Q rest ρ w') w) : RL P n ops Q (⟨none, op, ty, pos, after, g⟩ :: rest) ρ w := by
  intro a hs hdf he
  subst he
  unfold wpList
  rw [if_pos (Wanted.wanted (o := ⟨none, op, ty, pos, after, g⟩) hw)]
  exact .inl (OpW.wp (o := ⟨none, op, ty, pos, after, g⟩) h fun v w' hk => hk _ hs hdf rfl)

theorem RL.skipS {d : Nat} {op : Op} {ty : TypeId} {pos : String} {after : Array Edge} {g : Option (Nat × Bool)} (hw : NotWanted ops ρ g) (hd : Nat.blt d n = true)
    (h : RL P n ops Q rest (upd ρ d undef) w) : RL P n ops Q (⟨some d, op, ty, pos, after, g⟩ :: rest) ρ w := by
  intro a hs hdf he
  subst he
  have hdn : d < a.tmps.size := by rw [hs]; exact Nat.le_of_ble_eq_true hd
  unfold wpList
  rw [if_neg (by rw [NotWanted.wanted (o := ⟨some d, op, ty, pos, after, g⟩) hw]; simp)]
  exact h _ ((put_size _ _ _).trans hs) ((put_defers _ _ _).trans hdf) (env_put hdn)

theorem RL.skipN {op : Op} {ty : TypeId} {pos : String} {after : Array Edge} {g : Option (Nat × Bool)} (hw : NotWanted ops ρ g)
    (h : RL P n ops Q rest ρ w) : RL P n ops Q (⟨none, op, ty, pos, after, g⟩ :: rest) ρ w := by
  intro a hs hdf he
  subst he
  unfold wpList
  rw [if_neg (by rw [NotWanted.wanted (o := ⟨none, op, ty, pos, after, g⟩) hw]; simp)]
  exact h _ hs hdf rfl

/-! ### Code -/
theorem CW.skip (h : Q .normal ρ w) : CW P n .skip Q ρ w := fun a hs hd he => wp_skip (by subst he; exact ⟨hs, hd, h⟩)
theorem CW.ret (h : Q .ret ρ w) : CW P n .ret Q ρ w := fun a hs hd he => wp_ret (by subst he; exact ⟨hs, hd, h⟩)
theorem CW.exit {id : Nat} (h : Q (.exit id) ρ w) : CW P n (.exit id) Q ρ w := fun a hs hd he => wp_exit (by subst he; exact ⟨hs, hd, h⟩)

abbrev thenQ (K : Env → World → Prop) (Q : Exit → Env → World → Prop) : Exit → Env → World → Prop
  | .normal, ρ, w => K ρ w
  | e, ρ, w => Q e ρ w
abbrev blockQ (id : Nat) (Q : Exit → Env → World → Prop) : Exit → Env → World → Prop
  | .exit id', ρ, w => if id' = id then Q .normal ρ w else Q (.exit id') ρ w
  | e, ρ, w => Q e ρ w

theorem CW.seq {x y : Code} (h : CW P n x (thenQ (CW P n y Q) Q) ρ w) : CW P n (.seq x y) Q ρ w := fun a hs hd he => by
  refine wp_seq (wp_mono (h a hs hd he) ?_)
  intro e a' w' hq
  cases e with
  | normal => exact hq.2.2 a' hq.1 hq.2.1 rfl
  | panic c => exact hq.elim
  | outgrown => exact hq.elim
  | exit id => exact hq
  | goto l => exact hq
  | ret => exact hq

theorem CW.block {id : Nat} {c : Code} (h : CW P n c (blockQ id Q) ρ w) : CW P n (.block id c) Q ρ w := fun a hs hd he => by
  refine wp_block (wp_mono (h a hs hd he) ?_)
  intro e a' w' hq
  cases e with
  | normal => exact hq
  | panic c => exact hq.elim
  | outgrown => exact hq.elim
  | exit id' =>
    obtain ⟨h1, h2, h3⟩ := hq
    simp only [blockQ] at h3
    simp only [Exit.inBlock]
    split
    · rename_i e; rw [if_pos e] at h3; exact ⟨h1, h2, h3⟩
    · rename_i e; rw [if_neg e] at h3; exact ⟨h1, h2, h3⟩
  | goto l => exact hq
  | ret => exact hq

theorem CW.cond {c : Operand} {x y : Code} {b : Bool} (hc : ev ρ c = .bool b) (h1 : b = true → CW P n x Q ρ w) (h2 : b = false → CW P n y Q ρ w) :
    CW P n (.cond c x y) Q ρ w := fun a hs hd he => by
  have hc' : a.eval c = .bool b := by rw [eval_env, he]; exact hc
  cases b with
  | true => exact Go.wp_cond hc' (h1 rfl a hs hd he)
  | false => exact Go.wp_cond hc' (h2 rfl a hs hd he)

theorem CW.region {id : Nat} {l : List Oper} (h : RL P n l.toArray Q l ρ w) : CW P n (.region id l.toArray false) Q ρ w := fun a hs hd he =>
  wp_region_lit (h a hs hd he)

theorem CW.scope_none {c : Code} : True := trivial

/-- A loop: a state of the typed variables, an invariant, a measure. -/
theorem CW.loop {c : Code} {σ : Type} (E : σ → Env → Prop) (I : σ → World → Prop) (μ : σ → World → Nat) (s0 : σ) (hE : E s0 ρ) (hI : I s0 w)
    (round : ∀ s ρ w, E s ρ → I s w → CW P n c (thenQ (fun ρ' w' => ∃ s', E s' ρ' ∧ I s' w' ∧ μ s' w' < μ s w) Q) ρ w) : CW P n (.loop c) Q ρ w := fun a hs hd he => by
  refine wp_loop_ghost (fun k a w => a.tmps.size = n ∧ a.defers = [] ∧ ∃ s, E s (envOf a) ∧ I s w ∧ μ s w = k) (μ s0 w) ⟨hs, hd, s0, by rw [he]; exact hE, hI, rfl⟩ ?_
  intro k a w ⟨hs, hd, s, hE, hI, hk⟩
  refine wp_mono (round s _ w hE hI a hs hd rfl) ?_
  intro e a' w' hq
  cases e with
  | normal =>
    obtain ⟨h1, h2, s', h3, h4, h5⟩ := hq
    exact ⟨μ s' w', by omega, h1, h2, s', h3, h4, rfl⟩
  | panic c => exact hq.elim
  | outgrown => exact hq.elim
  | exit id => exact hq
  | goto l => exact hq
  | ret => exact hq

/-- The typed loop: 'step next s w'. -/
def LoopS {σ : Type} (step : (σ → World → Prop) → σ → World → Prop) (s0 : σ) (w : World) : Prop :=
  ∃ (I : σ → World → Prop) (μ : σ → World → Nat), I s0 w ∧ ∀ s w, I s w → step (fun s' w' => I s' w' ∧ μ s' w' < μ s w) s w

def startEnv (args : Array Value) : Env := fun i => args.getD i undef
/-- What a return hands on. -/
abbrev retQ (P : Program) (fn : Func) (R : Ending → World → Prop) : Exit → Env → World → Prop
  | .normal, ρ, w | .ret, ρ, w => ∃ v, (∀ tmps : Array Value, (∀ i, tmps.getD i undef = ρ i) → (results fn tmps).run P w = .ok v w) ∧ R (.returned v) w
  | _, _, _ => False

theorem start_env (args : Array Value) (n : Nat) (h : args.size ≤ n) : envOf { tmps := args ++ Array.replicate (n - args.size) undef, defers := [] } = startEnv args := by
  funext i
  simp only [envOf, startEnv, Array.getD_eq_getD_getElem?]
  by_cases h1 : i < args.size
  · rw [Array.getElem?_append_left h1]
  · rw [Array.getElem?_append_right (by omega), Array.getElem?_eq_none (xs := args) (by omega)]
    by_cases h2 : i - args.size < n - args.size
    · rw [Array.getElem?_eq_getElem (by simpa using h2)]; simp
    · rw [Array.getElem?_eq_none (by simpa using h2)]

theorem calls_of_CW {f : FuncId} {fn : Func} {c : Code} {args : Array Value} {R : Ending → World → Prop} (hf : P.funcs[f]? = some fn) (hb : fn.body = some c) (hn : fn.ntmps = n)
    (ha : Nat.ble args.size n = true) (h : CW P n c (retQ P fn R) (startEnv args) w) : Calls P f args w R := by
  subst hn
  have ha' : args.size ≤ fn.ntmps := Nat.le_of_ble_eq_true ha
  refine calls_of_wp hf hb (wp_mono (h _ (by simp; omega) rfl (start_env _ _ ha')) ?_)
  intro e a' w' hq
  cases e with
  | normal =>
    obtain ⟨h1, h2, v, h3, h4⟩ := hq
    exact ⟨h2, v, h3 _ (fun _ => rfl), h4⟩
  | ret =>
    obtain ⟨h1, h2, v, h3, h4⟩ := hq
    exact ⟨h2, v, h3 _ (fun _ => rfl), h4⟩
  | panic c => exact hq.elim
  | outgrown => exact hq.elim
  | exit id => exact hq.2.2.elim
  | goto l => exact hq.2.2.elim

theorem res0 {fn : Func} (h : fn.results = #[]) (tmps : Array Value) (hρ : ∀ i, tmps.getD i undef = ρ i) : (results fn tmps).run P w = .ok (.tuple #[]) w := results_none h tmps P w
theorem res1 {fn : Func} {t : Tmp} {v : Value} (h : fn.results = #[.tmp t]) (hv : ρ t = v) (tmps : Array Value) (hρ : ∀ i, tmps.getD i undef = ρ i) : (results fn tmps).run P w = .ok v w := by
  rw [results_tmp h, hρ, hv]
theorem res2 {fn : Func} {t u : Tmp} {v x : Value} (h : fn.results = #[.tmp t, .tmp u]) (hv : ρ t = v) (hx : ρ u = x) (tmps : Array Value) (hρ : ∀ i, tmps.getD i undef = ρ i) : (results fn tmps).run P w = .ok (.tuple #[v, x]) w := by
  rw [results_tmp2 h, hρ, hv, hρ, hx]
theorem res3 {fn : Func} {t u s : Tmp} {v x y : Value} (h : fn.results = #[.tmp t, .tmp u, .tmp s]) (hv : ρ t = v) (hx : ρ u = x) (hy : ρ s = y) (tmps : Array Value) (hρ : ∀ i, tmps.getD i undef = ρ i) : (results fn tmps).run P w = .ok (.tuple #[v, x, y]) w := by
  have h1 := hρ t; have h2 := hρ u; have h3 := hρ s
  simp only [Array.getD_eq_getD_getElem?] at h1 h2 h3
  simp [results, h, h1, h2, h3, hv, hx, hy]
end
end Go.Lift
end
section
/- What each operation needs and hands on, over typed values: one law for each kind of operation, once for all programs. -/
namespace Go.Lift
structure Sl where
 a : Option Addr
 len : Nat
 cap : Nat
abbrev Sl.v (s : Sl) : Value := .slice s.a s.len s.cap
abbrev nilSl : Sl := ⟨none, 0, 0⟩
abbrev str (xs : List UInt8) : Value := .string ⟨xs.toArray⟩
abbrev aggv (cs : List Value) : Value := .agg cs.toArray
/-- Bytes as cells. -/
def u8s (bs : List UInt8) : List Value := bs.map fun b => .int .u8 (b.toNat : Int)
theorem u8s_length (bs : List UInt8) : (u8s bs).length = bs.length := by simp [u8s]
/-- The cells that lie from an address on. -/
def At (w : World) (a : Addr) (cs : List Value) : Prop := ∀ j v, cs[j]? = some v → w.cell? (a.add j) = some v
/-- The same for a slice's address, which may be none where there are no cells. -/
def AtO (w : World) (a : Option Addr) (cs : List Value) : Prop := match a with
 | some a => At w a cs
 | none => cs = []

def oneT (P : Program) (t : TypeId) : Bool := match P.underlying t with
 | some (.struct _) | some (.array _ _) => false
 | some _ => true
 | none => false
def aggT (P : Program) (t : TypeId) : Option Nat := match P.underlying t, P.info? t with
 | some (.struct _), some i | some (.array _ _), some i => some i.size
 | _, _ => none
def sizeT (P : Program) (t : TypeId) : Option Nat := (P.info? t).map (·.size)
def zeroT (P : Program) (t : TypeId) : Option (List Value) := (P.info? t).bind fun i => i.zero.map fun z => z.cells.toList
def fieldT (P : Program) (s : TypeId) (f : Nat) : Option Nat := match P.underlying s with
 | some (.struct fs) => match fs[f]? with
  | some fd => match P.info? fd.type with
   | some i => if i.size = 0 then none else some fd.offset
   | none => none
  | none => none
 | _ => none
def sliceT (P : Program) (t : TypeId) : Option (TypeId × Nat) := match P.underlying t with
 | some (.slice e) => match P.info? e with
  | some i => some (e, i.size)
  | none => none
 | _ => none
def arrT (P : Program) (t : TypeId) : Option (Nat × Nat) := match P.underlying t with
 | some (.array n e) => match P.info? e with
  | some i => some (n, i.size)
  | none => none
 | _ => none

section
variable {P : Program} {ty : TypeId} {ρ : Env} {K : Value → World → Prop} {w : World} {x y z : Operand} {v : Value}

theorem OpW.val {op : Op} {w' : World} (hr : (execOp (ev ρ) ⟨none, op, ty, "", #[], none⟩).run P w = .ok (.value v) w') (h : K v w') : OpW P op ty ρ K w := by
 unfold OpW; rw [hr]; exact h
theorem OpW.unit {op : Op} {w' : World} (hr : (execOp (ev ρ) ⟨none, op, ty, "", #[], none⟩).run P w = .ok .skip w') (h : K undef w') : OpW P op ty ρ K w := by
 unfold OpW; rw [hr]; exact h

theorem OpW.move (hx : ev ρ x = v) (h : K v w) : OpW P (.move x) ty ρ K w := by subst hx; exact h
theorem OpW.assign (hx : ev ρ x = v) (h : K v w) : OpW P (.assign x) ty ρ K w := by subst hx; exact h
theorem OpW.pick {b : Bool} (hc : ev ρ x = .bool b) (hv : cond b (ev ρ y) (ev ρ z) = v) (h : K v w) : OpW P (.pick x y z) ty ρ K w := by
 refine OpW.val (w' := w) ?_ h
 subst hv
 cases b <;> simp [execOp, hc, asBool]
theorem OpW.extract {i : Nat} {vs : Array Value} (hx : ev ρ x = .tuple vs) (hv : vs[i]? = some v) (h : K v w) : OpW P (.extract x i) ty ρ K w :=
 OpW.val (w' := w) (by simp [execOp, hx, Instr.extract, hv]) h
theorem OpW.nilCheck {a : Addr} (hx : ev ρ x = .pointer (some a)) (h : K (.pointer (some a)) w) : OpW P (.nilCheck x) ty ρ K w :=
 OpW.val (w' := w) (by simp [execOp, hx]) h

/-- int arithmetic and comparison -/
def binInt (op : BinOp) (k : IntKind) (a b : Int) : Option Value := match op with
 | .add => some (.int k (k.wrap (a + b)))
 | .sub => some (.int k (k.wrap (a - b)))
 | .mul => some (.int k (k.wrap (a * b)))
 | .and => some (.int k (k.wrap (BitVec.ofInt k.bits a &&& BitVec.ofInt k.bits b).toNat))
 | .or => some (.int k (k.wrap (BitVec.ofInt k.bits a ||| BitVec.ofInt k.bits b).toNat))
 | .xor => some (.int k (k.wrap (BitVec.ofInt k.bits a ^^^ BitVec.ofInt k.bits b).toNat))
 | .lss => some (.bool (decide (a < b)))
 | .leq => some (.bool (decide (a ≤ b)))
 | .gtr => some (.bool (decide (b < a)))
 | .geq => some (.bool (decide (b ≤ a)))
 | .eql => some (.bool (decide (a = b)))
 | .neq => some (.bool (!decide (a = b)))
 | _ => none
theorem OpW.bin {op : BinOp} {k : IntKind} {a b : Int} {t u : TypeId} (hx : ev ρ x = .int k a) (hy : ev ρ y = .int k b) (hv : binInt op k a b = some v) (h : K v w) :
  OpW P (.binOp op t x y u) ty ρ K w := by
 refine OpW.val (w' := w) ?_ h
 cases op <;> simp only [binInt, Option.some.injEq, reduceCtorEq] at hv <;> subst hv <;>
  simp [execOp, hx, hy, eqGuard, binOp, Op.intArith, Op.intBits, Op.intCmp]
 ·rfl
 ·rfl

def quoInt (op : BinOp) (k : IntKind) (a b : Int) : Option Value := match op with
 | .quo => some (.int k (k.wrap (a.tdiv b)))
 | .rem => some (.int k (a.tmod b))
 | _ => none
theorem OpW.quo {op : BinOp} {k : IntKind} {a b : Int} {t u : TypeId} (hx : ev ρ x = .int k a) (hy : ev ρ y = .int k b) (hb : b ≠ 0) (hv : quoInt op k a b = some v) (h : K v w) :
  OpW P (.binOp op t x y u) ty ρ K w := by
 refine OpW.val (w' := w) ?_ h
 cases op <;> simp only [quoInt, Option.some.injEq, reduceCtorEq] at hv <;> subst hv <;>
  simp [execOp, hx, hy, eqGuard, binOp, Op.intDiv, hb]

def shiftInt (op : BinOp) (k : IntKind) (a b : Int) : Option Value := match op with
 | .shl => some (.int k (k.wrap (a * 2 ^ min b.toNat k.bits)))
 | .shr => some (.int k (a.fdiv (2 ^ min b.toNat k.bits)))
 | _ => none
theorem OpW.shift {op : BinOp} {k l : IntKind} {a b : Int} {t u : TypeId} (hx : ev ρ x = .int k a) (hy : ev ρ y = .int l b) (hb : 0 ≤ b) (hv : shiftInt op k a b = some v) (h : K v w) :
  OpW P (.binOp op t x y u) ty ρ K w := by
 refine OpW.val (w' := w) ?_ h
 have hb' : ¬ b < 0 := by omega
 cases op <;> simp only [shiftInt, Option.some.injEq, reduceCtorEq] at hv <;> subst hv <;>
  simp [execOp, hx, hy, eqGuard, binOp, Op.shift, hb']

theorem toList_mk (xs : List UInt8) : (ByteArray.mk xs.toArray).toList = xs := by
 rw [Lib.toList_data]
theorem beq_dec (l r : List UInt8) : (l == r) = decide (l = r) := by rw [Bool.eq_iff_iff]; simp

theorem OpW.strAdd {a b : List UInt8} {t u : TypeId} (hx : ev ρ x = str a) (hy : ev ρ y = str b) (hl : a.length + b.length ≤ 9223372036854775807) (h : K (str (a ++ b)) w) :
  OpW P (.binOp .add t x y u) ty ρ K w := by
 refine OpW.val (w' := w) ?_ h
 have e1 : (ByteArray.mk a.toArray ++ ByteArray.mk b.toArray) = ByteArray.mk (a ++ b).toArray := by
  apply ByteArray.ext
  simp
 have hs : ¬ (((ByteArray.mk a.toArray).size + (ByteArray.mk b.toArray).size : Nat) : Int) > IntKind.i64.max := by
  simp [ByteArray.size, IntKind.max, IntKind.signed, IntKind.bits]; omega
 simp only [execOp, hx, hy, eqGuard, binOp, Op.stringOp]
 rw [if_neg hs, e1]
 rfl
theorem OpW.strCmp {op : BinOp} {b : Bool} {l r : List UInt8} {t u : TypeId} (hx : ev ρ x = str l) (hy : ev ρ y = str r)
  (hv : (match op with | .eql => some (decide (l = r)) | .neq => some (!decide (l = r)) | _ => none) = some b) (h : K (.bool b) w) :
  OpW P (.binOp op t x y u) ty ρ K w := by
 refine OpW.val (w' := w) ?_ h
 cases op <;> simp only [Option.some.injEq, reduceCtorEq] at hv <;> subst hv <;>
  simp [execOp, hx, hy, eqGuard, binOp, Op.stringOp, toList_mk, beq_dec]
theorem equal_bool {t : TypeId} (ht : P.underlying t = some .bool) (a b : Bool) (w : World) : (Op.equal t (.bool a) (.bool b)).run P w = .ok (a == b) w := by
 have key : ∀ d, (Op.equalIn (d + 1) t (.bool a) (.bool b)).run P w = .ok (a == b) w := fun d => by
  unfold Op.equalIn
  simp only [Sem.run_bind, run_underlying ht, Result.andThen_ok]
  rfl
 exact key 9999
theorem equal_ptr {t e : TypeId} (ht : P.underlying t = some (.pointer e)) (p : Option Addr) (w : World) : (Op.equal t (.pointer p) (.pointer none)).run P w = .ok p.isNone w := by
 have key : ∀ d, (Op.equalIn (d + 1) t (.pointer p) (.pointer none)).run P w = .ok p.isNone w := fun d => by
  unfold Op.equalIn
  simp only [Sem.run_bind, run_underlying ht, Result.andThen_ok]
  cases p <;> rfl
 exact key 9999
theorem equal_slice {t e : TypeId} (ht : P.underlying t = some (.slice e)) (a : Option Addr) (l c : Nat) (w : World) : (Op.equal t (.slice a l c) (.slice none 0 0)).run P w = .ok a.isNone w := by
 have key : ∀ d, (Op.equalIn (d + 1) t (.slice a l c) (.slice none 0 0)).run P w = .ok a.isNone w := fun d => by
  unfold Op.equalIn
  simp only [Sem.run_bind, run_underlying ht, Result.andThen_ok]
  cases a <;> rfl
 exact key 9999
theorem OpW.boolCmp {op : BinOp} {b l r : Bool} {t u : TypeId} (ht : P.underlying t = some .bool) (hx : ev ρ x = .bool l) (hy : ev ρ y = .bool r)
  (hv : (match op with | .eql => some (l == r) | .neq => some (!(l == r)) | _ => none) = some b) (h : K (.bool b) w) :
  OpW P (.binOp op t x y u) ty ρ K w := by
 refine OpW.val (w' := w) ?_ h
 cases op <;> simp only [Option.some.injEq, reduceCtorEq] at hv <;> subst hv <;>
  simp [execOp, hx, hy, eqGuard, binOp, equal_bool ht]
def ptrT (P : Program) (t : TypeId) : Bool := match P.underlying t with
 | some (.pointer _) => true
 | _ => false
theorem OpW.ptrNil {op : BinOp} {b : Bool} {p : Option Addr} {t u : TypeId} (ht : ptrT P t = true) (hx : ev ρ x = .pointer p) (hy : ev ρ y = .pointer none)
  (hv : (match op with | .eql => some p.isNone | .neq => some (!p.isNone) | _ => none) = some b) (h : K (.bool b) w) :
  OpW P (.binOp op t x y u) ty ρ K w := by
 refine OpW.val (w' := w) ?_ h
 unfold ptrT at ht
 split at ht
 ·rename_i e hu
  cases op <;> simp only [Option.some.injEq, reduceCtorEq] at hv <;> subst hv <;>
   simp [execOp, hx, hy, eqGuard, binOp, equal_ptr hu]
 ·simp at ht
theorem OpW.slNil {op : BinOp} {b : Bool} {s : Sl} {e : TypeId} {n : Nat} {t u : TypeId} (ht : sliceT P t = some (e, n)) (hx : ev ρ x = s.v) (hy : ev ρ y = .slice none 0 0)
  (hv : (match op with | .eql => some s.a.isNone | .neq => some (!s.a.isNone) | _ => none) = some b) (h : K (.bool b) w) :
  OpW P (.binOp op t x y u) ty ρ K w := by
 refine OpW.val (w' := w) ?_ h
 obtain ⟨a, l, c⟩ := s
 unfold sliceT at ht
 split at ht
 ·rename_i e hu
  cases op <;> simp only [Option.some.injEq, reduceCtorEq] at hv <;> subst hv <;>
   simp [execOp, hx, hy, eqGuard, binOp, equal_slice hu]
 ·simp at ht

theorem OpW.not {b : Bool} {t : TypeId} (hx : ev ρ x = .bool b) (h : K (.bool (!b)) w) : OpW P (.unOp .not t x) ty ρ K w :=
 OpW.val (w' := w) (by simp [execOp, hx, Op.unary]) h
theorem OpW.compl {k : IntKind} {a : Int} {t : TypeId} (hx : ev ρ x = .int k a) (h : K (.int k (k.wrap (BitVec.ofInt k.bits (if k.signed then -1 else k.max) ^^^ BitVec.ofInt k.bits a).toNat)) w) :
  OpW P (.unOp .xor t x) ty ρ K w :=
 OpW.val (w' := w) (by simp [execOp, hx, Op.unary, Op.intBits]) h
theorem OpW.neg {k : IntKind} {a : Int} {t : TypeId} (hx : ev ρ x = .int k a) (h : K (.int k (k.wrap (0 - a))) w) : OpW P (.unOp .neg t x) ty ρ K w :=
 OpW.val (w' := w) (by simp [execOp, hx, Op.unary, Op.intArith]) h

def intT (P : Program) (t : TypeId) : Option IntKind := match P.underlying t with
 | some (.int k) => some k
 | _ => none
theorem OpW.convInt {k l : IntKind} {a : Int} {s d : TypeId} (hs : intT P s = some l) (hd : intT P d = some k) (hx : ev ρ x = .int l a) (h : K (.int k (k.wrap a)) w) : OpW P (.convert s d x) ty ρ K w := by
 refine OpW.val (w' := w) ?_ h
 unfold intT at hs hd
 split at hs
 ·rename_i h1
  split at hd
  ·rename_i h2
   simp only [Option.some.injEq] at hs hd
   subst hs; subst hd
   simp [execOp, hx, convert, run_underlying h1, run_underlying h2, Conv.intToInt]
  ·simp at hd
 ·simp at hs

/-! ### addresses -/
theorem OpW.fieldAddr {s : TypeId} {f off : Nat} {a : Addr} (ht : fieldT P s f = some off) (hx : ev ρ x = .pointer (some a)) (h : K (.pointer (some (a.add off))) w) :
  OpW P (.fieldAddr s x f) ty ρ K w := by
 refine OpW.val (w' := w) ?_ h
 unfold fieldT at ht
 split at ht
 ·rename_i fs hu
  split at ht
  ·rename_i fd hf
   split at ht
   ·rename_i i hi
    split at ht
    ·simp at ht
    ·rename_i hz
     simp only [Option.some.injEq] at ht
     subst ht
     simp [execOp, hx, Instr.fieldAt, run_underlying hu, hf, Instr.sureAddr, fieldPlace, sizeOf, typeInfo, hi, hz]
   ·simp at ht
  ·simp at ht
 ·simp at ht
theorem OpW.indexAddr {t e : TypeId} {n : Nat} {s : Sl} {i : Int} {a : Addr} {k : IntKind} (ht : sliceT P t = some (e, n)) (hx : ev ρ x = s.v) (hy : ev ρ y = .int k i)
  (ha : s.a = some a) (h0 : 0 ≤ i) (h1 : i < s.len) (h : K (.pointer (some (a.add (i.toNat * n)))) w) : OpW P (.indexAddr t x y) ty ρ K w := by
 refine OpW.val (w' := w) ?_ h
 obtain ⟨sa, l, c⟩ := s
 simp only at ha h1
 subst ha
 unfold sliceT at ht
 split at ht
 ·rename_i e' hu
  split at ht
  ·rename_i j hi
   simp only [Option.some.injEq, Prod.mk.injEq] at ht
   obtain ⟨rfl, rfl⟩ := ht
   simp [execOp, hx, hy, Instr.indexAt, asIntOf, run_underlying hu, h0, h1, sizeOf, typeInfo, hi]
  ·simp at ht
 ·simp at ht
theorem OpW.indexArr {t : TypeId} {len n : Nat} {i : Int} {a : Addr} {k : IntKind} (ht : arrT P t = some (len, n)) (hx : ev ρ x = .pointer (some a)) (hy : ev ρ y = .int k i)
  (h0 : 0 ≤ i) (h1 : i < len) (h : K (.pointer (some (a.add (i.toNat * n)))) w) : OpW P (.indexAddr t x y) ty ρ K w := by
 refine OpW.val (w' := w) ?_ h
 unfold arrT at ht
 split at ht
 ·rename_i m e' hu
  split at ht
  ·rename_i j hi
   simp only [Option.some.injEq, Prod.mk.injEq] at ht
   obtain ⟨rfl, rfl⟩ := ht
   simp [execOp, hx, hy, Instr.indexAt, Instr.sureAddr, asIntOf, run_underlying hu, h0, h1, sizeOf, typeInfo, hi]
  ·simp at ht
 ·simp at ht
theorem OpW.indexStr {t : TypeId} {xs : List UInt8} {i : Int} {k : IntKind} {c : UInt8} (ht : P.underlying t = some .string) (hx : ev ρ x = str xs) (hy : ev ρ y = .int k i)
  (h0 : 0 ≤ i) (h1 : xs[i.toNat]? = some c) (h : K (.int .u8 c.toNat) w) : OpW P (.index t x y) ty ρ K w := by
 refine OpW.val (w' := w) ?_ h
 have : (ByteArray.mk xs.toArray)[i.toNat]? = some c := by
  rw [← h1]
  by_cases hl : i.toNat < xs.length
  ·rw [List.getElem?_eq_getElem hl]
   have : i.toNat < (ByteArray.mk xs.toArray).size := by simpa [ByteArray.size] using hl
   rw [getElem?_pos (ByteArray.mk xs.toArray) i.toNat this]
   rfl
  ·rw [List.getElem?_eq_none (by omega)]
   have : ¬ i.toNat < (ByteArray.mk xs.toArray).size := by simpa [ByteArray.size] using hl
   rw [getElem?_neg (ByteArray.mk xs.toArray) i.toNat this]
 simp [execOp, hx, hy, Instr.index, asIntOf, run_underlying ht, h0, this]

/-! ### loads and stores -/
theorem run_isAgg_one {t : TypeId} (ht : oneT P t = true) (w : World) : (isAgg t).run P w = .ok false w := by
 unfold oneT at ht
 split at ht <;> rename_i hu
 ·simp at ht
 ·simp at ht
 ·rename_i d h1 h2
  unfold isAgg
  simp only [Sem.run_bind, run_underlying hu, Result.andThen_ok]
  cases d <;> first | rfl | exact absurd rfl (h1 _) | exact absurd rfl (h2 _ _)
 ·simp at ht
theorem OpW.load1 {t : TypeId} {a : Addr} (ht : oneT P t = true) (hx : ev ρ x = .pointer (some a)) (hc : w.cell? a = some v) (h : K v w) : OpW P (.load t x) ty ρ K w := by
 refine OpW.val (w' := w) ?_ h
 simp only [execOp, hx, Instr.loadAt, Instr.sureAddr, loadVar, load, Sem.run_bind, Sem.run_pure, Result.andThen_ok, run_isAgg_one ht, Bool.false_eq_true, if_false, Sem.run, hc]
theorem run_isAgg_agg {t : TypeId} {n : Nat} (ht : aggT P t = some n) (w : World) : (isAgg t).run P w = .ok true w := by
 unfold aggT at ht
 split at ht <;> rename_i hu _
 ·unfold isAgg
  simp only [Sem.run_bind, run_underlying hu, Result.andThen_ok]; rfl
 ·unfold isAgg
  simp only [Sem.run_bind, run_underlying hu, Result.andThen_ok]; rfl
 ·simp at ht
theorem run_sizeOf_agg {t : TypeId} {n : Nat} (ht : aggT P t = some n) (w : World) : (sizeOf t).run P w = .ok n w := by
 unfold aggT at ht
 split at ht <;> rename_i _ hi
 ·simp only [Option.some.injEq] at ht; subst ht; simp [sizeOf, typeInfo, hi]
 ·simp only [Option.some.injEq] at ht; subst ht; simp [sizeOf, typeInfo, hi]
 ·simp at ht
theorem OpW.loadA {t : TypeId} {a : Addr} {n : Nat} {cs : List Value} (ht : aggT P t = some n) (hx : ev ρ x = .pointer (some a)) (hl : cs.length = n) (hc : At w a cs) (h : K (aggv cs) w) :
  OpW P (.load t x) ty ρ K w := by
 refine OpW.val (w' := w) ?_ h
 subst hl
 simp only [execOp, hx, Instr.loadAt, Instr.sureAddr, loadVar, Sem.run_bind, Sem.run_pure, Result.andThen_ok, run_isAgg_agg ht, run_sizeOf_agg ht, if_true, run_loadCells_list w a cs hc]

theorem run_sizeOf {t : TypeId} {n : Nat} (ht : sizeT P t = some n) (w : World) : (sizeOf t).run P w = .ok n w := by
 unfold sizeT at ht
 cases hi : P.info? t with
 | none => simp [hi] at ht
 | some i => simp [hi] at ht; subst ht; simp [sizeOf, typeInfo, hi]
theorem OpW.store1 {t : TypeId} {a : Addr} {u : Value} (ht : sizeT P t = some 1) (hx : ev ρ x = .pointer (some a)) (hy : ev ρ y = v) (h1 : v.oneCell' = true) (hc : w.cell? a = some u) (hf : w.frozen? a = false)
  (h : K undef (w.setCell a v)) : OpW P (.store t x y) ty ρ K w := by
 refine OpW.unit (w' := w.setCell a v) ?_ h
 have hcs : v.cells = #[v] := by cases v <;> first | rfl | (simp [Value.oneCell'] at h1)
 simp only [execOp, hx, hy, Instr.storeAt, Instr.sureAddr, storeVar, Sem.run_bind, Sem.run_pure, Result.andThen_ok, run_sizeOf ht, hcs]
 cases v <;> first
  | (simp [storeCells, store, Addr.add, Sem.run, hc, hf]; done)
  | (simp [Value.oneCell'] at h1)
/-- a whole row, written into a block that is not frozen -/
theorem OpW.storeA {t : TypeId} {g o : Nat} {e : TypeId} {n : Nat} {cur : Array Value} {cs : List Value} (ht : sizeT P t = some n) (hx : ev ρ x = .pointer (some ⟨g, o, none⟩)) (hy : ev ρ y = aggv cs)
  (hl : cs.length = n) (hg : w.heap[g]? = some (.cells cur e (0, 0))) (hfit : o + cs.length ≤ cur.size) (h1 : ∀ v ∈ cs, v.oneCell' = true)
  (h : K undef (w.setRow g (cur.toList.take o ++ cs ++ cur.toList.drop (o + cs.length)).toArray)) : OpW P (.store t x y) ty ρ K w := by
 refine OpW.unit ?_ h
 subst hl
 have := run_storeCells_at P g o e cs 0 cur w hg (by omega) h1
 simp only [Nat.add_zero] at this
 simp [execOp, hx, hy, Instr.storeAt, Instr.sureAddr, storeVar, run_sizeOf ht, Value.cells, this]

/-! ### new memory -/
theorem run_zeroValue_cells {t : TypeId} {zs : List Value} (ht : zeroT P t = some zs) (w : World) : ∃ z : Value, (zeroValue t).run P w = .ok z w ∧ z.cells = zs.toArray := by
 unfold zeroT at ht
 cases hi : P.info? t with
 | none => simp [hi] at ht
 | some i =>
  simp only [hi, Option.bind_some] at ht
  cases hz : i.zero with
  | none => simp [hz] at ht
  | some z =>
   simp only [hz, Option.map_some, Option.some.injEq] at ht
   refine ⟨z, by simp [zeroValue, typeInfo, hi, hz], ?_⟩
   rw [← ht]
theorem OpW.alloc {t : TypeId} {zs : List Value} (ht : zeroT P t = some zs) (h : K (.pointer (some ⟨w.heap.size, 0, none⟩)) (w.alloc (.cells zs.toArray t))) : OpW P (.alloc t) ty ρ K w := by
 refine OpW.val (w' := w.alloc (.cells zs.toArray t)) ?_ h
 obtain ⟨z, hz, hc⟩ := run_zeroValue_cells ht w
 simp [execOp, Instr.alloc, hz, newVar, newRow, newObj, hc, Sem.run]
theorem OpW.box {t : TypeId} {cs : List Value} (hx : (ev ρ x).cells = cs.toArray) (h : K (.pointer (some ⟨w.heap.size, 0, none⟩)) (w.alloc (.cells cs.toArray t))) : OpW P (.box t x) ty ρ K w := by
 refine OpW.val (w' := w.alloc (.cells cs.toArray t)) ?_ h
 simp [execOp, Instr.box, newVar, newRow, newObj, hx, Sem.run]
/-- A variable that is made and at once given a value. -/
theorem setRow_alloc (w : World) (cs ds : Array Value) (t : TypeId) : (w.alloc (.cells cs t)).setRow w.heap.size ds = w.alloc (.cells ds t) := by
 unfold World.alloc World.setRow
 congr 1
 apply Array.ext
 ·simp
 ·intro i h1 h2
  simp only [Array.getElem_modify, Array.getElem_push]
  split
  ·rename_i e; subst e; simp
  ·rename_i e
   split
   ·rfl
   ·rename_i h3; simp at h1; omega
theorem heap_new (w : World) (o : Obj) : (w.alloc o).heap[w.heap.size]? = some o := by
 show (w.heap.push o)[w.heap.size]? = some o
 simp
theorem OpW.storeFresh {t : TypeId} {zs cs : List Value} {n : Nat} (ht : sizeT P t = some n) (hx : ev ρ x = .pointer (some ⟨w.heap.size, 0, none⟩)) (hy : (ev ρ y).cells = cs.toArray)
  (hl : cs.length = n) (hz : zs.length = n) (h1 : ∀ v ∈ cs, v.oneCell' = true) (h : K undef (w.alloc (.cells cs.toArray t))) : OpW P (.store t x y) ty ρ K (w.alloc (.cells zs.toArray t)) := by
 refine OpW.unit ?_ h
 have := run_storeCells_at P w.heap.size 0 t cs 0 zs.toArray (w.alloc (.cells zs.toArray t)) (heap_new _ _) (by simp; omega) h1
 simp only [Nat.add_zero, Nat.zero_add] at this
 have e : (zs.toArray.toList.take 0 ++ cs ++ zs.toArray.toList.drop cs.length) = cs := by simp [List.drop_of_length_le (show zs.length ≤ cs.length by omega)]
 rw [e, setRow_alloc] at this
 simp [execOp, hx, hy, Instr.storeAt, Instr.sureAddr, storeVar, run_sizeOf ht, hl, this]

/-! ### calls -/
theorem OpW.call {f : FuncId} {fn : Func} {xs : Array Operand} {ts : Array TypeId} {args : Array Value} (hf : P.funcs[f]? = some fn) (hb : fn.body.isNone = false) (hn : decide (fn.name = "runtime.NumGoroutine") = false)
  (ha : xs.map (ev ρ) = args)
  (h : Calls P f args w fun e w' => match e with | .returned v => K v w' | _ => False) : OpW P (.call { callee := .value (.func f), args := xs, argTypes := ts }) ty ρ K w := by
 unfold OpW
 have : (execOp (ev ρ) ⟨none, .call { callee := .value (.func f), args := xs, argTypes := ts }, ty, "", #[], none⟩).run P w = .ok (.enter f args) w := by
  have hn' : ¬ fn.name = "runtime.NumGoroutine" := of_decide_eq_false hn
  simp only [execOp, resolve, ev, Deferred.ofValue]
  have hb' : ¬ fn.body = none := fun e => by simp [e] at hb
  simp [invoke, callFunc, hf, hn', hb', ha, Sem.run, program]
 rw [this]
 exact h
theorem size_mk (xs : List UInt8) : (ByteArray.mk xs.toArray).size = xs.length := rfl
theorem OpW.len {t : TypeId} {s : Sl} {e : TypeId} {n : Nat} (ht : sliceT P t = some (e, n)) (hx : ev ρ x = s.v) (h : K (.int .i64 s.len) w) : OpW P (.call { callee := .builtin .len, args := #[x], argTypes := #[t] }) ty ρ K w := by
 refine OpW.val (w' := w) ?_ h
 unfold sliceT at ht
 split at ht
 ·rename_i e hu
  simp [execOp, resolve, invoke, builtin, Builtin.len_, run_underlying hu, hx, goInt]
 ·simp at ht
theorem OpW.cap {t : TypeId} {s : Sl} {e : TypeId} {n : Nat} (ht : sliceT P t = some (e, n)) (hx : ev ρ x = s.v) (h : K (.int .i64 s.cap) w) : OpW P (.call { callee := .builtin .cap, args := #[x], argTypes := #[t] }) ty ρ K w := by
 refine OpW.val (w' := w) ?_ h
 unfold sliceT at ht
 split at ht
 ·rename_i e hu
  simp [execOp, resolve, invoke, builtin, Builtin.cap_, run_underlying hu, hx, goInt]
 ·simp at ht
theorem OpW.lenStr {t : TypeId} {xs : List UInt8} (ht : P.underlying t = some .string) (hx : ev ρ x = str xs) (h : K (.int .i64 xs.length) w) : OpW P (.call { callee := .builtin .len, args := #[x], argTypes := #[t] }) ty ρ K w := by
 refine OpW.val (w' := w) ?_ h
 simp [execOp, resolve, invoke, builtin, Builtin.len_, run_underlying ht, hx, goInt, size_mk]
theorem OpW.lenArr {t : TypeId} {n m : Nat} (ht : arrT P t = some (n, m)) (h : K (.int .i64 n) w) : OpW P (.call { callee := .builtin .len, args := #[x], argTypes := #[t] }) ty ρ K w := by
 refine OpW.val (w' := w) ?_ h
 unfold arrT at ht
 split at ht
 ·rename_i m e' hu
  split at ht
  ·rename_i j hi
   simp only [Option.some.injEq, Prod.mk.injEq] at ht
   obtain ⟨rfl, rfl⟩ := ht
   simp [execOp, resolve, invoke, builtin, Builtin.len_, run_underlying hu, goInt]
  ·simp at ht
 ·simp at ht
/-- Any operation whose run is known. -/
theorem OpW.runBuiltin {b : Builtin} {xs : Array Operand} {ts : Array TypeId} {args : Array Value} {w' : World} (ha : xs.map (ev ρ) = args) (hr : (builtin b ts ty (xs.map fun | .const _ => true | _ => false) args).run P w = .ok (.value v) w')
  (h : K v w') : OpW P (.call { callee := .builtin b, args := xs, argTypes := ts }) ty ρ K w := by
 refine OpW.val (w' := w') ?_ h
 subst ha
 simp only [execOp, resolve, invoke, Sem.run_bind, Sem.run_pure, Result.andThen_ok]
 exact hr
theorem OpW.append {xs : Array Operand} {ts : Array TypeId} {args : Array Value} {w' : World} (ha : xs.map (ev ρ) = args) (hr : (Builtin.append_ ts ty args).run P w = .ok v w')
  (h : K v w') : OpW P (.call { callee := .builtin .append, args := xs, argTypes := ts }) ty ρ K w :=
 OpW.runBuiltin ha (by simp [builtin, hr]) h
theorem OpW.copy {xs : Array Operand} {ts : Array TypeId} {args : Array Value} {w' : World} (ha : xs.map (ev ρ) = args) (hr : (Builtin.copy_ ts ty args).run P w = .ok v w')
  (h : K v w') : OpW P (.call { callee := .builtin .copy, args := xs, argTypes := ts }) ty ρ K w :=
 OpW.runBuiltin ha (by simp [builtin, hr]) h
theorem OpW.min2 {k l : IntKind} {a b : Int} {t : Array TypeId} (hx : ev ρ x = .int k a) (hy : ev ρ y = .int l b) (h : K (.int k (if b < a then b else a)) w) :
  OpW P (.call { callee := .builtin .min, args := #[x, y], argTypes := t }) ty ρ K w :=
 OpW.runBuiltin (args := #[.int k a, .int l b]) (by simp [hx, hy]) (by simp [builtin, Builtin.min_, Builtin.min2]) h
theorem OpW.max2 {k l : IntKind} {a b : Int} {t : Array TypeId} (hx : ev ρ x = .int k a) (hy : ev ρ y = .int l b) (h : K (.int k (if b > a then b else a)) w) :
  OpW P (.call { callee := .builtin .max, args := #[x, y], argTypes := t }) ty ρ K w :=
 OpW.runBuiltin (args := #[.int k a, .int l b]) (by simp [hx, hy]) (by simp [builtin, Builtin.max_, Builtin.max2]) h
end
end Go.Lift
end
section
/- Operations that cut slices, build values and make memory, over typed values: one law for each. -/
namespace Go.Lift
/-- A slice of a slice, or of an array's variable. -/
def Sl.cut (s : Sl) (n : Nat) (l h m : Int) : Sl := ⟨if m.toNat = l.toNat then s.a else s.a.map (·.add (l.toNat * n)), h.toNat - l.toNat, m.toNat - l.toNat⟩
def optI (ρ : Env) (o : Option Operand) (d l : Int) : Prop := match o with
 | none => l = d
 | some x => ∃ k, ev ρ x = .int k l

def byteSl (P : Program) (t : TypeId) : Bool := match P.underlying t with
 | some (.slice e) => match P.underlying e with
  | some (.int .u8) => true
  | _ => false
 | _ => false
def strT (P : Program) (t : TypeId) : Bool := match P.underlying t with
 | some .string => true
 | _ => false
theorem strT_eq {P : Program} {t : TypeId} (h : strT P t = true) : P.underlying t = some .string := by
 unfold strT at h; split at h <;> simp_all
theorem byteSl_eq {P : Program} {t : TypeId} (h : byteSl P t = true) : ∃ e, P.underlying t = some (.slice e) ∧ P.underlying e = some (.int .u8) := by
 unfold byteSl at h
 split at h
 ·rename_i e he
  split at h
  ·rename_i h2; exact ⟨e, he, h2⟩
  ·simp at h
 ·simp at h

/-- What 'make' of a slice gives: its cells. -/
def mkCells (P : Program) (t : TypeId) : Option (TypeId × Nat × Nat × List Value) := match P.underlying t with
 | some (.slice e) => match P.info? e with
  | some i => match i.zero with
   | some z => some (e, i.size, i.bytes, z.cells.toList)
   | none => none
  | none => none
 | _ => none
def fillCells (P : Program) (t : TypeId) (len : Nat) (parts : List (Nat × Value)) : Option (TypeId × Array Value) := match P.underlying t with
 | some (.slice e) => match P.info? e with
  | some i => match i.zero with
   | some z => if len * i.size > 2 ^ 24 then none else
    let zero := if len * i.size = 0 then #[] else z.cells
    (Instr.fill (fun k => some (k * i.size, i.size)) ((Array.range (len * i.size)).map (zero[· % zero.size]!)) parts).map (e, ·)
   | none => none
  | none => none
 | _ => none
theorem foldl_set (l : List Value) : ∀ (k : Nat) (cells : Array Value), k + l.length ≤ cells.size →
  ((l.zipIdx k).foldl (fun (cs : Array Value) (p : Value × Nat) => cs.setIfInBounds (0 + p.2) p.1) cells).toList = cells.toList.take k ++ l ++ cells.toList.drop (k + l.length) := by
 induction l with
 | nil => intro k cells h; simp
 | cons c l ih =>
  intro k cells h
  simp only [List.length_cons] at h
  rw [List.zipIdx_cons, List.foldl_cons, ih (k + 1) _ (by simp; omega)]
  simp only [Nat.zero_add, Array.toList_setIfInBounds, List.length_cons]
  rw [List.take_set, List.drop_set_of_lt (by omega)]
  have hk : k < cells.toList.length := by simp; omega
  rw [List.take_succ_eq_append_getElem hk, List.set_append]
  have hlk : (List.take k cells.toList).length = k := by simp; omega
  rw [hlk, if_neg (by omega), Nat.sub_self]
  simp only [List.set_cons_zero, List.append_assoc, List.cons_append, List.nil_append]
  rw [show k + 1 + l.length = k + (l.length + 1) by omega]
theorem fillOne {P : Program} {t e : TypeId} {size bytes : Nat} {zs cs : List Value} (h : mkCells P t = some (e, size, bytes, zs)) (hz : zs.length = size) (hs : size ≤ 16777216) (h0 : 0 < size) (hl : cs.length = size) : fillCells P t 1 [(0, .agg cs.toArray)] = some (e, cs.toArray) := by
 unfold mkCells at h
 unfold fillCells
 split at h
 ·rename_i e' hu
  split at h
  ·rename_i i hi
   split at h
   ·rename_i z hzz
    simp only [Option.some.injEq, Prod.mk.injEq] at h
    obtain ⟨rfl, hsz, hby, hzs⟩ := h
    simp only [hu, hi, hzz, hsz]
    rw [if_neg (by omega)]
    have hzc : z.cells.size = size := by rw [← hz, ← hzs]; simp
    have hv : (Value.agg cs.toArray).cells = cs.toArray := rfl
    generalize z.cells = zc at hzc
    have hn : ¬ (1 * size = 0) := by omega
    have hg : ¬ (cs.toArray.size ≠ size ∨ 0 * size + cs.toArray.size > ((Array.range (1 * size)).map (fun x => zc[x % zc.size]!)).size) := by simp; omega
    simp only [Instr.fill, hv, hn, if_false, hzc] at hg ⊢
    rw [if_neg (by simpa using hg)]
    simp only [Option.map_some, Option.some.injEq, Prod.mk.injEq, true_and]
    apply Array.ext'
    have := foldl_set cs 0 ((Array.range (1 * size)).map (fun x => zc[x % size]!)) (by simp; omega)
    rw [← Array.foldl_toList]
    simp only [Array.toList_zipIdx, Nat.zero_mul]
    rw [this]
    simp [hl]
   ·simp at h
  ·simp at h
 ·simp at h
def structPlaces (P : Program) (fs : Array Field) : Option (List (Nat × Nat)) :=
 fs.toList.foldr (fun f acc => match acc, P.info? f.type with
  | some l, some i => some ((f.offset, i.size) :: l)
  | _, _ => none) (some [])

section
variable {P : Program} {ty : TypeId} {ρ : Env} {K : Value → World → Prop} {w : World} {x y z : Operand} {v : Value}

theorem OpW.b2s {s d : TypeId} {sl : Sl} {bs : List UInt8} (hs : byteSl P s = true) (hd : strT P d = true) (hx : ev ρ x = sl.v) (hl : bs.length = sl.len) (hc : AtO w sl.a (u8s bs)) (h : K (str bs) w) :
  OpW P (.convert s d x) ty ρ K w := by
 refine OpW.val (w' := w) ?_ h
 obtain ⟨e, h1, h2⟩ := byteSl_eq hs
 have h3 := strT_eq hd
 obtain ⟨a, l, c⟩ := sl
 simp only at hl hc
 subst hl
 cases a with
 | none =>
  have : bs = [] := by
   have : u8s bs = [] := hc
   simpa [u8s] using this
  subst this
  simp only [execOp, hx, convert, Sem.run_bind, run_underlying h1, run_underlying h2, run_underlying h3, Result.andThen_ok]
  rfl
 | some a =>
  have hr := run_convert_bytes_back (P := P) w s d e a c bs h1 h2 h3 (fun j hj => hc j _ (by simp [u8s, List.getElem?_eq_getElem hj]))
  simp only [execOp, hx, Sem.run_bind, hr, Result.andThen_ok]
  rfl

theorem OpW.s2b {s d : TypeId} {bs : List UInt8} (hs : strT P s = true) (hd : byteSl P d = true) (hx : ev ρ x = str bs)
  (h : ∀ (e : TypeId) (n : Nat), bs.length ≤ n → n ≤ maxLen ∨ maxLen < bs.length → K (.slice (some ⟨w.heap.size, 0, none⟩) bs.length n) (w.drew.alloc (.cells (u8s bs ++ List.replicate (n - bs.length) (Value.int .u8 0)).toArray e (n, n + 1)))) :
  OpW P (.convert s d x) ty ρ K w := by
 obtain ⟨e, h1, h2⟩ := byteSl_eq hd
 have h3 := strT_eq hs
 have hr := run_bytes_of_string (P := P) w s d e ⟨bs.toArray⟩ h3 h1 h2
 have hge := grownCap_ge w bs.length 0 e
 have hrow : bytesRow ⟨bs.toArray⟩ (grownCap w bs.length 0 e) = (u8s bs ++ List.replicate (grownCap w bs.length 0 e - bs.length) (Value.int .u8 0)).toArray := by
  simp [bytesRow, u8s, size_mk]
 have hsz : (u8s bs ++ List.replicate (grownCap w bs.length 0 e - bs.length) (Value.int .u8 0)).toArray.size = grownCap w bs.length 0 e := by
  simp [u8s]; omega
 simp only [size_mk] at hr
 rw [hrow, hsz] at hr
 refine OpW.val (w' := _) ?_ (h e (grownCap w bs.length 0 e) hge ?_)
 ·simp only [execOp, hx, Sem.run_bind, hr, Result.andThen_ok]
  rfl
 ·by_cases hm : bs.length ≤ maxLen
  ·exact .inl (grownCap_le_maxLen w _ _ _ hm)
  ·exact .inr (by omega)

/-- '[]byte("..")' as the translation has it: the row, marked. -/
theorem OpW.mark {t : TypeId} {sl : Sl} {b o : Nat} {c : Array Value} {e : TypeId} {fr : Nat × Nat} (ht : byteSl P t = true) (hx : ev ρ x = sl.v) (ha : sl.a = some ⟨b, o, none⟩) (hg : w.heap[b]? = some (.cells c e fr))
  (h : K sl.v (w.freeze ⟨b, c.size, none⟩ 1)) : OpW P (.convert t t x) ty ρ K w := by
 refine OpW.val (w' := w.freeze ⟨b, c.size, none⟩ 1) ?_ h
 obtain ⟨e', h1, h2⟩ := byteSl_eq ht
 obtain ⟨a, l, cp⟩ := sl
 simp only at ha
 subst ha
 have hsh : w.shape? b = some (e, c.size) := by simp [World.shape?, hg]
 simp [execOp, hx, convert, run_underlying h1, run_underlying h2, markStringish, hsh]

theorem OpW.sliceSl {t e : TypeId} {n : Nat} {s : Sl} {lo hi : Option Operand} {l h : Int} (ht : sliceT P t = some (e, n)) (hx : ev ρ x = s.v) (hlo : optI ρ lo 0 l) (hhi : optI ρ hi s.len h)
  (h0 : 0 ≤ l) (h1 : l ≤ h) (h2 : hi = none ∨ h ≤ s.cap) (hk : K (s.cut n l h s.cap).v w) : OpW P (.slice t x lo hi none) ty ρ K w := by
 refine OpW.val (w' := w) ?_ hk
 obtain ⟨a, len, cap⟩ := s
 obtain ⟨h, rfl⟩ := Int.eq_ofNat_of_zero_le (show 0 ≤ h by omega)
 obtain ⟨l, rfl⟩ := Int.eq_ofNat_of_zero_le h0
 have h1' : l ≤ h := by omega
 unfold sliceT at ht
 split at ht
 ·rename_i e' hu
  split at ht
  ·rename_i j hi'
   simp only [Option.some.injEq, Prod.mk.injEq] at ht
   obtain ⟨rfl, rfl⟩ := ht
   cases lo with
   | none =>
    have hl0 : l = 0 := by simpa [optI] using hlo
    subst hl0
    cases hi with
    | none =>
     have hh0 : h = len := by simp only [optI] at hhi; exact Int.ofNat.inj hhi
     subst hh0
     simp [execOp, hx, Instr.sliceAt, Instr.slice, run_underlying hu, Instr.sliceBounds, sizeOf, typeInfo, hi', Sl.cut]
    | some o =>
     obtain ⟨k, hk'⟩ := hhi
     have h2' : h ≤ cap := by have := h2.resolve_left (by simp); simp only at this; omega
     simp [execOp, hx, hk', Instr.sliceAt, Instr.slice, run_underlying hu, Instr.sliceBounds, Instr.sliceBound, asIntOf, sizeOf, typeInfo, hi', Sl.cut, h2']
   | some q =>
    obtain ⟨k, hq⟩ := hlo
    cases hi with
    | none =>
     have hh0 : h = len := by simp only [optI] at hhi; exact Int.ofNat.inj hhi
     subst hh0
     simp [execOp, hx, hq, Instr.sliceAt, Instr.slice, run_underlying hu, Instr.sliceBounds, Instr.sliceBound, asIntOf, sizeOf, typeInfo, hi', Sl.cut, h1']
    | some o =>
     obtain ⟨k, hk'⟩ := hhi
     have h2' : h ≤ cap := by have := h2.resolve_left (by simp); simp only at this; omega
     simp [execOp, hx, hk', hq, Instr.sliceAt, Instr.slice, run_underlying hu, Instr.sliceBounds, Instr.sliceBound, asIntOf, sizeOf, typeInfo, hi', Sl.cut, h2', h1']
  ·simp at ht
 ·simp at ht

theorem OpW.slice3 {t e : TypeId} {n : Nat} {s : Sl} {lo : Option Operand} {hi mx : Operand} {l h m : Int} {k1 k2 : IntKind} (ht : sliceT P t = some (e, n)) (hx : ev ρ x = s.v) (hlo : optI ρ lo 0 l) (hhi : ev ρ hi = .int k1 h) (hmx : ev ρ mx = .int k2 m)
  (h0 : 0 ≤ l) (h1 : l ≤ h) (h2 : h ≤ m) (h3 : m ≤ s.cap) (hk : K (s.cut n l h m).v w) : OpW P (.slice t x lo (some hi) (some mx)) ty ρ K w := by
 refine OpW.val (w' := w) ?_ hk
 obtain ⟨a, len, cap⟩ := s
 simp only at h3
 obtain ⟨m, rfl⟩ := Int.eq_ofNat_of_zero_le (show 0 ≤ m by omega)
 obtain ⟨h, rfl⟩ := Int.eq_ofNat_of_zero_le (show 0 ≤ h by omega)
 obtain ⟨l, rfl⟩ := Int.eq_ofNat_of_zero_le h0
 have h1' : l ≤ h := by omega
 have h2' : h ≤ m := by omega
 have h3' : m ≤ cap := by omega
 unfold sliceT at ht
 split at ht
 ·rename_i e' hu
  split at ht
  ·rename_i j hi'
   simp only [Option.some.injEq, Prod.mk.injEq] at ht
   obtain ⟨rfl, rfl⟩ := ht
   cases lo with
   | none =>
    have hl0 : l = 0 := by simpa [optI] using hlo
    subst hl0
    simp [execOp, hx, hhi, hmx, Instr.sliceAt, Instr.slice, run_underlying hu, Instr.sliceBounds, Instr.sliceBound, asIntOf, sizeOf, typeInfo, hi', Sl.cut, h2', h3']
   | some q =>
    obtain ⟨k, hq⟩ := hlo
    simp [execOp, hx, hhi, hmx, hq, Instr.sliceAt, Instr.slice, run_underlying hu, Instr.sliceBounds, Instr.sliceBound, asIntOf, sizeOf, typeInfo, hi', Sl.cut, h1', h2', h3']
  ·simp at ht
 ·simp at ht

theorem OpW.sliceArr {t : TypeId} {len n : Nat} {a : Addr} {lo hi : Option Operand} {l h : Int} (ht : arrT P t = some (len, n)) (hx : ev ρ x = .pointer (some a)) (hlo : optI ρ lo 0 l) (hhi : optI ρ hi len h)
  (h0 : 0 ≤ l) (h1 : l ≤ h) (h2 : h ≤ len) (hk : K (Sl.cut ⟨some a, len, len⟩ n l h len).v w) : OpW P (.slice t x lo hi none) ty ρ K w := by
 refine OpW.val (w' := w) ?_ hk
 obtain ⟨h, rfl⟩ := Int.eq_ofNat_of_zero_le (show 0 ≤ h by omega)
 obtain ⟨l, rfl⟩ := Int.eq_ofNat_of_zero_le h0
 have h1' : l ≤ h := by omega
 have h2' : h ≤ len := by omega
 have hif : ∀ (c : Prop) [Decidable c] (a b : Addr), some (if c then a else b) = if c then some a else some b := fun c _ a b => by split <;> rfl
 unfold arrT at ht
 split at ht
 ·rename_i m e' hu
  split at ht
  ·rename_i j hi'
   simp only [Option.some.injEq, Prod.mk.injEq] at ht
   obtain ⟨rfl, rfl⟩ := ht
   cases lo with
   | none =>
    have hl0 : l = 0 := by simpa [optI] using hlo
    subst hl0
    cases hi with
    | none =>
     have hh0 : h = m := by simp only [optI] at hhi; exact Int.ofNat.inj hhi
     subst hh0
     simp [execOp, hx, Instr.sliceAt, Instr.sureAddr, run_underlying hu, Instr.sliceBounds, sizeOf, typeInfo, hi', Sl.cut, hif]
    | some o =>
     obtain ⟨k, hk'⟩ := hhi
     simp [execOp, hx, hk', Instr.sliceAt, Instr.sureAddr, run_underlying hu, Instr.sliceBounds, Instr.sliceBound, asIntOf, sizeOf, typeInfo, hi', Sl.cut, h2', hif]
   | some q =>
    obtain ⟨k, hq⟩ := hlo
    cases hi with
    | none =>
     have hh0 : h = m := by simp only [optI] at hhi; exact Int.ofNat.inj hhi
     subst hh0
     simp [execOp, hx, hq, Instr.sliceAt, Instr.sureAddr, run_underlying hu, Instr.sliceBounds, Instr.sliceBound, asIntOf, sizeOf, typeInfo, hi', Sl.cut, h1', hif]
    | some o =>
     obtain ⟨k, hk'⟩ := hhi
     simp [execOp, hx, hk', hq, Instr.sliceAt, Instr.sureAddr, run_underlying hu, Instr.sliceBounds, Instr.sliceBound, asIntOf, sizeOf, typeInfo, hi', Sl.cut, h1', h2', hif]
  ·simp at ht
 ·simp at ht

theorem extract_mk (xs : List UInt8) (l h : Nat) (hh : h ≤ xs.length) : (ByteArray.mk xs.toArray).extract l h = ByteArray.mk ((xs.take h).drop l).toArray := by
 apply ByteArray.ext
 rw [ByteArray.data_extract]
 simp only [List.extract_toArray, List.extract_eq_take_drop]
 congr 1
 rw [List.drop_take]

theorem OpW.sliceStr {t : TypeId} {xs : List UInt8} {lo hi : Option Operand} {l h : Int} (ht : strT P t = true) (hx : ev ρ x = str xs) (hlo : optI ρ lo 0 l) (hhi : optI ρ hi xs.length h)
  (h0 : 0 ≤ l) (h1 : l ≤ h) (h2 : h ≤ xs.length) (hk : K (str ((xs.take h.toNat).drop l.toNat)) w) : OpW P (.slice t x lo hi none) ty ρ K w := by
 refine OpW.val (w' := w) ?_ hk
 have hu := strT_eq ht
 obtain ⟨h, rfl⟩ := Int.eq_ofNat_of_zero_le (show 0 ≤ h by omega)
 obtain ⟨l, rfl⟩ := Int.eq_ofNat_of_zero_le h0
 have h1' : l ≤ h := by omega
 have h2' : h ≤ xs.length := by omega
 have he := extract_mk xs l h h2'
 simp only [Int.toNat_natCast]
 rw [show str ((xs.take h).drop l) = .string ((ByteArray.mk xs.toArray).extract l h) from by rw [he]]
 cases lo with
 | none =>
  have hl0 : l = 0 := by simpa [optI] using hlo
  subst hl0
  cases hi with
  | none =>
   have hh0 : h = xs.length := by simp only [optI] at hhi; exact Int.ofNat.inj hhi
   subst hh0
   rw [he]
   simp [execOp, hx, Instr.sliceAt, Instr.slice, run_underlying hu, Instr.sliceBounds, size_mk]
  | some o =>
   obtain ⟨k, hk'⟩ := hhi
   simp [execOp, hx, hk', Instr.sliceAt, Instr.slice, run_underlying hu, Instr.sliceBounds, Instr.sliceBound, asIntOf, size_mk, h2']
 | some q =>
  obtain ⟨k, hq⟩ := hlo
  cases hi with
  | none =>
   have hh0 : h = xs.length := by simp only [optI] at hhi; exact Int.ofNat.inj hhi
   subst hh0
   simp [execOp, hx, hq, Instr.sliceAt, Instr.slice, run_underlying hu, Instr.sliceBounds, Instr.sliceBound, asIntOf, size_mk, h1']
  | some o =>
   obtain ⟨k, hk'⟩ := hhi
   simp [execOp, hx, hk', hq, Instr.sliceAt, Instr.slice, run_underlying hu, Instr.sliceBounds, Instr.sliceBound, asIntOf, size_mk, h2', h1']

/-! ### building -/
theorem OpW.buildSlice {t e : TypeId} {len : Nat} {parts : Array (Nat × Operand)} {vs : List (Nat × Value)} {cs : List Value} (hv : (parts.map fun (i, q) => (i, ev ρ q)).toList = vs)
  (hf : fillCells P t len vs = some (e, cs.toArray)) (h : K (.slice (some ⟨w.heap.size, 0, none⟩) len len) (w.alloc (.cells cs.toArray e))) : OpW P (.buildSlice t len parts) ty ρ K w := by
 refine OpW.val (w' := w.alloc (.cells cs.toArray e)) ?_ h
 unfold fillCells at hf
 split at hf
 ·rename_i e' hu
  split at hf
  ·rename_i i hi
   split at hf
   ·rename_i z hz
    split at hf
    ·simp at hf
    ·rename_i hle
     simp only [Option.map_eq_some_iff, Prod.mk.injEq] at hf
     obtain ⟨cells, hfill, rfl, rfl⟩ := hf
     by_cases h00 : len * i.size = 0
     ·simp only [h00, if_true] at hfill
      simp only [execOp, Instr.buildSlice, Sem.run_bind, Sem.run_pure, run_underlying hu, Result.andThen_ok, sizeOf, typeInfo, program, Sem.run, hi, if_false, h00, if_true, show ¬ (0 > 2 ^ 24) from by decide]
      rw [hv, hfill]
      simp [newRow, newObj, Sem.run]
     ·simp only [h00, if_false] at hfill
      have hzr : (zeroValue e').run P w = .ok z w := by simp [zeroValue, typeInfo, hi, hz]
      simp only [execOp, Instr.buildSlice, Sem.run_bind, Sem.run_pure, run_underlying hu, Result.andThen_ok, sizeOf, typeInfo, program, Sem.run, hi, hle, if_false, h00, hzr]
      rw [hv, hfill]
      simp [newRow, newObj, Sem.run]
   ·simp at hf
  ·simp at hf
 ·simp at hf

theorem OpW.buildRun {t : TypeId} {parts : Array (Nat × Operand)} {vs : List (Nat × Value)} {cs : List Value} (hv : (parts.map fun (i, q) => (i, ev ρ q)).toList = vs)
  (hf : ∀ w, (Instr.build t vs.toArray).run P w = .ok (aggv cs) w) (h : K (aggv cs) w) : OpW P (.build t parts) ty ρ K w := by
 refine OpW.val (w' := w) ?_ h
 subst hv
 simp only [Array.toArray_toList] at hf
 simp [execOp, hf]

theorem range_map_replicate {size : Nat} (hs : 0 < size) (z : Value) (n : Nat) : (Array.range n).map (fun k => (List.replicate size z).toArray[k % (List.replicate size z).toArray.size]!) = (List.replicate n z).toArray := by
 apply Array.ext
 ·simp
 ·intro i h1 h2
  simp at h1
  have : i % size < size := Nat.mod_lt _ hs
  simp [this]

theorem OpW.makeSlice {t e : TypeId} {size bytes : Nat} {z : Value} {k1 k2 : IntKind} {l c : Int} (ht : mkCells P t = some (e, size, bytes, List.replicate size z)) (hs : 0 < size) (hx : ev ρ x = .int k1 l) (hy : ev ρ y = .int k2 c)
  (h0 : 0 ≤ l) (h1 : l ≤ c) (h2 : bytes * c ≤ 140737488355328) (h3 : c ≤ 9223372036854775807)
  (h : K (.slice (some ⟨w.heap.size, 0, none⟩) l.toNat c.toNat) (w.alloc (.cells (List.replicate (c.toNat * size) z).toArray e))) : OpW P (.makeSlice t x y) ty ρ K w := by
 refine OpW.val (w' := w.alloc (.cells (List.replicate (c.toNat * size) z).toArray e)) ?_ h
 unfold mkCells at ht
 split at ht
 ·rename_i e' hu
  split at ht
  ·rename_i i hi
   split at ht
   ·rename_i zv hz
    simp only [Option.some.injEq, Prod.mk.injEq] at ht
    obtain ⟨rfl, rfl, rfl, hzc⟩ := ht
    have hl : IntKind.i64.wrap l = l := by simp [IntKind.wrap, IntKind.signed, IntKind.bits]; omega
    have hc : IntKind.i64.wrap c = c := by simp [IntKind.wrap, IntKind.signed, IntKind.bits]; omega
    have hzc' : zv.cells = (List.replicate i.size z).toArray := by rw [← hzc]
    have hroom : ¬ (c.toNat * i.bytes > roomBytes) := by
     have : ((c.toNat * i.bytes : Nat) : Int) = i.bytes * c := by rw [Int.natCast_mul, Int.toNat_of_nonneg (by omega), Int.mul_comm]
     simp only [roomBytes]; omega
    have hz0 : (if c.toNat * i.size = 0 then (pure #[] : Sem (Array Value)) else do pure (← zeroValue e').cells).run P w = .ok (if c.toNat * i.size = 0 then #[] else zv.cells) w := by
     split
     ·rfl
     ·simp [zeroValue, typeInfo, hi, hz]
    have hcells : (Array.range (c.toNat * i.size)).map (fun k => (if c.toNat * i.size = 0 then #[] else zv.cells)[k % (if c.toNat * i.size = 0 then #[] else zv.cells).size]!) = (List.replicate (c.toNat * i.size) z).toArray := by
     split
     ·rename_i h0; rw [h0]; simp
     ·rw [hzc', range_map_replicate hs]
    have hbig : ¬ ((decide (c < 0) || decide (i.bytes * c > 2 ^ 48) || decide (l < 0) || decide (l > c)) = true) := by
     simp; omega
    simp only [execOp, hx, hy, Instr.makeSlice, Sem.run_bind, Sem.run_pure, run_underlying hu, Result.andThen_ok, asInt, asIntOf, typeInfo, program, Sem.run, hi, hl, hc]
    rw [if_neg (by simp; omega)]
    simp only [Sem.run_bind, Sem.run_pure, Result.andThen_ok, askRoom, if_neg hroom, sizeOf, typeInfo, program, Sem.run, hi, hz0, hcells]
    simp [newRow, newObj, Sem.run]
    split
    ·rename_i h00
     have e1 : ∀ f : Nat → Value, Array.map f (Array.range 0) = Array.replicate 0 z := fun f => by apply Array.ext <;> simp
     rw [h00, e1]
    ·rename_i h00
     have hzr : (zeroValue e').run P w = .ok zv w := by simp [zeroValue, typeInfo, hi, hz]
     rw [hzr]
     simp only [Result.andThen_ok, hzc', range_map_replicate hs]
     simp
   ·simp at ht
  ·simp at ht
 ·simp at ht
end
end Go.Lift
end
section
/- The words of the typed reading of a function, and the rules that join its ways. -/
namespace Go.Lift
def ldI (k : IntKind) (a : Addr) (w : World) (K : Int → Prop) : Prop := ∃ n, w.cell? a = some (.int k n) ∧ K n
def ldB (a : Addr) (w : World) (K : Bool → Prop) : Prop := ∃ b, w.cell? a = some (.bool b) ∧ K b
def ldS (a : Addr) (w : World) (K : List UInt8 → Prop) : Prop := ∃ xs, w.cell? a = some (str xs) ∧ K xs
def ldP (a : Addr) (w : World) (K : Option Addr → Prop) : Prop := ∃ p, w.cell? a = some (.pointer p) ∧ K p
def ldL (a : Addr) (w : World) (K : Sl → Prop) : Prop := ∃ s : Sl, w.cell? a = some s.v ∧ K s
def ldM (a : Addr) (w : World) (K : Option Nat → Prop) : Prop := ∃ s, w.cell? a = some (.map s) ∧ K s
def ldA (n : Nat) (a : Addr) (w : World) (K : List Value → Prop) : Prop := ∃ cs, cs.length = n ∧ At w a cs ∧ K cs
def st1 (a : Addr) (v : Value) (w : World) (K : World → Prop) : Prop := ∃ u, w.cell? a = some u ∧ w.frozen? a = false ∧ ∀ w', w' = w.setCell a v → K w'
def stA (n : Nat) (a : Addr) (cs : List Value) (w : World) (K : World → Prop) : Prop :=
  ∃ g o e cur, a = ⟨g, o, none⟩ ∧ cs.length = n ∧ w.heap[g]? = some (.cells cur e (0, 0)) ∧ o + cs.length ≤ cur.size ∧ (∀ v ∈ cs, v.oneCell' = true) ∧
    ∀ w', w' = w.setRow g (cur.toList.take o ++ cs ++ cur.toList.drop (o + cs.length)).toArray → K w'
def nn (p : Option Addr) (K : Addr → Prop) : Prop := ∃ a, p = some a ∧ K a
def ix (s : Sl) (n : Nat) (i : Int) (K : Addr → Prop) : Prop := ∃ a a', s.a = some a ∧ 0 ≤ i ∧ i < s.len ∧ a' = a.add (i.toNat * n) ∧ K a'
def ixA (len n : Nat) (a : Addr) (i : Int) (K : Addr → Prop) : Prop := 0 ≤ i ∧ i < len ∧ ∀ a', a' = a.add (i.toNat * n) → K a'
def ixS (xs : List UInt8) (i : Int) (K : UInt8 → Prop) : Prop := ∃ c, 0 ≤ i ∧ xs[i.toNat]? = some c ∧ K c
def newB (e : TypeId) (cs : List Value) (w : World) (K : Nat → World → Prop) : Prop := ∀ b w', b = w.heap.size → w' = w.alloc (.cells cs.toArray e) → K b w'
def newA (n : Nat) (e : TypeId) (cs : List Value) (w : World) (K : Nat → World → Prop) : Prop := cs.length = n ∧ (∀ v ∈ cs, v.oneCell' = true) ∧ ∀ b w', b = w.heap.size → w' = w.alloc (.cells cs.toArray e) → K b w'
def b2s (s : Sl) (w : World) (K : List UInt8 → Prop) : Prop := ∃ bs, bs.length = s.len ∧ AtO w s.a (u8s bs) ∧ K bs
def s2b (bs : List UInt8) (w : World) (K : Sl → World → Prop) : Prop := ∀ (e : TypeId) (n b : Nat) (w' : World), bs.length ≤ n → n ≤ maxLen ∨ maxLen < bs.length → b = w.heap.size →
  w' = w.drew.alloc (.cells (u8s bs ++ List.replicate (n - bs.length) (Value.int .u8 0)).toArray e (n, n + 1)) → K ⟨some ⟨b, 0, none⟩, bs.length, n⟩ w'
def mkd (s : Sl) (w : World) (K : World → Prop) : Prop := ∃ b o c e fr, s.a = some ⟨b, o, none⟩ ∧ w.heap[b]? = some (.cells c e fr) ∧ ∀ w', w' = w.freeze ⟨b, c.size, none⟩ 1 → K w'
def mkS (e : TypeId) (size bytes : Nat) (z : Value) (l c : Int) (w : World) (K : Sl → World → Prop) : Prop := 0 ≤ l ∧ l ≤ c ∧ bytes * c ≤ 140737488355328 ∧ c ≤ 9223372036854775807 ∧
  ∀ b w', b = w.heap.size → w' = w.alloc (.cells (List.replicate (c.toNat * size) z).toArray e) → K ⟨some ⟨b, 0, none⟩, l.toNat, c.toNat⟩ w'
def drw (w : World) (K : World → Prop) : Prop := ∀ w', w' = w.drew → K w'
def rq (p K : Prop) : Prop := p ∧ K
def ifB (b : Bool) (x y : Prop) : Prop := (b = true → x) ∧ (b = false → y)
def jn {J : Sort _} (body : J → Prop) (k : J) : Prop := body k
def cR {α : Type} (P : Program) (f : FuncId) (mk : α → Value) (args : Array Value) (w : World) (K : α → World → Prop) : Prop :=
  Calls P f args w fun e w' => ∃ x, e = .returned (mk x) ∧ K x w'
def app (P : Program) (t : TypeId) (s x : Sl) (w : World) (K : Sl → World → Prop) : Prop :=
  ∃ (s' : Sl) (w' : World), (Builtin.append_ #[t, t] t #[s.v, x.v]).run P w = .ok s'.v w' ∧ K s' w'
def appV (P : Program) (ts : Array TypeId) (t : TypeId) (args : Array Value) (w : World) (K : Sl → World → Prop) : Prop :=
  ∃ (s' : Sl) (w' : World), (Builtin.append_ ts t args).run P w = .ok s'.v w' ∧ K s' w'
def cpy (P : Program) (ts : Array TypeId) (ty : TypeId) (args : Array Value) (w : World) (K : Int → World → Prop) : Prop :=
  ∃ (n : Int) (w' : World), (Builtin.copy_ ts ty args).run P w = .ok (.int .i64 n) w' ∧ K n w'
def mn (a b : Int) : Int := if b < a then b else a
def mx (a b : Int) : Int := if b > a then b else a
def bnd {α : Sort _} (x : α) (K : α → Prop) : Prop := ∀ y, y = x → K y
/-- What a call answers. -/
def Ret {α : Type} (mk : α → Value) (K : α → World → Prop) : Ending → World → Prop := fun e w' => ∃ x, e = .returned (mk x) ∧ K x w'

theorem jn_of {J : Sort _} {body : J → Prop} {k : J} (h : ∀ k', k' = k → body k') : jn body k := h k rfl
theorem jn_elim {J : Sort _} {body : J → Prop} {k : J} (h : jn body k) {G : Prop} (H : ∀ k', k' = k → body k' → G) : G := H k rfl h

section
variable {P : Program} {n : Nat} {ops : Array Oper} {Q : Exit → Env → World → Prop} {ρ : Env} {w : World} {l : List Oper}

theorem CW.seqJ {x y : Code} {A : Type} (E : A → Env → Prop) (k : A → World → Prop) (h1 : ∀ s ρ w, E s ρ → k s w → CW P n y Q ρ w)
    (h2 : CW P n x (thenQ (fun ρ w => ∃ s, E s ρ ∧ k s w) Q) ρ w) : CW P n (.seq x y) Q ρ w := by
  refine CW.seq fun a hs hd he => wp_mono (h2 a hs hd he) ?_
  intro e a' w' hq
  cases e with
  | normal => obtain ⟨a1, a2, s, a3, a4⟩ := hq; exact ⟨a1, a2, h1 s _ _ a3 a4⟩
  | panic c => exact hq.elim
  | outgrown => exact hq.elim
  | exit id => exact hq
  | goto l => exact hq
  | ret => exact hq

theorem wpList_append {Q' : Exit → Act → World → Prop} (hout : ¬ LetsOut Q') (l2 : List Oper) : ∀ (l1 : List Oper) (a : Act) (w : World),
    wpList P ops (fun e a w => match e with | .normal => wpList P ops Q' l2 a w | e => Q' e a w) l1 a w → wpList P ops Q' (l1 ++ l2) a w
  | [], a, w, h => h
  | o :: l1, a, w, h => by
    simp only [List.cons_append, wpList] at h ⊢
    split
    · rename_i hw
      rw [if_pos hw] at h
      rcases h with h | ⟨_, a0, w0, h⟩
      · refine .inl ?_
        unfold Oper.wp at *
        generalize (execOp a.eval o).run P w = r at *
        cases r with
        | ok nx w' =>
          cases nx <;> simp only [Oper.upon] at h ⊢ <;> first
            | exact wpList_append hout l2 l1 _ _ h
            | exact h
            | (refine Calls.mono h fun e w'' he => ?_
               cases e with
               | returned v => exact wpList_append hout l2 l1 _ _ he
               | panicked c => exact he
               | outgrown => exact he)
            | (refine Rows.mono h fun v w'' he => wpList_append hout l2 l1 _ _ he)
        | halt x w' => cases x <;> simp only [Oper.upon] at h ⊢ <;> exact h
      · exact absurd ⟨a0, w0, h⟩ hout
    · rename_i hw
      rw [if_neg hw] at h
      exact wpList_append hout l2 l1 _ _ h

theorem wpList_mono {Q' Q'' : Exit → Act → World → Prop} (hq : ∀ e a w, Q' e a w → Q'' e a w) : ∀ (l : List Oper) (a : Act) (w : World), wpList P ops Q' l a w → wpList P ops Q'' l a w
  | [], a, w, h => hq _ _ _ h
  | o :: l, a, w, h => by
    simp only [wpList] at h ⊢
    split
    · rename_i hw
      rw [if_pos hw] at h
      rcases h with h | ⟨h1, a0, w0, h2⟩
      · refine .inl ?_
        unfold Oper.wp at *
        generalize (execOp a.eval o).run P w = r at *
        cases r with
        | ok nx w' =>
          cases nx <;> simp only [Oper.upon] at h ⊢ <;> first
            | exact wpList_mono hq l _ _ h
            | exact h
            | (refine Calls.mono h fun e w'' he => ?_
               cases e with
               | returned v => exact wpList_mono hq l _ _ he
               | panicked c => exact hq _ _ _ he
               | outgrown => obtain ⟨a1, w1, h1⟩ := he; exact ⟨a1, w1, hq _ _ _ h1⟩)
            | (refine Rows.mono h fun v w'' he => wpList_mono hq l _ _ he)
        | halt x w' => cases x <;> simp only [Oper.upon] at h ⊢ <;> first | exact hq _ _ _ h | exact h
      · exact .inr ⟨h1, a0, w0, hq _ _ _ h2⟩
    · rename_i hw
      rw [if_neg hw] at h
      exact wpList_mono hq l _ _ h

theorem RL.joinAt {A : Type} (m : Nat) (E : A → Env → Prop) (k : A → World → Prop) (h1 : ∀ s ρ w, E s ρ → k s w → RL P n ops Q (l.drop m) ρ w)
    (h2 : RL P n ops (thenQ (fun ρ w => ∃ s, E s ρ ∧ k s w) Q) (l.take m) ρ w) : RL P n ops Q l ρ w := by
  intro a hs hd he
  rw [← List.take_append_drop m l]
  refine wpList_append (by rintro ⟨_, _, h⟩; exact h) _ _ _ _ (wpList_mono ?_ _ _ _ (h2 a hs hd he))
  intro e a' w' hq
  cases e with
  | normal => obtain ⟨a1, a2, s, a3, a4⟩ := hq; exact h1 s _ _ a3 a4 a' a1 a2 rfl
  | panic c => exact hq.elim
  | outgrown => exact hq.elim
  | exit id => exact hq
  | goto l => exact hq
  | ret => exact hq

theorem ret_intro {fn : Func} {R : Ending → World → Prop} {v : Value} (hr : ∀ tmps : Array Value, (∀ i, tmps.getD i undef = ρ i) → (results fn tmps).run P w = .ok v w) (hR : R (.returned v) w) : retQ P fn R .ret ρ w := ⟨v, hr, hR⟩
theorem end_intro {fn : Func} {R : Ending → World → Prop} {v : Value} (hr : ∀ tmps : Array Value, (∀ i, tmps.getD i undef = ρ i) → (results fn tmps).run P w = .ok v w) (hR : R (.returned v) w) : retQ P fn R .normal ρ w := ⟨v, hr, hR⟩
theorem wanted_of {t j : Nat} {want b : Bool} (h1 : (ops[j]?).bind (·.dst) = some t) (h2 : ρ t = .bool b) (h3 : b = want) : Wanted ops ρ (some (j, want)) := ⟨t, h1, by rw [h2, h3]⟩
theorem notWanted_of {t j : Nat} {want b : Bool} (h1 : (ops[j]?).bind (·.dst) = some t) (h2 : ρ t = .bool b) (h3 : b = !want) : NotWanted ops ρ (some (j, want)) := ⟨t, h1, .inl (by rw [h2, h3])⟩
theorem notWanted_undef {t j : Nat} {want : Bool} (h1 : (ops[j]?).bind (·.dst) = some t) (h2 : ρ t = undef) : NotWanted ops ρ (some (j, want)) := ⟨t, h1, .inr h2⟩
end

section
variable {P : Program} {ty : TypeId} {ρ : Env} {K : Value → World → Prop} {w : World} {x y z : Operand} {v : Value}
theorem OpW.callR {f : FuncId} {fn : Func} {xs : Array Operand} {ts : Array TypeId} {α : Type} {mk : α → Value} {K' : α → World → Prop} (hf : P.funcs[f]? = some fn) (hb : fn.body.isNone = false) (hn : decide (fn.name = "runtime.NumGoroutine") = false)
    {al : List Value} (ha : xs.toList.map (ev ρ) = al) (h : cR P f mk al.toArray w K') (hK : ∀ x w', K' x w' → K (mk x) w') : OpW P (.call { callee := .value (.func f), args := xs, argTypes := ts }) ty ρ K w :=
  OpW.call hf hb hn (args := al.toArray) (by rw [← ha, ← Array.toList_map]) (Calls.mono h fun e w' ⟨x, he, hx⟩ => by subst he; exact hK x w' hx)

theorem OpW.allocE {t : TypeId} {zs : List Value} {b : Nat} {w' : World} (ht : zeroT P t = some zs) (hb : b = w.heap.size) (hw : w' = w.alloc (.cells zs.toArray t)) (h : K (.pointer (some ⟨b, 0, none⟩)) w') : OpW P (.alloc t) ty ρ K w := by
  subst hb; subst hw; exact OpW.alloc ht h
theorem OpW.allocZ {t : TypeId} {zs : List Value} {b : Nat} (ht : zeroT P t = some zs) (hb : b = w.heap.size) (h : K (.pointer (some ⟨b, 0, none⟩)) (w.alloc (.cells zs.toArray t))) : OpW P (.alloc t) ty ρ K w := by
  subst hb; exact OpW.alloc ht h
theorem OpW.storeF {t : TypeId} {zs cs : List Value} {n b : Nat} {w' : World} (ht : sizeT P t = some n) (hx : ev ρ x = .pointer (some ⟨b, 0, none⟩)) (hy : (ev ρ y).cells = cs.toArray)
    (hl : cs.length = n) (hz : zs.length = n) (h1 : ∀ v ∈ cs, v.oneCell' = true) (hb : b = w.heap.size) (hw : w' = w.alloc (.cells cs.toArray t)) (h : K undef w') : OpW P (.store t x y) ty ρ K (w.alloc (.cells zs.toArray t)) := by
  subst hb; subst hw; exact OpW.storeFresh ht hx hy hl hz h1 h
theorem one_ok {v : Value} (h : v.oneCell' = true) : ∀ u ∈ [v], u.oneCell' = true := fun u hu => by
  obtain rfl : u = v := by simpa using hu
  exact h
theorem OpW.boxE {t : TypeId} {cs : List Value} {b : Nat} {w' : World} (hx : (ev ρ x).cells = cs.toArray) (hb : b = w.heap.size) (hw : w' = w.alloc (.cells cs.toArray t)) (h : K (.pointer (some ⟨b, 0, none⟩)) w') : OpW P (.box t x) ty ρ K w := by
  subst hb; subst hw; exact OpW.box hx h
theorem OpW.buildSliceE {t e : TypeId} {len b : Nat} {w' : World} {parts : Array (Nat × Operand)} {vs : List (Nat × Value)} {cs : List Value} (hv : parts.toList.map (fun p => (p.1, ev ρ p.2)) = vs)
    (hf : fillCells P t len vs = some (e, cs.toArray)) (hb : b = w.heap.size) (hw : w' = w.alloc (.cells cs.toArray e)) (h : K (.slice (some ⟨b, 0, none⟩) len len) w') : OpW P (.buildSlice t len parts) ty ρ K w := by
  subst hb; subst hw; exact OpW.buildSlice (by rw [Array.toList_map]; exact hv) hf h
theorem OpW.makeSliceE {t e : TypeId} {size bytes b : Nat} {z : Value} {k1 k2 : IntKind} {l c : Int} {w' : World} (ht : mkCells P t = some (e, size, bytes, List.replicate size z)) (hs : 0 < size) (hx : ev ρ x = .int k1 l) (hy : ev ρ y = .int k2 c)
    (h0 : 0 ≤ l) (h1 : l ≤ c) (h2 : bytes * c ≤ 140737488355328) (h3 : c ≤ 9223372036854775807) (hb : b = w.heap.size) (hw : w' = w.alloc (.cells (List.replicate (c.toNat * size) z).toArray e))
    {s : Sl} (hsl : s = ⟨some ⟨b, 0, none⟩, l.toNat, c.toNat⟩) (h : K s.v w') : OpW P (.makeSlice t x y) ty ρ K w := by
  subst hb; subst hw; subst hsl; exact OpW.makeSlice ht hs hx hy h0 h1 h2 h3 h
theorem OpW.store1E {t : TypeId} {a : Addr} {u v : Value} {w' : World} (ht : sizeT P t = some 1) (hx : ev ρ x = .pointer (some a)) (hy : ev ρ y = v) (h1 : v.oneCell' = true) (hc : w.cell? a = some u) (hf : w.frozen? a = false)
    (hw : w' = w.setCell a v) (h : K undef w') : OpW P (.store t x y) ty ρ K w := by
  subst hw; exact OpW.store1 ht hx hy h1 hc hf h
theorem OpW.storeAE {t : TypeId} {g o : Nat} {e : TypeId} {n : Nat} {cur : Array Value} {cs : List Value} {a : Addr} {w' : World} (ht : sizeT P t = some n) (hx : ev ρ x = .pointer (some a)) (hy : ev ρ y = aggv cs) (ha : a = ⟨g, o, none⟩)
    (hl : cs.length = n) (hg : w.heap[g]? = some (.cells cur e (0, 0))) (hfit : o + cs.length ≤ cur.size) (h1 : ∀ v ∈ cs, v.oneCell' = true)
    (hw : w' = w.setRow g (cur.toList.take o ++ cs ++ cur.toList.drop (o + cs.length)).toArray) (h : K undef w') : OpW P (.store t x y) ty ρ K w := by
  subst ha; subst hw; exact OpW.storeA ht hx hy hl hg hfit h1 h
theorem OpW.markE {t : TypeId} {sl : Sl} {b o : Nat} {c : Array Value} {e : TypeId} {fr : Nat × Nat} {w' : World} (ht : byteSl P t = true) (hx : ev ρ x = sl.v) (ha : sl.a = some ⟨b, o, none⟩) (hg : w.heap[b]? = some (.cells c e fr))
    (hw : w' = w.freeze ⟨b, c.size, none⟩ 1) (h : K sl.v w') : OpW P (.convert t t x) ty ρ K w := by
  subst hw; exact OpW.mark ht hx ha hg h
theorem OpW.s2bE {s d : TypeId} {bs : List UInt8} {K' : Sl → World → Prop} (hs : strT P s = true) (hd : byteSl P d = true) (hx : ev ρ x = str bs) (h : Go.Lift.s2b bs w K') (hK : ∀ s w', K' s w' → K s.v w') : OpW P (.convert s d x) ty ρ K w :=
  OpW.s2b hs hd hx fun e n h1 h2 => hK ⟨some ⟨w.heap.size, 0, none⟩, bs.length, n⟩ _ (h e n _ _ h1 h2 rfl rfl)
theorem OpW.indexE {t e : TypeId} {n : Nat} {s : Sl} {i : Int} {a a' : Addr} {k : IntKind} (ht : sliceT P t = some (e, n)) (hx : ev ρ x = s.v) (hy : ev ρ y = .int k i)
    (ha : s.a = some a) (h0 : 0 ≤ i) (h1 : i < s.len) (hw : a' = a.add (i.toNat * n)) (h : K (.pointer (some a')) w) : OpW P (.indexAddr t x y) ty ρ K w := by
  subst hw; exact OpW.indexAddr ht hx hy ha h0 h1 h
theorem OpW.indexArrE {t : TypeId} {len n : Nat} {i : Int} {a a' : Addr} {k : IntKind} (ht : arrT P t = some (len, n)) (hx : ev ρ x = .pointer (some a)) (hy : ev ρ y = .int k i)
    (h0 : 0 ≤ i) (h1 : i < len) (hw : a' = a.add (i.toNat * n)) (h : K (.pointer (some a')) w) : OpW P (.indexAddr t x y) ty ρ K w := by
  subst hw; exact OpW.indexArr ht hx hy h0 h1 h
theorem OpW.appendL {xs : Array Operand} {ts : Array TypeId} {al : List Value} {w' : World} (ha : xs.toList.map (ev ρ) = al) (hr : (Builtin.append_ ts ty al.toArray).run P w = .ok v w')
    (h : K v w') : OpW P (.call { callee := .builtin .append, args := xs, argTypes := ts }) ty ρ K w :=
  OpW.append (args := al.toArray) (by rw [← ha, ← Array.toList_map]) hr h
theorem OpW.copyL {xs : Array Operand} {ts : Array TypeId} {al : List Value} {w' : World} (ha : xs.toList.map (ev ρ) = al) (hr : (Builtin.copy_ ts ty al.toArray).run P w = .ok v w')
    (h : K v w') : OpW P (.call { callee := .builtin .copy, args := xs, argTypes := ts }) ty ρ K w :=
  OpW.copy (args := al.toArray) (by rw [← ha, ← Array.toList_map]) hr h
theorem OpW.runBuiltinL {b : Builtin} {xs : Array Operand} {ts : Array TypeId} {al : List Value} {w' : World} (ha : xs.toList.map (ev ρ) = al) (hr : (builtin b ts ty (xs.map fun | .const _ => true | _ => false) al.toArray).run P w = .ok (.value v) w')
    (h : K v w') : OpW P (.call { callee := .builtin b, args := xs, argTypes := ts }) ty ρ K w :=
  OpW.runBuiltin (args := al.toArray) (by rw [← ha, ← Array.toList_map]) hr h
/-! ### results that lie in a cell -/
theorem run_cellA {t : TypeId} {a : Addr} {n : Nat} {cs : List Value} (ht : aggT P t = some n) (hl : cs.length = n) (hc : At w a cs) : (loadVar t a).run P w = .ok (aggv cs) w := by
  subst hl
  simp only [loadVar, Sem.run_bind, Sem.run_pure, Result.andThen_ok, run_isAgg_agg ht, run_sizeOf_agg ht, if_true, run_loadCells_list w a cs hc]
theorem run_asAddr {v : Value} {a : Addr} (h : v = .pointer (some a)) : (asAddr v).run P w = .ok a w := by subst h; rfl
theorem res1c {fn : Func} {u : Tmp} {t : TypeId} {a : Addr} {n : Nat} {cs : List Value} (h : fn.results = #[.cell u t]) (ht : aggT P t = some n) (hu : ρ u = .pointer (some a)) (hl : cs.length = n) (hc : At w a cs)
    (tmps : Array Value) (hρ : ∀ i, tmps.getD i undef = ρ i) : (results fn tmps).run P w = .ok (aggv cs) w := by
  have h1 := run_asAddr (P := P) (w := w) ((hρ u).trans hu)
  have h2 := run_cellA (P := P) ht hl hc
  unfold results
  rw [h]
  simp only [Array.mapM_eq_mapM_toList, List.mapM_cons, List.mapM_nil, map_eq_pure_bind, Sem.run_bind, h1, h2, Sem.run_pure, Result.andThen_ok]
  rfl
theorem res2c {fn : Func} {u t1 : Tmp} {t : TypeId} {a : Addr} {n : Nat} {cs : List Value} {x1 : Value} (h : fn.results = #[.cell u t, .tmp t1]) (ht : aggT P t = some n) (hu : ρ u = .pointer (some a)) (hl : cs.length = n) (hc : At w a cs)
    (hx1 : ρ t1 = x1) (tmps : Array Value) (hρ : ∀ i, tmps.getD i undef = ρ i) : (results fn tmps).run P w = .ok (.tuple #[aggv cs, x1]) w := by
  have h1 := run_asAddr (P := P) (w := w) ((hρ u).trans hu)
  have h2 := run_cellA (P := P) ht hl hc
  have h3 := (hρ t1).trans hx1
  unfold results
  rw [h]
  simp only [Array.mapM_eq_mapM_toList, List.mapM_cons, List.mapM_nil, map_eq_pure_bind, Sem.run_bind, h1, h2, h3, Sem.run_pure, Result.andThen_ok]
  rfl
theorem res3c {fn : Func} {u t1 t2 : Tmp} {t : TypeId} {a : Addr} {n : Nat} {cs : List Value} {x1 x2 : Value} (h : fn.results = #[.cell u t, .tmp t1, .tmp t2]) (ht : aggT P t = some n) (hu : ρ u = .pointer (some a)) (hl : cs.length = n) (hc : At w a cs)
    (hx1 : ρ t1 = x1) (hx2 : ρ t2 = x2) (tmps : Array Value) (hρ : ∀ i, tmps.getD i undef = ρ i) : (results fn tmps).run P w = .ok (.tuple #[aggv cs, x1, x2]) w := by
  have h1 := run_asAddr (P := P) (w := w) ((hρ u).trans hu)
  have h2 := run_cellA (P := P) ht hl hc
  have h3 := (hρ t1).trans hx1
  have h4 := (hρ t2).trans hx2
  unfold results
  rw [h]
  simp only [Array.mapM_eq_mapM_toList, List.mapM_cons, List.mapM_nil, map_eq_pure_bind, Sem.run_bind, h1, h2, h3, h4, Sem.run_pure, Result.andThen_ok]
  rfl
theorem OpW.runBuiltinP {b : Builtin} {xs : Array Operand} {ts : Array TypeId} {al : List Value} (ha : xs.toList.map (ev ρ) = al) (hr : (builtin b ts ty (xs.map fun | .const _ => true | _ => false) al.toArray).run P w = .ok (.value v) w)
    (h : K v w) : OpW P (.call { callee := .builtin b, args := xs, argTypes := ts }) ty ρ K w := OpW.runBuiltinL ha hr h
theorem OpW.buildL {t : TypeId} {parts : Array (Nat × Operand)} {vs : List (Nat × Value)} {cs : List Value} (hv : parts.toList.map (fun p => (p.1, ev ρ p.2)) = vs)
    (hf : ∀ w, (Instr.build t vs.toArray).run P w = .ok (aggv cs) w) (h : K (aggv cs) w) : OpW P (.build t parts) ty ρ K w :=
  OpW.buildRun (by rw [Array.toList_map]; exact hv) hf h
theorem cast_sl {s : Sl} {a : Option Addr} {l c : Nat} (h : s = ⟨a, l, c⟩) (hk : K s.v w) : K (.slice a l c) w := by subst h; exact hk
/-- The bitwise operations, as they come out of the model. -/
def andI (k : IntKind) (a b : Int) : Int := k.wrap (BitVec.ofInt k.bits a &&& BitVec.ofInt k.bits b).toNat
def orI (k : IntKind) (a b : Int) : Int := k.wrap (BitVec.ofInt k.bits a ||| BitVec.ofInt k.bits b).toNat
def xorI (k : IntKind) (a b : Int) : Int := k.wrap (BitVec.ofInt k.bits a ^^^ BitVec.ofInt k.bits b).toNat
def cmpl (k : IntKind) (a : Int) : Int := k.wrap (BitVec.ofInt k.bits (if k.signed then -1 else k.max) ^^^ BitVec.ofInt k.bits a).toNat
def shlI (k : IntKind) (a b : Int) : Int := k.wrap (a * 2 ^ min b.toNat k.bits)
def shrI (k : IntKind) (a b : Int) : Int := a.fdiv (2 ^ min b.toNat k.bits)
end
end Go.Lift
end
section
/- A region that draws its order: what only reads may be taken first, the rest comes up alone; what was there when the region began stays as it was as long as something is still to be read. -/
namespace Go.Lift
open Go.RowKit
/-- All that was there is as it was; there may be more. -/
abbrev Ext (w w' : World) : Prop := Below w.heap.size w w'
theorem Ext.refl (w : World) : Ext w w := Below.refl _ _
theorem Ext.trans {a b c : World} (h : Ext a b) (k : Ext b c) : Ext a c := Below.trans h (Below.mono k h.size)
theorem Ext.cell {w w' : World} (h : Ext w w') {a : Addr} {v : Value} (hc : w.cell? a = some v) : w'.cell? a = some v :=
 (Below.cell h (World.block_lt_of_cell? w a hc)).trans hc
theorem Ext.at {w w' : World} (h : Ext w w') {a : Addr} {cs : List Value} (hc : At w a cs) : At w' a cs := fun j v hj => Ext.cell h (hc j v hj)
theorem Ext.atO {w w' : World} (h : Ext w w') {a : Option Addr} {cs : List Value} (hc : AtO w a cs) : AtO w' a cs := by
 cases a with
 | none => exact hc
 | some a => exact Ext.at h hc
theorem Ext.drew (w : World) : Ext w w.drew := ⟨rfl, rfl, rfl, Nat.le_refl _, fun _ _ => rfl⟩
theorem Ext.alloc {w0 w : World} (h : Ext w0 w) (o : Obj) : Ext w0 (w.alloc o) := Below.alloc h h.size o
theorem Ext.heap {w w' : World} (h : Ext w w') {b : Nat} {o : Obj} (hb : w.heap[b]? = some o) : w'.heap[b]? = some o :=
 (h.block b (Array.getElem?_eq_some_iff.1 hb).1).trans hb

/-- A part of a region that may come up before or behind others: what it leaves lasts as long as nothing is written. -/
def nd {δ α : Type} (w1 : World) (pre : δ → World → Prop) (step : δ → (α → World → Prop) → World → Prop) (k : (δ → α → World → Prop) → Prop) : Prop :=
 ∃ F : δ → α → World → Prop, (∀ d x a b, Ext a b → F d x a → F d x b) ∧ (∀ d w, Ext w1 w → pre d w → step d (fun x w' => Ext w w' ∧ F d x w') w) ∧ k F

/-- The same but for a block, which may be written. -/
def ExtB (b : Option Nat) (w w' : World) : Prop := w.heap.size ≤ w'.heap.size ∧ ∀ k, k < w.heap.size → some k ≠ b → w'.heap[k]? = w.heap[k]?
theorem ExtB.of {b : Option Nat} {w w' : World} (h : Ext w w') : ExtB b w w' := ⟨h.size, fun k hk _ => h.block k hk⟩
theorem ExtB.trans_ext {b : Option Nat} {w0 w w' : World} (h : ExtB b w0 w) (k : Ext w w') : ExtB b w0 w' :=
 ⟨Nat.le_trans h.1 k.size, fun i hi hne => (k.block i (Nat.lt_of_lt_of_le hi h.1)).trans (h.2 i hi hne)⟩
theorem ExtB.cell {b : Option Nat} {w w' : World} (h : ExtB b w w') {a : Addr} {v : Value} (hne : some a.block ≠ b) (hc : w.cell? a = some v) : w'.cell? a = some v :=
 (World.cell?_of_block (h.2 a.block (World.block_lt_of_cell? w a hc) hne)).trans hc
theorem add_block (a : Addr) (n : Nat) : (a.add n).block = a.block := by unfold Addr.add; split <;> rfl
theorem ExtB.at {b : Option Nat} {w w' : World} (h : ExtB b w w') {a : Addr} {cs : List Value} (hne : some a.block ≠ b) (hc : At w a cs) : At w' a cs := fun j v hj => h.cell (by rw [add_block]; exact hne) (hc j v hj)
theorem ExtB.atO {b : Option Nat} {w w' : World} (h : ExtB b w w') {a : Option Addr} {cs : List Value} (hne : ∀ x, a = some x → some x.block ≠ b) (hc : AtO w a cs) : AtO w' a cs := by
 cases a with
 | none => exact hc
 | some a => exact h.at (hne a rfl) hc
theorem ExtB.setCell {b : Option Nat} {w0 w : World} (h : ExtB b w0 w) {a : Addr} {v : Value} (hb : some a.block = b) : ExtB b w0 (w.setCell a v) :=
 ⟨by simpa [World.setCell] using h.1, fun k hk hne => (Below.heap_setCell w a v k (fun e => hne (by rw [e]; exact hb))).trans (h.2 k hk hne)⟩
theorem ExtB.setRow {b : Option Nat} {w0 w : World} (h : ExtB b w0 w) {g : Nat} {cs : Array Value} (hb : some g = b) : ExtB b w0 (w.setRow g cs) := by
 refine ⟨by simpa [World.setRow] using h.1, fun k hk hne => Eq.trans ?_ (h.2 k hk hne)⟩
 unfold World.setRow
 simp only [Array.getElem?_modify]
 rw [if_neg (fun e => hne (by rw [← e]; exact hb))]

/-- The same but for some blocks, which may be written. -/
def ExtX (X : Nat → Prop) (w w' : World) : Prop := w.heap.size ≤ w'.heap.size ∧ ∀ k, k < w.heap.size → ¬ X k → w'.heap[k]? = w.heap[k]?
def xr (K : (Nat → Prop) → Prop) : Prop := ∃ X, K X
theorem ExtX.of {X : Nat → Prop} {w w' : World} (h : Ext w w') : ExtX X w w' := ⟨h.size, fun k hk _ => h.block k hk⟩
theorem ExtX.trans {X : Nat → Prop} {w0 w w' : World} (h : ExtX X w0 w) (k : ExtX X w w') : ExtX X w0 w' :=
 ⟨Nat.le_trans h.1 k.1, fun i hi hne => (k.2 i (Nat.lt_of_lt_of_le hi h.1) hne).trans (h.2 i hi hne)⟩
theorem ExtX.trans_ext {X : Nat → Prop} {w0 w w' : World} (h : ExtX X w0 w) (k : Ext w w') : ExtX X w0 w' := h.trans (ExtX.of k)
theorem ExtX.cell {X : Nat → Prop} {w w' : World} (h : ExtX X w w') {a : Addr} {v : Value} (hne : ¬ X a.block) (hc : w.cell? a = some v) : w'.cell? a = some v :=
 (World.cell?_of_block (h.2 a.block (World.block_lt_of_cell? w a hc) hne)).trans hc
theorem ExtX.at {X : Nat → Prop} {w w' : World} (h : ExtX X w w') {a : Addr} {cs : List Value} (hne : ¬ X a.block) (hc : At w a cs) : At w' a cs := fun j v hj => h.cell (by rw [add_block]; exact hne) (hc j v hj)
theorem ExtX.atO {X : Nat → Prop} {w w' : World} (h : ExtX X w w') {a : Option Addr} {cs : List Value} (hne : ∀ x, a = some x → ¬ X x.block) (hc : AtO w a cs) : AtO w' a cs := by
 cases a with
 | none => exact hc
 | some a => exact h.at (hne a rfl) hc

def anc (ops : Array Oper) : Nat → Nat → Nat → Bool
 | 0, _, _ => false
 | f + 1, j, i => match ops[j]? with
  | none => false
  | some o => o.after.any (fun e => Region.binds .any e && e.on == i) || o.after.any (fun e => Region.binds .any e && anc ops f e.on i)
def keepOk (ops : Array Oper) (keep : List Nat) (i : Nat) : Bool := (List.range ops.size).all fun j => j == i || keep.contains j || anc ops ops.size j i
/-- What has come up is closed downward. -/
def DC (ops : Array Oper) (listed : Array Bool) : Prop := ∀ k o, ops[k]? = some o → listed.getD k false = true → ∀ e ∈ o.after, Region.binds .any e = true → listed.getD e.on false = true

theorem getD_tf {listed : Array Bool} {i : Nat} (h : listed.getD i false = true) : listed.getD i true = true := by
 rcases Nat.lt_or_ge i listed.size with h' | h'
 ·simp [h'] at h ⊢; exact h
 ·simp [Array.getElem?_eq_none h'] at h
theorem getD_ft {listed : Array Bool} {i : Nat} (h : listed.getD i true = false) : listed.getD i false = false := by
 rcases Nat.lt_or_ge i listed.size with h' | h'
 ·simp [h'] at h ⊢; exact h
 ·simp [Array.getElem?_eq_none h'] at h

theorem anc_listed {ops : Array Oper} {listed : Array Bool} (hDC : DC ops listed) {i : Nat} : ∀ (f j : Nat), (∀ o, ops[j]? = some o → ∀ e ∈ o.after, Region.binds .any e = true → listed.getD e.on false = true) →
  anc ops f j i = true → listed.getD i false = true
 | 0, _, _, h => by simp [anc] at h
 | f + 1, j, hj, h => by
  unfold anc at h
  split at h
  ·simp at h
  ·rename_i o ho
   rw [Bool.or_eq_true] at h
   rcases h with h | h
   ·obtain ⟨e, he, hb⟩ := Array.any_eq_true'.1 h
    simp only [Bool.and_eq_true, beq_iff_eq] at hb
    have := hj o ho e he hb.1
    rwa [hb.2] at this
   ·obtain ⟨e, he, hb⟩ := Array.any_eq_true'.1 h
    simp only [Bool.and_eq_true] at hb
    have hl := hj o ho e he hb.1
    exact anc_listed hDC f e.on (fun o' ho' e' he' hb' => hDC e.on o' ho' hl e' he' hb') hb.2

theorem DC.set {ops : Array Oper} {listed : Array Bool} {i : Nat} (h : DC ops listed) (hr : i ∈ Region.ready .any ops listed) : DC ops (listed.setIfInBounds i true) := by
 intro k o ho hk e he hb
 obtain ⟨_, oi, hoi, hall⟩ := mem_ready.1 hr
 by_cases e1 : i = k
 ·subst e1
  rw [hoi] at ho
  cases ho
  exact getD_set_true (hall e he hb)
 ·rw [getD_set_ne false e1] at hk
  exact getD_set_true (h k o ho hk e he hb)
theorem DC.start (ops : Array Oper) (n : Nat) : DC ops (Array.replicate n false) := by
 intro k o _ hk
 simp at hk
 rcases Nat.lt_or_ge k n with h | h
 ·simp [h] at hk
 ·simp [Array.getElem?_eq_none (show (Array.replicate n false).size ≤ k by simpa using h)] at hk

def wpAnyK (P : Program) (ops : Array Oper) (Q : Exit → Act → World → Prop) (keep : List Nat) (S : World → Prop) : Nat → Array Bool → Act → World → Prop
 | 0, listed, a, w => Region.ready .any ops listed = [] ∧ Q .normal a w
 | fuel + 1, listed, a, w =>
  (Region.ready .any ops listed = [] → Q .normal a w) ∧
  ∀ i ∈ Region.ready .any ops listed, wpOp P ops Q i (fun a' w' => (keep.contains i = true → S w → S w') ∧ wpAnyK P ops Q keep S fuel (listed.setIfInBounds i true) a' w') a w

section
variable {P : Program} {ops : Array Oper} {Q : Exit → Act → World → Prop} {keep : List Nat} {S : World → Prop}
theorem wpAny_of_K : ∀ (fuel : Nat) (listed : Array Bool) (a : Act) (w : World), wpAnyK P ops Q keep S fuel listed a w → wpAny P .any ops Q fuel listed a w
 | 0, _, _, _, h => h
 | fuel + 1, _, _, _, h => ⟨h.1, fun i hi => wpOp_mono (fun a' w' h' => wpAny_of_K fuel _ a' w' h'.2) (h.2 i hi)⟩

theorem keepOk_spec {i : Nat} (h : keepOk ops keep i = true) {j : Nat} (hj : j < ops.size) (hne : j ≠ i) (hk : keep.contains j = false) : anc ops ops.size j i = true := by
 unfold keepOk at h
 rw [List.all_eq_true] at h
 have := h j (List.mem_range.2 hj)
 simp only [Bool.or_eq_true, beq_iff_eq, hne, false_or, hk, Bool.false_eq_true] at this
 exact this

theorem wpAnyK_first {i : Nat} {oi : Oper} {v : Value} {T : World → Prop} (hi : ops[i]? = some oi) (hsel : ∀ (j : Nat) (o : Oper) cs b, ops[j]? = some o → o.op ≠ .select cs b)
  (hQ : ∀ c a w, Q (.panic c) (a.put oi.dst v) w → Q (.panic c) a w) (b : Bool) (hb : b = true → keepOk ops keep i = true) (hT : (∀ w, T w) ∨ (b = true ∧ ∀ w, S w → T w)) :
  ∀ (fuel : Nat) (listed : Array Bool) (a : Act) (w : World), DC ops listed →
   (∀ j oj, ops[j]? = some oj → j ≠ i → listed.getD j true = false → (∀ e ∈ oj.after, Region.binds .any e = true → e.on ≠ i) → oi.apart ops oj = true) →
   i ∈ Region.ready .any ops listed → YieldsIf P ops T oi v a → (b = true → S w) →
   wpAnyK P ops Q keep S fuel (listed.setIfInBounds i true) (a.put oi.dst v) w → wpAnyK P ops Q keep S (fuel + 1) listed a w := by
 intro fuel
 induction fuel with
 | zero =>
  intro listed a w hDC _ hr hy hS H
  refine ⟨fun h => (by rw [h] at hr; cases hr), fun j hj => ?_⟩
  by_cases hji : j = i
  ·subst hji
   refine hy.wpOp hi ?_ ⟨fun _ h => h, H⟩
   rcases hT with hT | ⟨hd, hT⟩
   ·exact hT w
   ·exact hT w (hS hd)
  ·have := ready_mono hj hji
   rw [H.1] at this
   cases this
 | succ fuel ih =>
  intro listed a w hDC hfree hr hy hS H
  refine ⟨fun h => (by rw [h] at hr; cases hr), fun j hj => ?_⟩
  by_cases hji : j = i
  ·subst hji
   refine hy.wpOp hi ?_ ⟨fun _ h => h, H⟩
   rcases hT with hT | ⟨hd, hT⟩
   ·exact hT w
   ·exact hT w (hS hd)
  ·have h1 := H.2 j (ready_mono hj hji)
   obtain ⟨hjun, oj, hoj, hall⟩ := mem_ready.1 hj
   have hiun : listed.getD i true = false := (mem_ready.1 hr).1
   have hnot : ∀ e ∈ oj.after, Region.binds .any e = true → e.on ≠ i := fun e he hb heq => by
    have h1 := hall e he hb
    rw [heq, getD_ft hiun] at h1
    cases h1
   have hjlt : j < ops.size := (Array.getElem?_eq_some_iff.1 hoj).1
   have notAnc : anc ops ops.size j i = true → False := fun ha => by
    have := anc_listed hDC ops.size j (fun o ho e he hb => by rw [hoj] at ho; cases ho; exact hall e he hb) ha
    rw [getD_ft hiun] at this
    cases this
   have h2 := wpOp_putIf hoj (hfree j oj hoj hji hjun hnot) (fun cs b => hsel i oi cs b hi) (fun cs b => hsel j oj cs b hoj) hQ hy h1
   have hfree' : ∀ k ok, ops[k]? = some ok → k ≠ i → (listed.setIfInBounds j true).getD k true = false →
     (∀ e ∈ ok.after, Region.binds .any e = true → e.on ≠ i) → oi.apart ops ok = true := fun k ok hk hki hun hno => by
    refine hfree k ok hk hki ?_ hno
    by_cases hjk : j = k
    ·subst hjk; exact hjun
    ·rw [getD_set_ne true hjk] at hun; exact hun
   refine wpOp_mono (fun a' w' h3 => ?_) h2
   have hS' : b = true → S w' := fun h => by
    cases hkj : keep.contains j with
    | true => exact h3.2.1 hkj (hS h)
    | false => exact (notAnc (keepOk_spec (hb h) hjlt hji hkj)).elim
   exact ⟨h3.2.1, ih (listed.setIfInBounds j true) a' w' (hDC.set hj) hfree' (ready_mono hr (Ne.symm hji)) h3.1 hS' (by rw [Array.setIfInBounds_comm _ _ hji]; exact h3.2.2)⟩
end

/-! ### over typed values -/
def quietOp : Op → Bool
 | .move _ | .assign _ | .pick .. | .load .. | .nilCheck _ | .binOp .. | .unOp .. | .convert .. | .slice .. | .fieldAddr .. | .indexAddr .. | .index .. | .extract .. | .build .. => true
 | .call { callee := .builtin .len, .. } | .call { callee := .builtin .min, .. } | .call { callee := .builtin .max, .. } => true
 | _ => false
theorem quiet_value {P : Program} {ρ : Operand → Value} {o : Oper} (h : quietOp o.op = true) (w : World) {nx : Next} {w' : World} (hr : (execOp ρ o).run P w = .ok nx w') : ∃ v, nx = .value v := by
 obtain ⟨dst, op, type, pos, after, guard⟩ := o
 have bindv : ∀ (s : Sem Value), ((do pure (.value (← s)) : Sem Next)).run P w = .ok nx w' → ∃ v, nx = .value v := fun s hs => by
  rw [Sem.run_bind] at hs
  cases hr : s.run P w with
  | ok x w2 => rw [hr] at hs; simp only [Result.andThen_ok, Sem.run_pure, Result.ok.injEq] at hs; exact ⟨x, hs.1.symm⟩
  | halt x w2 => rw [hr] at hs; simp [Result.andThen] at hs
 cases op <;> simp only [quietOp, Bool.false_eq_true] at h <;> simp only [execOp] at hr
 case nilCheck x =>
  split at hr
  ·exact absurd hr (by simp [runtimePanic, program, Sem.run, goPanic])
  ·exact absurd hr (by simp [runtimePanic, program, Sem.run, goPanic])
  ·exact absurd hr (by simp [runtimePanic, program, Sem.run, goPanic])
  ·rename_i name first captured _
   split at hr
   ·exact absurd hr (by simp [runtimePanic, program, Sem.run, goPanic])
   ·rename_i t w2 _
    simp only [Sem.run_bind] at hr
    cases h1 : (program : Sem Program).run P w with
    | halt x w3 => rw [h1] at hr; simp [Result.andThen] at hr
    | ok p w3 =>
     rw [h1] at hr
     simp only [Result.andThen_ok] at hr
     cases h2 : (nilAhead (p.types.size + Made.depth) t w2 name).run P w3 with
     | halt x w4 => rw [h2] at hr; simp [Result.andThen] at hr
     | ok b w4 =>
      rw [h2] at hr
      simp only [Result.andThen_ok] at hr
      split at hr
      ·simp [unsupported, Sem.run, Result.andThen] at hr
      ·simp only [Sem.run_pure, Result.andThen_ok, Result.ok.injEq] at hr
       exact ⟨_, hr.1.symm⟩
   ·simp only [Sem.run_pure, Result.ok.injEq] at hr; exact ⟨_, hr.1.symm⟩
  ·simp only [Sem.run_pure, Result.ok.injEq] at hr; exact ⟨_, hr.1.symm⟩
 case call c =>
  obtain ⟨callee, args, argTypes⟩ := c
  cases callee with
  | value f => simp at h
  | invoke r m => simp at h
  | builtin b =>
   cases b <;> simp only [Bool.false_eq_true] at h
   all_goals
    simp only [resolve, Sem.run_bind, Sem.run_pure, Result.andThen_ok, invoke, builtin] at hr
    exact bindv _ (by rw [Sem.run_bind]; exact hr)
 case pick c x y =>
  rw [Sem.run_bind] at hr
  cases h1 : (asBool (ρ c)).run P w with
  | ok b w2 => rw [h1] at hr; simp only [Result.andThen_ok, Sem.run_pure, Result.ok.injEq] at hr; exact ⟨_, hr.1.symm⟩
  | halt x w2 => rw [h1] at hr; simp [Result.andThen] at hr
 all_goals first
  | (exact bindv _ hr)
  | (simp only [Sem.run_pure, Result.ok.injEq] at hr; exact ⟨_, hr.1.symm⟩)

/-- the state of a region that draws, over typed values -/
def DL (P : Program) (n : Nat) (ops : Array Oper) (Q : Exit → Env → World → Prop) (keep : List Nat) (S : World → Prop) (fuel : Nat) (listed : Array Bool) (ρ : Env) (w : World) : Prop :=
 DC ops listed → ∀ a : Act, a.tmps.size = n → a.defers = [] → envOf a = ρ → wpAnyK P ops (lift n Q) keep S fuel listed a w

section
variable {P : Program} {n : Nat} {ops : Array Oper} {Q : Exit → Env → World → Prop} {keep : List Nat} {S : World → Prop} {fuel : Nat} {listed listed' : Array Bool} {ρ : Env} {w : World}

theorem CW.draws {id m : Nat} {l : List Oper} (hm : P.follows .mixedOrders = true) (keep : List Nat) (S : World → Prop) (hl : l.length = m) (hL : Array.replicate m false = listed)
  (h : DL P n l.toArray Q keep S m listed ρ w.drew) : CW P n (.region id l.toArray true) Q ρ w := fun a hs hd he => by
 subst hl
 subst hL
 refine wp_region_any hm ?_
 have := wpAny_of_K _ _ _ _ (h (DC.start _ _) a hs hd he)
 rw [List.size_toArray]
 exact this

def side (ops : Array Oper) (listed : Array Bool) (i : Nat) : Bool := Region.noSelect ops && Region.free .any ops listed i && (Region.ready .any ops listed).contains i

theorem put_env {a : Act} {d : Nat} {v : Value} (hs : a.tmps.size = n) (hd : Nat.blt d n = true) : envOf (a.put (some d) v) = upd (envOf a) d v :=
 env_put (by rw [hs]; exact Nat.le_of_ble_eq_true hd)

theorem yields_of {T : World → Prop} {d : Nat} {op : Op} {ty : TypeId} {pos : String} {after : Array Edge} {g : Option (Nat × Bool)} {v : Value} {a : Act} (hq : quietOp op = true) (hw : Wanted ops (envOf a) g)
  (hy : ∀ w', T w' → ∀ K : Value → World → Prop, K v w' → OpW P op ty (envOf a) K w') : YieldsIf P ops T ⟨some d, op, ty, pos, after, g⟩ v a := by
 refine .inl ⟨Wanted.wanted (o := ⟨some d, op, ty, pos, after, g⟩) hw, fun w' hT => ?_⟩
 have h := hy w' hT (fun v' w'' => v' = v ∧ w'' = w') ⟨rfl, rfl⟩
 unfold OpW at h
 rw [eval_env, execOp_strip]
 generalize hr : (execOp (ev (envOf a)) ⟨none, op, ty, "", #[], none⟩).run P w' = r at h
 cases r with
 | halt x w2 => exact h.elim
 | ok nx w2 =>
  obtain ⟨v', rfl⟩ := quiet_value (o := ⟨none, op, ty, "", #[], none⟩) hq w' hr
  obtain ⟨rfl, rfl⟩ := h
  rfl

theorem DL.takeK {d : Nat} {op : Op} {ty : TypeId} {pos : String} {after : Array Edge} {g : Option (Nat × Bool)} {v : Value} (i : Nat) (hi : ops[i]? = some ⟨some d, op, ty, pos, after, g⟩) (hq : quietOp op = true)
  (hc : side ops listed i = true) (hk : keepOk ops keep i = true) (hl : listed.setIfInBounds i true = listed') (hw : Wanted ops ρ g) (hd : Nat.blt d n = true) (hS : S w)
  (hy : ∀ w', S w' → ∀ K : Value → World → Prop, K v w' → OpW P op ty ρ K w') (h : DL P n ops Q keep S fuel listed' (upd ρ d v) w) : DL P n ops Q keep S (fuel + 1) listed ρ w := by
 intro hDC a hs hdf he
 subst he
 subst hl
 simp only [side, Bool.and_eq_true] at hc
 have hr : i ∈ Region.ready .any ops listed := by simpa using hc.2
 refine wpAnyK_first hi (Region.noSelect_spec hc.1.1) (fun _ _ _ h => h) true (fun _ => hk) (.inr ⟨rfl, fun _ h => h⟩) fuel listed a w hDC (Region.free_spec hi hc.1.2) hr (yields_of hq hw hy) (fun _ => hS) ?_
 exact h (hDC.set hr) _ ((put_size _ _ _).trans hs) ((put_defers _ _ _).trans hdf) (put_env hs hd)

theorem DL.takeP {d : Nat} {op : Op} {ty : TypeId} {pos : String} {after : Array Edge} {g : Option (Nat × Bool)} {v : Value} (i : Nat) (hi : ops[i]? = some ⟨some d, op, ty, pos, after, g⟩) (hq : quietOp op = true)
  (hc : side ops listed i = true) (hl : listed.setIfInBounds i true = listed') (hw : Wanted ops ρ g) (hd : Nat.blt d n = true)
  (hy : ∀ w', ∀ K : Value → World → Prop, K v w' → OpW P op ty ρ K w') (h : DL P n ops Q keep S fuel listed' (upd ρ d v) w) : DL P n ops Q keep S (fuel + 1) listed ρ w := by
 intro hDC a hs hdf he
 subst he
 subst hl
 simp only [side, Bool.and_eq_true] at hc
 have hr : i ∈ Region.ready .any ops listed := by simpa using hc.2
 refine wpAnyK_first (T := fun _ => True) hi (Region.noSelect_spec hc.1.1) (fun _ _ _ h => h) false (fun h => by cases h) (.inl fun _ => trivial) fuel listed a w hDC (Region.free_spec hi hc.1.2) hr (yields_of hq hw (fun w' _ => hy w'))
  (fun h => by cases h) ?_
 exact h (hDC.set hr) _ ((put_size _ _ _).trans hs) ((put_defers _ _ _).trans hdf) (put_env hs hd)

theorem DL.skipP {d : Nat} {op : Op} {ty : TypeId} {pos : String} {after : Array Edge} {g : Option (Nat × Bool)} (i : Nat) (hi : ops[i]? = some ⟨some d, op, ty, pos, after, g⟩)
  (hc : side ops listed i = true) (hl : listed.setIfInBounds i true = listed') (hw : NotWanted ops ρ g) (hd : Nat.blt d n = true)
  (h : DL P n ops Q keep S fuel listed' (upd ρ d undef) w) : DL P n ops Q keep S (fuel + 1) listed ρ w := by
 intro hDC a hs hdf he
 subst he
 subst hl
 simp only [side, Bool.and_eq_true] at hc
 have hr : i ∈ Region.ready .any ops listed := by simpa using hc.2
 refine wpAnyK_first (T := fun _ => True) hi (Region.noSelect_spec hc.1.1) (fun _ _ _ h => h) false (fun h => by cases h) (.inl fun _ => trivial) fuel listed a w hDC (Region.free_spec hi hc.1.2) hr
  (.inr ⟨NotWanted.wanted (o := ⟨some d, op, ty, pos, after, g⟩) hw, rfl⟩)
  (fun h => by cases h) ?_
 exact h (hDC.set hr) _ ((put_size _ _ _).trans hs) ((put_defers _ _ _).trans hdf) (put_env hs hd)

theorem DL.execS {d : Nat} {op : Op} {ty : TypeId} {pos : String} {after : Array Edge} {g : Option (Nat × Bool)} (i : Nat) (hi : ops[i]? = some ⟨some d, op, ty, pos, after, g⟩)
  (hr : Region.ready .any ops listed = [i]) (hl : listed.setIfInBounds i true = listed') (hw : Wanted ops ρ g) (hd : Nat.blt d n = true)
  (h : OpW P op ty ρ (fun v w' => (keep.contains i = true → S w → S w') ∧ DL P n ops Q keep S fuel listed' (upd ρ d v) w') w) : DL P n ops Q keep S (fuel + 1) listed ρ w := by
 intro hDC a hs hdf he
 subst he
 subst hl
 have hmem : i ∈ Region.ready .any ops listed := by rw [hr]; simp
 refine And.intro (fun h0 => by rw [hr] at h0; cases h0) (fun j hj => ?_)
 rw [hr] at hj
 have hji : j = i := by simpa using hj
 subst hji
 unfold wpOp
 simp only [hi]
 rw [if_pos (Wanted.wanted (o := ⟨some d, op, ty, pos, after, g⟩) hw)]
 refine .inl (OpW.wp (o := ⟨some d, op, ty, pos, after, g⟩) h fun v w' hk => ⟨hk.1, ?_⟩)
 exact hk.2 (hDC.set hmem) _ ((put_size _ _ _).trans hs) ((put_defers _ _ _).trans hdf) (put_env hs hd)

theorem DL.execN {op : Op} {ty : TypeId} {pos : String} {after : Array Edge} {g : Option (Nat × Bool)} (i : Nat) (hi : ops[i]? = some ⟨none, op, ty, pos, after, g⟩)
  (hr : Region.ready .any ops listed = [i]) (hl : listed.setIfInBounds i true = listed') (hw : Wanted ops ρ g)
  (h : OpW P op ty ρ (fun _ w' => (keep.contains i = true → S w → S w') ∧ DL P n ops Q keep S fuel listed' ρ w') w) : DL P n ops Q keep S (fuel + 1) listed ρ w := by
 intro hDC a hs hdf he
 subst he
 subst hl
 have hmem : i ∈ Region.ready .any ops listed := by rw [hr]; simp
 refine And.intro (fun h0 => by rw [hr] at h0; cases h0) (fun j hj => ?_)
 rw [hr] at hj
 have hji : j = i := by simpa using hj
 subst hji
 unfold wpOp
 simp only [hi]
 rw [if_pos (Wanted.wanted (o := ⟨none, op, ty, pos, after, g⟩) hw)]
 refine .inl (OpW.wp (o := ⟨none, op, ty, pos, after, g⟩) h fun v w' hk => ⟨hk.1, ?_⟩)
 exact hk.2 (hDC.set hmem) _ hs hdf rfl

theorem DL.skipX {d : Nat} {op : Op} {ty : TypeId} {pos : String} {after : Array Edge} {g : Option (Nat × Bool)} (i : Nat) (hi : ops[i]? = some ⟨some d, op, ty, pos, after, g⟩)
  (hr : Region.ready .any ops listed = [i]) (hl : listed.setIfInBounds i true = listed') (hw : NotWanted ops ρ g) (hd : Nat.blt d n = true)
  (h : DL P n ops Q keep S fuel listed' (upd ρ d undef) w) : DL P n ops Q keep S (fuel + 1) listed ρ w := by
 intro hDC a hs hdf he
 subst he
 subst hl
 have hmem : i ∈ Region.ready .any ops listed := by rw [hr]; simp
 refine And.intro (fun h0 => by rw [hr] at h0; cases h0) (fun j hj => ?_)
 rw [hr] at hj
 have hji : j = i := by simpa using hj
 subst hji
 unfold wpOp
 simp only [hi]
 rw [if_neg (by rw [NotWanted.wanted (o := ⟨some d, op, ty, pos, after, g⟩) hw]; simp)]
 exact ⟨fun _ h => h, h (hDC.set hmem) _ ((put_size _ _ _).trans hs) ((put_defers _ _ _).trans hdf) (put_env hs hd)⟩

/-- one of several that may come up -/
def DLop (P : Program) (n : Nat) (ops : Array Oper) (Q : Exit → Env → World → Prop) (keep : List Nat) (S : World → Prop) (fuel : Nat) (listed : Array Bool) (ρ : Env) (w : World) (i : Nat) : Prop :=
 i ∈ Region.ready .any ops listed → DC ops listed → ∀ a : Act, a.tmps.size = n → a.defers = [] → envOf a = ρ →
  wpOp P ops (lift n Q) i (fun a' w' => (keep.contains i = true → S w → S w') ∧ wpAnyK P ops (lift n Q) keep S fuel (listed.setIfInBounds i true) a' w') a w
theorem DL.branch (l : List Nat) (hr : Region.ready .any ops listed = l) (hne : l.isEmpty = false) (h : ∀ i ∈ l, DLop P n ops Q keep S fuel listed ρ w i) : DL P n ops Q keep S (fuel + 1) listed ρ w := by
 intro hDC a hs hdf he
 refine And.intro (fun h0 => by rw [hr] at h0; subst h0; cases hne) (fun j hj => ?_)
 exact h j (by rwa [hr] at hj) hj hDC a hs hdf he
theorem all_nil {p : Nat → Prop} : ∀ i ∈ ([] : List Nat), p i := fun i h => by cases h
theorem all_cons {p : Nat → Prop} {x : Nat} {l : List Nat} (h1 : p x) (h2 : ∀ i ∈ l, p i) : ∀ i ∈ x :: l, p i := fun i h => by
 rcases List.mem_cons.1 h with rfl | h
 ·exact h1
 ·exact h2 i h
theorem DLop.execS {d : Nat} {op : Op} {ty : TypeId} {pos : String} {after : Array Edge} {g : Option (Nat × Bool)} {i : Nat} (hi : ops[i]? = some ⟨some d, op, ty, pos, after, g⟩)
  (hl : listed.setIfInBounds i true = listed') (hw : Wanted ops ρ g) (hd : Nat.blt d n = true)
  (h : OpW P op ty ρ (fun v w' => (keep.contains i = true → S w → S w') ∧ DL P n ops Q keep S fuel listed' (upd ρ d v) w') w) : DLop P n ops Q keep S fuel listed ρ w i := by
 intro hmem hDC a hs hdf he
 subst he
 subst hl
 unfold wpOp
 simp only [hi]
 rw [if_pos (Wanted.wanted (o := ⟨some d, op, ty, pos, after, g⟩) hw)]
 refine .inl (OpW.wp (o := ⟨some d, op, ty, pos, after, g⟩) h fun v w' hk => ⟨hk.1, ?_⟩)
 exact hk.2 (hDC.set hmem) _ ((put_size _ _ _).trans hs) ((put_defers _ _ _).trans hdf) (put_env hs hd)

theorem DL.done (hr : Region.ready .any ops listed = []) (h : Q .normal ρ w) : DL P n ops Q keep S fuel listed ρ w := by
 intro hDC a hs hdf he
 subst he
 cases fuel with
 | zero => exact ⟨hr, hs, hdf, h⟩
 | succ f => exact ⟨fun _ => ⟨hs, hdf, h⟩, by rw [hr]; simp⟩

theorem DL.state (T : Env → World → Prop) (fuel' : Nat) (listed' : Array Bool) (h1 : ∀ ρ w, T ρ w → DL P n ops Q keep S fuel' listed' ρ w)
  (h2 : (∀ ρ w, T ρ w → DL P n ops Q keep S fuel' listed' ρ w) → DL P n ops Q keep S fuel listed ρ w) : DL P n ops Q keep S fuel listed ρ w := h2 h1
theorem DL.cutS {A : Type} (E : A → Env → Prop) (k : A → World → Prop) (fuel' : Nat) (listed' : Array Bool) (h1 : ∀ s ρ w, E s ρ → S w → k s w → DL P n ops Q keep S fuel' listed' ρ w)
  (h2 : (∀ ρ w, (∃ s, E s ρ ∧ S w ∧ k s w) → DL P n ops Q keep S fuel' listed' ρ w) → DL P n ops Q keep S fuel listed ρ w) : DL P n ops Q keep S fuel listed ρ w :=
 h2 fun ρ w ⟨s, hE, hS, hk⟩ => h1 s ρ w hE hS hk
theorem DL.cut {A : Type} (E : A → Env → Prop) (k : A → World → Prop) (fuel' : Nat) (listed' : Array Bool) (h1 : ∀ s ρ w, E s ρ → k s w → DL P n ops Q keep S fuel' listed' ρ w)
  (h2 : (∀ ρ w, (∃ s, E s ρ ∧ k s w) → DL P n ops Q keep S fuel' listed' ρ w) → DL P n ops Q keep S fuel listed ρ w) : DL P n ops Q keep S fuel listed ρ w :=
 h2 fun ρ w ⟨s, hE, hk⟩ => h1 s ρ w hE hk
end
/-! ### lists of a known length -/
theorem list3 {α : Type} {l : List α} (h : l.length = 3) : ∃ a b c, l = [a, b, c] := by
 match l, h with
 | [a, b, c], _ => exact ⟨a, b, c, rfl⟩
theorem list5 {α : Type} {l : List α} (h : l.length = 5) : ∃ a b c d e, l = [a, b, c, d, e] := by
 match l, h with
 | [a, b, c, d, e], _ => exact ⟨a, b, c, d, e, rfl⟩
theorem list11 {α : Type} {l : List α} (h : l.length = 11) : ∃ a b c d e f g i j k m, l = [a, b, c, d, e, f, g, i, j, k, m] := by
 match l, h with
 | [a, b, c, d, e, f, g, i, j, k, m], _ => exact ⟨a, b, c, d, e, f, g, i, j, k, m, rfl⟩
end Go.Lift
end
section
/- Words and laws for proofs over the typed readings: bytes behind a slice, rows that a call owns, what an append leaves. -/
namespace Go.Lift
open Go.RowKit
/-- The slice's bytes. -/
def Bytes (w : World) (s : Sl) (bs : List UInt8) : Prop := bs.length = s.len ∧ AtO w s.a (u8s bs)
/-- A row of the call's own. -/
def Own (w : World) (base : Nat) (e : TypeId) (size : Nat) (s : Sl) (xs : List Value) : Prop := w.ownsRow base e size s.v s.len xs
theorem Bytes.ext {w w' : World} {s : Sl} {bs : List UInt8} (h : Ext w w') (hb : Bytes w s bs) : Bytes w' s bs := ⟨hb.1, Ext.atO h hb.2⟩

theorem u8s_one (bs : List UInt8) : ∀ u ∈ u8s bs, u.oneCell' = true := by
 intro u hu
 simp only [u8s, List.mem_map] at hu
 obtain ⟨b, _, rfl⟩ := hu
 rfl
theorem u8s_append (a b : List UInt8) : u8s (a ++ b) = u8s a ++ u8s b := by simp [u8s]
theorem u8s_get {bs : List UInt8} {j : Nat} {b : UInt8} (h : bs[j]? = some b) : (u8s bs)[j]? = some (.int .u8 b.toNat) := by simp [u8s, h]
theorem u8s_take (bs : List UInt8) (n : Nat) : (u8s bs).take n = u8s (bs.take n) := by simp [u8s, List.map_take]
theorem u8s_drop (bs : List UInt8) (n : Nat) : (u8s bs).drop n = u8s (bs.drop n) := by simp [u8s, List.map_drop]
theorem u8s_inj {a b : List UInt8} (h : u8s a = u8s b) : a = b := by
 unfold u8s at h
 refine List.map_inj_right (f := fun b : UInt8 => Value.int .u8 (b.toNat : Int)) ?_ |>.1 h
 intro x y hxy
 simp only [Value.int.injEq, true_and] at hxy
 exact UInt8.toNat_inj.1 (by omega)

theorem add_plain (b o n : Nat) : Addr.add ⟨b, o, none⟩ n = ⟨b, o + n, none⟩ := by unfold Addr.add; split <;> simp_all
theorem add_add (a : Addr) (m n : Nat) : (a.add m).add n = a.add (m + n) := by
 unfold Addr.add
 by_cases h1 : m = 0 <;> by_cases h2 : n = 0 <;> simp [h1, h2]
 omega

theorem At.mk {w : World} {a : Addr} {cs : List Value} (h : ∀ j v, cs[j]? = some v → w.cell? (a.add j) = some v) : At w a cs := h
/-- the cells of a block -/
theorem At.block {w : World} {b o : Nat} {cs : List Value} {cur : Array Value} {e : TypeId} {fr : Nat × Nat} (hb : w.heap[b]? = some (.cells cur e fr)) (hc : (cur.toList.drop o).take cs.length = cs) : At w ⟨b, o, none⟩ cs := by
 intro j v hj
 rw [add_plain, cell_of_row w b (o + j) cur e fr hb]
 have hjl : j < cs.length := (List.getElem?_eq_some_iff.1 hj).1
 have : ((cur.toList.drop o).take cs.length)[j]? = some v := by rw [hc]; exact hj
 rw [List.getElem?_take_of_lt hjl, List.getElem?_drop] at this
 simpa using this
theorem At.new {w w' : World} {b : Nat} {cs : List Value} {e : TypeId} (hb : b = w.heap.size) (hw : w' = w.alloc (.cells cs.toArray e)) : At w' ⟨b, 0, none⟩ cs := by
 subst hb; subst hw
 exact At.block (heap_new _ _) (by simp)
theorem Ext.new {w w' : World} {o : Obj} (hw : w' = w.alloc o) : Ext w w' := by subst hw; exact Ext.alloc (Ext.refl _) _
theorem At.sub {w : World} {a : Addr} {cs : List Value} (h : At w a cs) (o n : Nat) : At w (a.add o) ((cs.drop o).take n) := by
 intro j v hj
 rw [add_add]
 refine h (o + j) v ?_
 have hjl : j < n := by
  rcases Nat.lt_or_ge j n with h' | h'
  ·exact h'
  ·rw [List.getElem?_take_eq_none h'] at hj; cases hj
 rw [List.getElem?_take_of_lt hjl, List.getElem?_drop] at hj
 exact hj
theorem At.app {w : World} {a : Addr} {cs ds : List Value} (h : At w a cs) (k : At w (a.add cs.length) ds) : At w a (cs ++ ds) := by
 intro j v hj
 rcases Nat.lt_or_ge j cs.length with h' | h'
 ·rw [List.getElem?_append_left h'] at hj; exact h j v hj
 ·rw [List.getElem?_append_right h'] at hj
  have := k (j - cs.length) v hj
  rwa [add_add, Nat.add_sub_cancel' h'] at this

theorem Own.at {w : World} {base : Nat} {e : TypeId} {size : Nat} {s : Sl} {xs : List Value} (h : Own w base e size s xs) : AtO w s.a xs := by
 obtain ⟨a, l, c⟩ := s
 have hh := h
 rcases h.2 with ⟨h1, h2⟩ | ⟨g, cap, cur, h1, _⟩
 ·simp only [Value.slice.injEq] at h1
  obtain ⟨rfl, _, _⟩ := h1
  have := h.1
  simp only at h2
  rw [h2, Nat.zero_mul] at this
  exact List.eq_nil_of_length_eq_zero this
 ·simp only [Value.slice.injEq] at h1
  obtain ⟨rfl, _, _⟩ := h1
  exact fun j u hj => World.ownsRow.cells hh rfl j u hj
theorem Own.length {w : World} {base : Nat} {e : TypeId} {size : Nat} {s : Sl} {xs : List Value} (h : Own w base e size s xs) : xs.length = s.len * size := h.1
theorem Own.bytes {w : World} {base : Nat} {e : TypeId} {s : Sl} {bs : List UInt8} (h : Own w base e 1 s (u8s bs)) : Bytes w s bs :=
 ⟨by have := h.length; rw [u8s_length] at this; omega, h.at⟩
theorem Own.cap {w : World} {base : Nat} {e : TypeId} {size : Nat} {s : Sl} {xs : List Value} (h : Own w base e size s xs) : s.len ≤ s.cap := by
 obtain ⟨a, l, c⟩ := s
 show l ≤ c
 rcases h.2 with ⟨h1, h2⟩ | ⟨g, cap, cur, h1, _, _, h4, _⟩
 ·have h2 : l = 0 := h2; omega
 ·simp only [Value.slice.injEq] at h1; have h4 : l ≤ cap := h4; omega
theorem Own.nil (w : World) (base : Nat) (e : TypeId) (size : Nat) : Own w base e size nilSl [] := World.ownsRow_nil w base e size
/-- A row that was just made, no longer than it is. -/
theorem Own.new {w w' : World} {base b : Nat} {e : TypeId} {size n : Nat} {cs : List Value} (hb : b = w.heap.size) (hw : w' = w.alloc (.cells cs.toArray e)) (hbase : base ≤ w.heap.size) (hl : cs.length = n * size) (hm : n ≤ maxLen) :
  Own w' base e size ⟨some ⟨b, 0, none⟩, n, n⟩ cs := by
 subst hb; subst hw
 exact ⟨hl, .inr ⟨w.heap.size, n, cs.toArray, rfl, hbase, heap_new _ _, Nat.le_refl _, hm, by simpa using hl, by simp [← hl]⟩⟩
theorem Own.made {w w' : World} {base b : Nat} {e : TypeId} {size c : Nat} {cs : List Value} (hb : b = w.heap.size) (hw : w' = w.alloc (.cells cs.toArray e)) (hbase : base ≤ w.heap.size) (hl : cs.length = c * size) (hm : c ≤ maxLen) :
  Own w' base e size ⟨some ⟨b, 0, none⟩, 0, c⟩ [] := by
 subst hb; subst hw
 exact ⟨by simp, .inr ⟨w.heap.size, c, cs.toArray, rfl, hbase, heap_new _ _, Nat.zero_le _, hm, by simpa using hl, by simp⟩⟩
theorem Own.ext {w w' : World} {base : Nat} {e : TypeId} {size : Nat} {s : Sl} {xs : List Value} (hx : Ext w w') (h : Own w base e size s xs) : Own w' base e size s xs := by
 refine ⟨h.1, ?_⟩
 rcases h.2 with h | ⟨g, cap, cur, h1, h2, h3, h4⟩
 ·exact .inl h
 ·exact .inr ⟨g, cap, cur, h1, h2, Ext.heap hx h3, h4⟩

/-- 'append' onto a row of the call's own. -/
theorem app_own {P : Program} {w : World} {base : Nat} {t e : TypeId} {i : TypeInfo} {z : Value} {size bytes : Nat} {s x : Sl} {xs news : List Value} {K : Sl → World → Prop}
  (ht : P.underlying t = some (.slice e)) (hi : P.info? e = some i) (hz : i.zero = some z) (hsize : i.size = size) (hby : i.bytes = bytes) (hzs : z.cells.size = size) (hsz : 0 < size)
  (hown : Own w base e size s xs) (hl : news.length = x.len * size) (hx : AtO w x.a news) (h1 : ∀ u ∈ news, u.oneCell' = true)
  (h63 : s.len + x.len ≤ maxLen) (hb : (s.len + x.len) * bytes ≤ 140737488355328) (hbase : base ≤ w.heap.size)
  (h : ∀ (s' : Sl) (w' : World), s'.len = s.len + x.len → Own w' base e size s' (xs ++ news) → w.grownBy w' s.v.ownBlock → (∀ B a, Below B a w → B ≤ base → B ≤ w.heap.size → Below B a w') → K s' w') : app P t s x w K := by
 have hB : ∀ w', w.grownBy w' s.v.ownBlock → ∀ B a, Below B a w → B ≤ base → B ≤ w.heap.size → Below B a w' := fun w' hg B a hba hB1 hB2 =>
  Below.grown hba hg hB2 fun k hk => Nat.le_trans hB1 (World.ownsRow.lt hown k hk).1
 obtain ⟨xa, xl, xc⟩ := x
 cases xa with
 | none =>
  have hn : news = [] := hx
  subst hn
  simp only [List.length_nil] at hl
  have hxl : xl = 0 := by
   rcases Nat.eq_zero_or_pos xl with h | h
   ·exact h
   ·have := Nat.mul_pos h hsz; omega
  subst hxl
  have hgr : w.grownBy w s.v.ownBlock := ⟨rfl, rfl, rfl, Nat.le_refl _, fun _ _ _ => rfl⟩
  refine ⟨s, w, ?_, h s w rfl (by simpa using hown) hgr (hB w hgr)⟩
  obtain ⟨sa, sl, sc⟩ := s
  have hle : sl ≤ sc := by
   rcases hown.2 with ⟨h1, h2⟩ | ⟨g, cap, cur, h1, _, _, h4, _⟩
   ·simp only at h2; omega
   ·simp only [Value.slice.injEq] at h1; simp only at h4; omega
  cases sa <;> simp [Builtin.append_, run_underlying ht, sizeOf, typeInfo, hi, Builtin.lenOf, Builtin.firstCells, hle, storeCells]
 | some a =>
  obtain ⟨v', w', hr, ho, hg, _⟩ := run_append_own (P := P) w base t t e i z size bytes ht hi hz hsize hby hzs hsz s.v s.len xs hown a xl xc news hl hx h1 h63 hb hbase
  -- the value is a slice
  have hv : ∃ s' : Sl, v' = s'.v ∧ s'.len = s.len + xl := by
   rcases ho.2 with ⟨h1, h2⟩ | ⟨g, cap, cur, h1, _⟩
   ·exact ⟨nilSl, h1, h2.symm⟩
   ·exact ⟨⟨some ⟨g, 0, none⟩, s.len + xl, cap⟩, h1, rfl⟩
  obtain ⟨s', rfl, hl'⟩ := hv
  refine ⟨s', w', hr, h s' w' hl' ?_ hg (hB w' hg)⟩
  unfold Own
  rw [hl']
  exact ho

theorem AtO.some_of {w : World} {a : Option Addr} {cs : List Value} {j : Nat} {v : Value} (h : AtO w a cs) (hj : cs[j]? = some v) : ∃ b, a = some b ∧ w.cell? (b.add j) = some v := by
 cases a with
 | none =>
  have : cs = [] := h
  subst this
  simp at hj
 | some b => exact ⟨b, rfl, h j v hj⟩
/-- A slice of slices of bytes. -/
def Parts (w : World) (p : Sl) (l : List (List UInt8)) : Prop :=
 ∃ ss : List Sl, ss.length = p.len ∧ ss.length = l.length ∧ AtO w p.a (ss.map Sl.v) ∧ ∀ (k : Nat) (s : Sl) (b : List UInt8), ss[k]? = some s → l[k]? = some b → Bytes w s b
theorem Parts.ext {w w' : World} {p : Sl} {l : List (List UInt8)} (h : Ext w w') (hp : Parts w p l) : Parts w' p l := by
 obtain ⟨ss, h1, h2, h3, h4⟩ := hp
 exact ⟨ss, h1, h2, Ext.atO h h3, fun k s b hs hb => (h4 k s b hs hb).ext h⟩
theorem Parts.len {w : World} {p : Sl} {l : List (List UInt8)} (hp : Parts w p l) : p.len = l.length := by
 obtain ⟨ss, h1, h2, _⟩ := hp
 omega
theorem Parts.get {w : World} {p : Sl} {l : List (List UInt8)} (hp : Parts w p l) {k : Nat} (hk : k < l.length) : ∃ a s, p.a = some a ∧ w.cell? (a.add k) = some s.v ∧ Bytes w s l[k] := by
 obtain ⟨ss, h1, h2, h3, h4⟩ := hp
 have hks : k < ss.length := by omega
 obtain ⟨a, ha, hc⟩ := h3.some_of (j := k) (v := ss[k].v) (by simp [hks])
 exact ⟨a, ss[k], ha, hc, h4 k _ _ (List.getElem?_eq_getElem hks) (List.getElem?_eq_getElem hk)⟩
theorem Bytes.get {w : World} {s : Sl} {bs : List UInt8} (h : Bytes w s bs) {k : Nat} (hk : k < bs.length) : ∃ a, s.a = some a ∧ w.cell? (a.add k) = some (.int .u8 bs[k].toNat) :=
 AtO.some_of h.2 (u8s_get (List.getElem?_eq_getElem hk))

theorem mkCells_eq {P : Program} {t e : TypeId} {size bytes : Nat} {zs : List Value} (h : mkCells P t = some (e, size, bytes, zs)) :
  P.underlying t = some (.slice e) ∧ ∃ i z, P.info? e = some i ∧ i.zero = some z ∧ i.size = size ∧ i.bytes = bytes ∧ z.cells.toList = zs := by
 unfold mkCells at h
 split at h
 ·rename_i e' hu
  split at h
  ·rename_i i hi
   split at h
   ·rename_i z hz
    simp only [Option.some.injEq, Prod.mk.injEq] at h
    obtain ⟨rfl, h1, h2, h3⟩ := h
    exact ⟨hu, i, z, hi, hz, h1, h2, h3⟩
   ·simp at h
  ·simp at h
 ·simp at h
/-- The same, from the one closed fact on the type. -/
theorem app_ok {P : Program} {w : World} {base : Nat} {t e : TypeId} {zs : List Value} {size bytes : Nat} {s x : Sl} {xs news : List Value} {K : Sl → World → Prop}
  (ht : mkCells P t = some (e, size, bytes, zs)) (hzs : zs.length = size) (hsz : 0 < size)
  (hown : Own w base e size s xs) (hl : news.length = x.len * size) (hx : AtO w x.a news) (h1 : ∀ u ∈ news, u.oneCell' = true)
  (h63 : s.len + x.len ≤ maxLen) (hb : (s.len + x.len) * bytes ≤ 140737488355328) (hbase : base ≤ w.heap.size)
  (h : ∀ (s' : Sl) (w' : World), s'.len = s.len + x.len → Own w' base e size s' (xs ++ news) → w.grownBy w' s.v.ownBlock → (∀ B a, Below B a w → B ≤ base → B ≤ w.heap.size → Below B a w') → K s' w') : app P t s x w K := by
 obtain ⟨hu, i, z, hi, hz, hs, hby, hc⟩ := mkCells_eq ht
 exact app_own hu hi hz hs hby (by rw [← hzs, ← hc]; simp) hsz hown hl hx h1 h63 hb hbase h

/-! ### cuts -/
theorem AtO.nil (w : World) (a : Option Addr) : AtO w a [] := by
 cases a with
 | none => rfl
 | some a => exact fun j v h => by simp at h
theorem AtO.cut {w : World} {s : Sl} {cs : List Value} (h : AtO w s.a cs) (n : Nat) {l e m : Nat} (h1 : l ≤ e) (h2 : e ≤ m) : AtO w (s.cut n l e m).a ((cs.take (e * n)).drop (l * n)) := by
 obtain ⟨a, len, cap⟩ := s
 cases a with
 | none =>
  have : cs = [] := h
  subst this
  simp only [List.take_nil, List.drop_nil]
  exact AtO.nil _ _
 | some a =>
  have h' : At w a cs := h
  unfold Sl.cut
  simp only [Int.toNat_natCast]
  split
  ·rename_i hml
   have : e = l := by omega
   subst this
   rw [List.drop_eq_nil_of_le (by simp; omega)]
   exact AtO.nil _ _
  ·show At w (a.add (l * n)) _
   have := h'.sub (l * n) (e * n - l * n)
   rwa [← List.drop_take] at this
theorem Bytes.cut {w : World} {s : Sl} {bs : List UInt8} (h : Bytes w s bs) {l e m : Nat} (h1 : l ≤ e) (h2 : e ≤ m) (h3 : e ≤ bs.length) : Bytes w (s.cut 1 l e m) ((bs.take e).drop l) := by
 refine ⟨?_, ?_⟩
 ·simp [Sl.cut]; omega
 ·have := h.2.cut 1 h1 h2
  rw [Nat.mul_one, Nat.mul_one, u8s_take, u8s_drop] at this
  exact this

/-! ### rows that are marked -/
theorem heap_freeze_ne (w : World) (a : Addr) (n k : Nat) (h : k ≠ a.block) : (w.freeze a n).heap[k]? = w.heap[k]? := by
 unfold World.freeze
 split
 ·rfl
 ·simp only [Array.getElem?_modify]
  rw [if_neg (by omega)]
theorem freeze_size (w : World) (a : Addr) (n : Nat) : (w.freeze a n).heap.size = w.heap.size := by
 unfold World.freeze
 split <;> simp
theorem cell_freeze (w : World) (a : Addr) (n : Nat) (b : Addr) : (w.freeze a n).cell? b = w.cell? b := by
 unfold World.freeze
 split
 ·rfl
 ·unfold World.cell?
  simp only [Array.getElem?_modify]
  by_cases h : a.block = b.block
  ·rw [if_pos h]
   cases hb : w.heap[b.block]? with
   | none => rfl
   | some o => cases o <;> rfl
  ·rw [if_neg h]
theorem Ext.freeze {w0 w : World} (h : Ext w0 w) {a : Addr} (n : Nat) (hb : w0.heap.size ≤ a.block) : Ext w0 (w.freeze a n) :=
 ⟨by unfold World.freeze; split <;> exact h.os, by unfold World.freeze; split <;> exact h.tape, by unfold World.freeze; split <;> exact h.output, by rw [freeze_size]; exact h.size,
  fun k hk => by rw [heap_freeze_ne _ _ _ _ (by omega)]; exact h.block k hk⟩
theorem At.freeze {w : World} {a : Addr} {cs : List Value} (h : At w a cs) (b : Addr) (n : Nat) : At (w.freeze b n) a cs := fun j v hj => by rw [cell_freeze]; exact h j v hj

/-! ### a place of an own row is written -/
theorem Own.place {w : World} {base : Nat} {e : TypeId} {size : Nat} {s : Sl} {xs : List Value} (h : Own w base e size s xs) {j : Nat} (hj : j < s.len * size) :
  ∃ g, s.a = some ⟨g, 0, none⟩ ∧ base ≤ g ∧ g < w.heap.size ∧ w.cell? ⟨g, j, none⟩ = xs[j]? ∧ w.frozen? ⟨g, j, none⟩ = false ∧
   ∀ (v : Value), Own (w.setCell ⟨g, j, none⟩ v) base e size s (xs.set j v) ∧ ∀ B a, Below B a w → B ≤ base → Below B a (w.setCell ⟨g, j, none⟩ v) := by
 obtain ⟨a, l, c⟩ := s
 rcases h.2 with ⟨h1, h2⟩ | ⟨g, cap, cur, h1, h2, h3, _⟩
 ·simp only at h2 hj; subst h2; rw [Nat.zero_mul] at hj; omega
 ·simp only [Value.slice.injEq] at h1
  obtain ⟨rfl, _, rfl⟩ := h1
  have hg : g < w.heap.size := by
   rcases Nat.lt_or_ge g w.heap.size with h' | h'
   ·exact h'
   ·rw [Array.getElem?_eq_none h'] at h3; cases h3
  refine ⟨g, rfl, h2, hg, World.ownsRow.cellAt h j hj, World.ownsRow.frozenAt h j, fun v => ⟨(World.ownsRow.stored h j v).1, fun B a hb hB => Below.setCell hb (Nat.le_trans hB h2) v⟩⟩
theorem Own.below {w : World} {base : Nat} {e : TypeId} {size : Nat} {s : Sl} {xs : List Value} (h : Own w base e size s xs) {a : Addr} (ha : a.block < base) (v : Value) : Own (w.setCell a v) base e size s xs := ownsRow_setCell_below h ha v
theorem ix_own {w : World} {base : Nat} {e : TypeId} {size : Nat} {s : Sl} {xs : List Value} {i : Int} {j : Nat} {K : Addr → Prop} (h : Own w base e size s xs) (hs : 0 < size) (hi : i = (j : Int)) (hj : j < s.len)
  (hk : ∀ g, s.a = some ⟨g, 0, none⟩ → base ≤ g → g < w.heap.size → K ⟨g, j * size, none⟩) : ix s size i K := by
 subst hi
 have hj2 : j * size < s.len * size := Nat.mul_lt_mul_of_pos_right hj hs
 obtain ⟨g, hg, hb, hsz, _⟩ := h.place hj2
 refine ⟨⟨g, 0, none⟩, _, hg, by omega, by omega, rfl, ?_⟩
 rw [add_plain, Nat.zero_add, Int.toNat_natCast]
 exact hk g hg hb hsz
theorem st1_own {w : World} {base g : Nat} {e : TypeId} {size : Nat} {s : Sl} {xs : List Value} {v : Value} {j : Nat} {K : World → Prop} (h : Own w base e size s xs) (ha : s.a = some ⟨g, 0, none⟩) (hj : j < s.len * size)
  (hk : ∀ w', w' = w.setCell ⟨g, j, none⟩ v → Own w' base e size s (xs.set j v) → (∀ B a, Below B a w → B ≤ base → Below B a w') → K w') : st1 ⟨g, j, none⟩ v w K := by
 obtain ⟨g', hg, hb, hsz, hc, hf, hv⟩ := h.place hj
 rw [ha] at hg
 cases hg
 have hl : j < xs.length := by have := h.length; omega
 refine ⟨xs[j], by rw [hc, List.getElem?_eq_getElem hl], hf, fun w' hw => hk w' hw (by rw [hw]; exact (hv v).1) (by rw [hw]; exact (hv v).2)⟩

/-! ### numbers -/
theorem w64_eq {x : Int} (h0 : -9223372036854775808 ≤ x) (h1 : x ≤ 9223372036854775807) : IntKind.i64.wrap x = x := by
 simp [IntKind.wrap, IntKind.signed, IntKind.bits]; omega
theorem wu64_eq {x : Int} (h0 : 0 ≤ x) (h1 : x < 18446744073709551616) : IntKind.u64.wrap x = x := by
 simp [IntKind.wrap, IntKind.signed, IntKind.bits]; omega
theorem wu32_eq {x : Int} (h0 : 0 ≤ x) (h1 : x < 4294967296) : IntKind.u32.wrap x = x := by
 simp [IntKind.wrap, IntKind.signed, IntKind.bits]; omega
theorem wu8_eq {x : Int} (h0 : 0 ≤ x) (h1 : x < 256) : IntKind.u8.wrap x = x := by
 simp [IntKind.wrap, IntKind.signed, IntKind.bits]; omega
theorem wu8_mod (x : Int) : IntKind.u8.wrap x = x % 256 := by simp [IntKind.wrap, IntKind.signed, IntKind.bits]
theorem wu32_mod (x : Int) : IntKind.u32.wrap x = x % 4294967296 := by simp [IntKind.wrap, IntKind.signed, IntKind.bits]
theorem wu64_mod (x : Int) : IntKind.u64.wrap x = x % 18446744073709551616 := by simp [IntKind.wrap, IntKind.signed, IntKind.bits]

/-! ### ways -/
theorem ifB_t {b : Bool} {x y : Prop} (hb : b = true) (h : x) : ifB b x y := ⟨fun _ => h, fun h' => by rw [hb] at h'; cases h'⟩
theorem ifB_f {b : Bool} {x y : Prop} (hb : b = false) (h : y) : ifB b x y := ⟨fun h' => absurd h' (by simp [hb]), fun _ => h⟩
theorem ifB_dt {p : Prop} [Decidable p] {x y : Prop} (hp : p) (h : x) : ifB (decide p) x y := ifB_t (decide_eq_true hp) h
theorem ifB_df {p : Prop} [Decidable p] {x y : Prop} (hp : ¬ p) (h : y) : ifB (decide p) x y := ifB_f (decide_eq_false hp) h
theorem ifB_nt {p : Prop} [Decidable p] {x y : Prop} (hp : ¬ p) (h : x) : ifB (!decide p) x y := ifB_t (by simp [hp]) h
theorem ifB_nf {p : Prop} [Decidable p] {x y : Prop} (hp : p) (h : y) : ifB (!decide p) x y := ifB_f (by simp [hp]) h
theorem nd_t {p : Prop} [Decidable p] (h : (!decide p) = true) : ¬ p := by simpa using h
theorem nd_f {p : Prop} [Decidable p] (h : (!decide p) = false) : p := by simpa using h
/-- A call by its contract. -/
theorem cR_of {α : Type} {P : Program} {f : FuncId} {mk : α → Value} {args : Array Value} {w : World} {K K' : α → World → Prop} (h : Calls P f args w (Ret mk K')) (hk : ∀ x w', K' x w' → K x w') : cR P f mk args w K := by
 refine Calls.mono h fun e w' hh => ?_
 obtain ⟨x, he, hx⟩ := hh
 exact ⟨x, he, hk x w' hx⟩
theorem Ret.mono {α : Type} {P : Program} {f : FuncId} {mk : α → Value} {args : Array Value} {w : World} {K K' : α → World → Prop} (h : Calls P f args w (Ret mk K')) (hk : ∀ x w', K' x w' → K x w') : Calls P f args w (Ret mk K) := cR_of h hk
end Go.Lift
end
section
/- From a row's reading of its arguments to the facts that the contracts ask. -/
namespace Go.Lift
open Go.ChangeShapes Go.WideShapes Go.ChangeAt Go.RowKit Go.Deep

section
variable {H : Type} {enc : TypeId × Value → H} {P : Program} {w : World} {base : Nat} {held : Bool}
theorem sl_cells {s : Sl} {a : Option Addr} {l c : Nat} (h : (Value.slice a l c).cells.toList = [s.v]) : (Value.slice a l c) = s.v := by
 simpa [Value.cells] using h
/-- bytes -/
theorem open_u8s {t e : TypeId} {fuel : Nat} {cs : List Value} {x : DataW H × List MemPlace} (ht : P.underlying t = some (.slice e)) (he : P.underlying e = some (.int .u8)) (hc : P.cellsOf e = 1)
  (h : DataW.trod enc P w base (fun _ => true) held fuel t cs = some x) : ∃ s : Sl, cs = [s.v] ∧ s.len ≤ s.cap ∧ s.cap ≤ maxLen ∧ ∃ bs, Bytes w s bs := by
 rcases open_ints ht he hc h with ⟨hcs, _⟩ | ⟨a, len, cap, zs, hcs, _, hl, hm, hz, _, hcell, hwz⟩
 ·exact ⟨nilSl, hcs, Nat.le_refl _, Nat.zero_le _, [], rfl, rfl⟩
 ·have hz' : zs.length = cap := by simpa using hz
  refine ⟨⟨some a, len, cap⟩, hcs, hl, hm, (zs.take len).map (fun z => UInt8.ofNat z.toNat), by simp; omega, ?_⟩
  intro j v hj
  simp only [u8s, List.map_map, List.getElem?_map] at hj
  rcases hjz : (zs.take len)[j]? with _ | z
  ·rw [hjz] at hj; simp at hj
  ·rw [hjz] at hj
   simp only [Option.map_some, Option.some.injEq, Function.comp] at hj
   have hjl : j < zs.length := by
    have := (List.getElem?_eq_some_iff.1 hjz).1
    simp at this; omega
   have hzj : zs[j]? = some z := by
    have hjt : j < len := by
     have := (List.getElem?_eq_some_iff.1 hjz).1
     simp at this; omega
    rw [List.getElem?_take_of_lt hjt] at hjz
    exact hjz
   have hmem : z ∈ zs := List.mem_of_getElem? hzj
   have hwf := hwz z hmem
   have hb : 0 ≤ z ∧ z ≤ 255 := by simpa [Lit.wf, IntKind.min, IntKind.max, IntKind.signed, IntKind.bits] using hwf
   have := hcell j hjl
   rw [this, ← hj]
   have : zs.getD j 0 = z := by simp [List.getD, hzj]
   rw [this]
   have h2 : (UInt8.ofNat z.toNat).toNat = z.toNat := by simp; omega
   rw [h2]
   congr 2
   omega
theorem choose_fn {α β : Type} [Inhabited β] {p : α → β → Prop} {q : α → Prop} (h : ∀ i, q i → ∃ b, p i b) : ∃ f : α → β, ∀ i, q i → p i (f i) := by
 classical
 refine ⟨fun i => if hq : ∃ b, p i b then Classical.choose hq else default, fun i hi => ?_⟩
 have := h i hi
 simp only [dif_pos this]
 exact Classical.choose_spec this
instance : Inhabited Sl := ⟨nilSl⟩
/-- slices of bytes -/
theorem open_parts {t e q : TypeId} {fuel : Nat} {cs : List Value} {x : DataW H × List MemPlace} (ht : P.underlying t = some (.slice e)) (he : P.underlying e = some (.slice q)) (hq : P.underlying q = some (.int .u8))
  (ce : P.cellsOf e = 1) (cq : P.cellsOf q = 1) (h : DataW.trod enc P w base (fun _ => true) held fuel t cs = some x) : ∃ s : Sl, cs = [s.v] ∧ s.len ≤ s.cap ∧ s.cap ≤ maxLen ∧ ∃ l, Parts w s l ∧ ∀ b ∈ l, b.length ≤ maxLen := by
 rcases open_slice1 ht ce h with ⟨hcs, _⟩ | ⟨a, len, cap, m, n, V, D, Pl, hcs, _, hl, hm, hmm, _, hx⟩
 ·exact ⟨nilSl, hcs, Nat.le_refl _, Nat.zero_le _, [], ⟨[], rfl, rfl, rfl, fun k s b hs => by simp at hs⟩, by simp⟩
 ·have hmc : m = cap := by simpa using hmm
  have hel : ∀ i, i < len → ∃ y : Sl × List UInt8, V i = y.1.v ∧ w.cell? (a.add i) = some (V i) ∧ Bytes w y.1 y.2 ∧ y.1.len ≤ maxLen := by
   intro i hi
   obtain ⟨h1, h2⟩ := hx i (by omega)
   obtain ⟨s, hs, h3, h4, bs, hb⟩ := open_u8s he hq cq h2
   exact ⟨(s, bs), by simpa using hs, h1, hb, Nat.le_trans h3 h4⟩
  obtain ⟨f, hf⟩ := choose_fn (p := fun i (y : Sl × List UInt8) => V i = y.1.v ∧ w.cell? (a.add i) = some (V i) ∧ Bytes w y.1 y.2 ∧ y.1.len ≤ maxLen) (q := fun i => i < len) hel
  refine ⟨⟨some a, len, cap⟩, hcs, hl, hm, (List.range len).map fun i => (f i).2, ⟨(List.range len).map fun i => (f i).1, by simp, by simp, ?_, ?_⟩, ?_⟩
  ·intro j v hj
   simp only [List.map_map, List.getElem?_map] at hj
   by_cases hjl : j < len
   ·simp only [List.getElem?_range hjl, Option.map_some, Function.comp, Option.some.injEq] at hj
    obtain ⟨h1, h2, _⟩ := hf j hjl
    rw [h2, h1, hj]
   ·rw [List.getElem?_eq_none (by simpa using hjl)] at hj; simp at hj
  ·intro k s b hs hb
   by_cases hjl : k < len
   ·simp only [List.getElem?_map, List.getElem?_range hjl, Option.map_some, Option.some.injEq] at hs hb
    subst hs; subst hb
    exact (hf k hjl).2.2.1
   ·rw [List.getElem?_eq_none (by simpa using hjl)] at hs; simp at hs
  ·intro b hb
   simp only [List.mem_map, List.mem_range] at hb
   obtain ⟨i, hi, rfl⟩ := hb
   have := (hf i hi).2.2
   rw [this.1.1]
   exact this.2
end
end Go.Lift
end
section
/- Blocks that are written: what stays, what a store, a copy and an append leave. -/
namespace Go.Lift
open Go.RowKit
/-- All that was there is as it was, but for some blocks. -/
structure Fr (X : Nat → Prop) (w w' : World) : Prop where
 os : w'.os = w.os
 tape : w'.tape = w.tape
 output : w'.output = w.output
 size : w.heap.size ≤ w'.heap.size
 block : ∀ k, k < w.heap.size → ¬ X k → w'.heap[k]? = w.heap[k]?
theorem Fr.of {X : Nat → Prop} {w w' : World} (h : Ext w w') : Fr X w w' := ⟨h.os, h.tape, h.output, h.size, fun k hk _ => h.block k hk⟩
theorem Fr.refl {X : Nat → Prop} (w : World) : Fr X w w := Fr.of (Ext.refl w)
theorem Fr.trans {X : Nat → Prop} {a b c : World} (h : Fr X a b) (k : Fr X b c) : Fr X a c :=
 ⟨k.os.trans h.os, k.tape.trans h.tape, k.output.trans h.output, Nat.le_trans h.size k.size, fun i hi hx => (k.block i (Nat.lt_of_lt_of_le hi h.size) hx).trans (h.block i hi hx)⟩
theorem Fr.mono {X Y : Nat → Prop} {a b : World} (h : Fr X a b) (hxy : ∀ k, k < a.heap.size → X k → Y k) : Fr Y a b := ⟨h.os, h.tape, h.output, h.size, fun i hi hx => h.block i hi fun hx' => hx (hxy i hi hx')⟩
theorem Fr.below {X : Nat → Prop} {B : Nat} {a w w' : World} (h : Fr X w w') (hb : Below B a w) (hX : ∀ k, k < w.heap.size → X k → B ≤ k) (hB : B ≤ w.heap.size) : Below B a w' :=
 ⟨h.os.trans hb.os, h.tape.trans hb.tape, h.output.trans hb.output, Nat.le_trans hb.size h.size, fun k hk => (h.block k (Nat.lt_of_lt_of_le hk hB) fun hx => Nat.lt_irrefl _ (Nat.lt_of_lt_of_le hk (hX k (Nat.lt_of_lt_of_le hk hB) hx))).trans (hb.block k hk)⟩
theorem Fr.ext {X : Nat → Prop} {w0 w w' : World} (h : Fr X w w') (hb : Ext w0 w) (hX : ∀ k, k < w.heap.size → X k → w0.heap.size ≤ k) : Ext w0 w' := h.below hb hX hb.size
theorem Fr.cell {X : Nat → Prop} {w w' : World} (h : Fr X w w') {a : Addr} {v : Value} (hx : ¬ X a.block) (hc : w.cell? a = some v) : w'.cell? a = some v :=
 (World.cell?_of_block (h.block a.block (World.block_lt_of_cell? w a hc) hx)).trans hc
theorem Fr.at {X : Nat → Prop} {w w' : World} (h : Fr X w w') {a : Addr} {cs : List Value} (hx : ¬ X a.block) (hc : At w a cs) : At w' a cs := fun j v hj => h.cell (by rw [add_block]; exact hx) (hc j v hj)
theorem Fr.atO {X : Nat → Prop} {w w' : World} (h : Fr X w w') {a : Option Addr} {cs : List Value} (hx : ∀ b, a = some b → ¬ X b.block) (hc : AtO w a cs) : AtO w' a cs := by
 cases a with
 | none => exact hc
 | some a => exact h.at (hx a rfl) hc
theorem Fr.bytes {X : Nat → Prop} {w w' : World} (h : Fr X w w') {s : Sl} {bs : List UInt8} (hx : ∀ b, s.a = some b → ¬ X b.block) (hc : Bytes w s bs) : Bytes w' s bs := ⟨hc.1, h.atO hx hc.2⟩
theorem Fr.own {X : Nat → Prop} {w w' : World} (h : Fr X w w') {base : Nat} {e : TypeId} {size : Nat} {s : Sl} {xs : List Value} (hx : ∀ b, s.a = some b → ¬ X b.block) (hc : Own w base e size s xs) : Own w' base e size s xs := by
 obtain ⟨a, l, c⟩ := s
 refine ⟨hc.1, ?_⟩
 rcases hc.2 with h0 | ⟨g, cap, cur, h1, h2, h3, h4⟩
 ·exact .inl h0
 ·simp only [Value.slice.injEq] at h1
  obtain ⟨rfl, _, rfl⟩ := h1
  refine .inr ⟨g, c, cur, rfl, h2, ?_, h4⟩
  have hg : g < w.heap.size := (Array.getElem?_eq_some_iff.1 h3).1
  rw [h.block g hg (hx _ rfl)]
  exact h3

/-! ### blocks -/
def Blk (w : World) (g : Nat) (e : TypeId) (cs : List Value) : Prop := w.heap[g]? = some (.cells cs.toArray e (0, 0))
theorem Blk.lt {w : World} {g : Nat} {e : TypeId} {cs : List Value} (h : Blk w g e cs) : g < w.heap.size := (Array.getElem?_eq_some_iff.1 h).1
theorem Blk.new {w w' : World} {b : Nat} {e : TypeId} {cs : List Value} (hb : b = w.heap.size) (hw : w' = w.alloc (.cells cs.toArray e)) : Blk w' b e cs := by subst hb; subst hw; exact heap_new _ _
theorem Blk.fr {X : Nat → Prop} {w w' : World} {g : Nat} {e : TypeId} {cs : List Value} (h : Blk w g e cs) (hf : Fr X w w') (hx : ¬ X g) : Blk w' g e cs := (hf.block g h.lt hx).trans h
theorem Blk.ext {w w' : World} {g : Nat} {e : TypeId} {cs : List Value} (h : Blk w g e cs) (hf : Ext w w') : Blk w' g e cs := Ext.heap hf h
theorem Blk.at {w : World} {g o : Nat} {e : TypeId} {cs ds : List Value} (h : Blk w g e cs) (hd : (cs.drop o).take ds.length = ds) : At w ⟨g, o, none⟩ ds := At.block h (by simpa using hd)
theorem Blk.cell {w : World} {g o : Nat} {e : TypeId} {cs : List Value} {v : Value} (h : Blk w g e cs) (hv : cs[o]? = some v) : w.cell? ⟨g, o, none⟩ = some v := by
 rw [cell_of_row w g o cs.toArray e (0, 0) h]; simpa using hv
theorem Blk.unfrozen {w : World} {g o : Nat} {e : TypeId} {cs : List Value} (h : Blk w g e cs) : w.frozen? ⟨g, o, none⟩ = false := by
 have h' : w.heap[g]? = some (.cells cs.toArray e (0, 0)) := h
 unfold World.frozen?
 simp [h']
theorem setCell_fr (w : World) (g o : Nat) (v : Value) : Fr (· = g) w (w.setCell ⟨g, o, none⟩ v) :=
 ⟨rfl, rfl, rfl, by simp [World.setCell], fun k _ hk => Below.heap_setCell w _ v k hk⟩
theorem setRow_fr (w : World) (g : Nat) (cs : Array Value) : Fr (· = g) w (w.setRow g cs) := by
 refine ⟨rfl, rfl, rfl, by simp [World.setRow], fun k _ hk => ?_⟩
 unfold World.setRow
 simp only [Array.getElem?_modify]
 rw [if_neg (fun e => hk e.symm)]
theorem Blk.setCell {w : World} {g o : Nat} {e : TypeId} {cs : List Value} (h : Blk w g e cs) (v : Value) : Blk (w.setCell ⟨g, o, none⟩ v) g e (cs.set o v) := by
 have h' : w.heap[g]? = some (.cells cs.toArray e (0, 0)) := h
 unfold Blk World.setCell
 simp only [Array.getElem?_modify, if_true, h', Option.map_some, Option.isSome_none, Bool.false_eq_true, if_false]
 simp
theorem st1_blk {w : World} {g o : Nat} {e : TypeId} {cs : List Value} {v : Value} {K : World → Prop} (h : Blk w g e cs) (ho : o < cs.length) (hk : ∀ w', Blk w' g e (cs.set o v) → Fr (· = g) w w' → K w') : st1 ⟨g, o, none⟩ v w K := by
 refine ⟨cs[o], h.cell (List.getElem?_eq_getElem ho), h.unfrozen, fun w' hw => ?_⟩
 subst hw
 exact hk _ (h.setCell v) (setCell_fr w g o v)
/-- cells among cells -/
def splice (xs : List Value) (o : Nat) (cs : List Value) : List Value := xs.take o ++ cs ++ xs.drop (o + cs.length)
theorem stA_blk {w : World} {g o n : Nat} {e : TypeId} {xs cs : List Value} {K : World → Prop} (h : Blk w g e xs) (hl : cs.length = n) (ho : o + n ≤ xs.length) (h1 : ∀ v ∈ cs, v.oneCell' = true)
  (hk : ∀ w', Blk w' g e (splice xs o cs) → Fr (· = g) w w' → K w') : stA n ⟨g, o, none⟩ cs w K := by
 refine ⟨g, o, e, xs.toArray, rfl, hl, h, by simp; omega, h1, fun w' hw => ?_⟩
 subst hw
 refine hk _ ?_ (setRow_fr _ _ _)
 have := setRow_heap w g xs.toArray (splice xs o cs).toArray e (0, 0) h
 exact this
theorem byteSl_size {P : Program} {t e : TypeId} {bytes : Nat} {z : Value} (h : mkCells P t = some (e, 1, bytes, [z])) : P.underlying t = some (.slice e) ∧ (P.info? e).map (·.size) = some 1 := by
 obtain ⟨hu, i, z, hi, _, hs, _⟩ := mkCells_eq h
 exact ⟨hu, by rw [hi]; simpa using hs⟩
/-- 'copy' into a block -/
theorem cpy_blk {P : Program} {w : World} {t e5 e : TypeId} {ty : TypeId} {ts : TypeId} {bytes : Nat} {z : Value} {g o dLen dCap : Nat} {s : Sl} {xs cs : List Value} {K : Int → World → Prop} (ht : mkCells P t = some (e5, 1, bytes, [z]))
  (h : Blk w g e xs) (hn : cs.length = min s.len dLen) (hc : AtO w s.a cs) (ho : o + cs.length ≤ xs.length) (h1 : ∀ v ∈ cs, v.oneCell' = true)
  (hs : s.a = none → s.len = 0 ∧ s.cap = 0)
  (hk : ∀ w', Blk w' g e (splice xs o cs) → Fr (· = g) w w' → K cs.length w') : cpy P #[t, ts] ty #[.slice (some ⟨g, o, none⟩) dLen dCap, s.v] w K := by
 obtain ⟨hu, hsz⟩ := byteSl_size ht
 obtain ⟨sa, sl, sc⟩ := s
 cases sa with
 | none =>
  obtain ⟨h2, h3⟩ := hs rfl
  simp only at h2 h3
  subst h2; subst h3
  have hcs : cs = [] := hc
  subst hcs
  refine ⟨0, w, ?_, ?_⟩
  ·exact run_copy_nil P w t ts ty e5 ⟨g, o, none⟩ dLen dCap hu (by rw [hsz]; rfl)
  ·have := hk w (by simpa [splice] using h) (Fr.refl w)
   simpa using this
 | some a =>
  refine ⟨cs.length, _, run_copy_row (P := P) w t ts ty e5 g o dLen dCap a sl sc xs.toArray e cs hu hsz h (by simpa using hn) hc (by simpa using ho) h1, ?_⟩
  refine hk _ ?_ (setRow_fr _ _ _)
  exact setRow_heap w g xs.toArray (splice xs o cs).toArray e (0, 0) h
/-- 'copy' of a text into a block -/
theorem cpy_blk_str {P : Program} {w : World} {t e5 e : TypeId} {ty : TypeId} {ts : TypeId} {bytes : Nat} {z : Value} {g o dLen dCap : Nat} {bs : List UInt8} {xs : List Value} {K : Int → World → Prop} (ht : mkCells P t = some (e5, 1, bytes, [z]))
  (h : Blk w g e xs) (ho : o + min bs.length dLen ≤ xs.length)
  (hk : ∀ w', Blk w' g e (splice xs o (u8s (bs.take (min bs.length dLen)))) → Fr (· = g) w w' → K (min bs.length dLen : Nat) w') : cpy P #[t, ts] ty #[.slice (some ⟨g, o, none⟩) dLen dCap, str bs] w K := by
 obtain ⟨hu, hsz⟩ := byteSl_size ht
 have hlen : (u8s (bs.take (min bs.length dLen))).length = min bs.length dLen := by rw [u8s_length, List.length_take]; omega
 have hst := run_storeCells_at P g o e (u8s (bs.take (min bs.length dLen))) 0 xs.toArray w h (by simp [hlen]; omega) (u8s_one _)
 simp only [Nat.add_zero] at hst
 refine ⟨(min bs.length dLen : Nat), _, ?_, hk _ (setRow_heap w g xs.toArray (splice xs o (u8s (bs.take (min bs.length dLen)))).toArray e (0, 0) h) (setRow_fr _ _ _)⟩
 cases hq : P.info? e5 with
 | none => simp [hq] at hsz
 | some i =>
  have hi : i.size = 1 := by simpa [hq] using hsz
  have hx : (Builtin.firstCells i.size (min bs.length dLen) (str bs)).run P w = .ok (u8s (bs.take (min bs.length dLen))).toArray w := by
   simp only [Builtin.firstCells, Sem.run_pure]
   congr 1
   apply Array.ext'
   simp [u8s, List.map_take]
  simp only [hi] at hx
  simp [Builtin.copy_, run_underlying hu, Builtin.lenOf, sizeOf, typeInfo, hq, hi, hx, hst, splice, goInt, List.length_take, ByteArray.size]
/-- an own row's block -/
theorem Own.blk {w : World} {base : Nat} {e : TypeId} {size : Nat} {s : Sl} {xs : List Value} (h : Own w base e size s xs) (hl : 0 < s.len) :
  ∃ g rest, s.a = some ⟨g, 0, none⟩ ∧ base ≤ g ∧ Blk w g e (xs ++ rest) ∧ s.len ≤ s.cap := by
 have hc := h.cap
 obtain ⟨a, l, c⟩ := s
 rcases h.2 with ⟨h1, h2⟩ | ⟨g, cap, cur, h1, h2, h3, h4, h5, h6, h7⟩
 ·simp only at h2 hl; omega
 ·simp only [Value.slice.injEq] at h1
  obtain ⟨rfl, _, rfl⟩ := h1
  refine ⟨g, cur.toList.drop (l * size), rfl, h2, ?_, hc⟩
  have h7 : cur.toList.take (l * size) = xs := h7
  unfold Blk
  rw [← h7, List.take_append_drop]
  exact h3
/-- 'append' onto a slice that is full: a new row -/
theorem app_full {P : Program} {w : World} {base : Nat} {t e : TypeId} {zs : List Value} {size bytes : Nat} {s x : Sl} {olds news : List Value} {K : Sl → World → Prop}
  (ht : mkCells P t = some (e, size, bytes, zs)) (hzs : zs.length = size)
  (hfull : s.cap = s.len) (hnil : s.a = none → s.len = 0) (hlo : olds.length = s.len * size) (hol : AtO w s.a olds) (hl : news.length = x.len * size) (hx : AtO w x.a news) (hxn : x.a ≠ none) (h0 : 0 < x.len)
  (h63 : s.len + x.len ≤ maxLen) (hb : (s.len + x.len) * bytes ≤ 140737488355328) (hbase : base ≤ w.heap.size)
  (h : ∀ (s' : Sl) (w' : World), s'.len = s.len + x.len → Own w' base e size s' (olds ++ news) → Ext w w' → K s' w') : app P t s x w K := by
 obtain ⟨hu, i, z, hi, hz, hs, hby, hc⟩ := mkCells_eq ht
 subst hs; subst hby
 have hzc : z.cells.size = i.size := by rw [← hzs, ← hc]; simp
 obtain ⟨xa, xl, xc⟩ := x
 obtain ⟨sa, sl, sc⟩ := s
 simp only at hfull hlo hl h0 h63 hb hnil hol hx h hxn
 subst hfull
 cases xa with
 | none => exact absurd rfl hxn
 | some a =>
  cases sa with
  | none =>
   obtain rfl := hnil rfl
   have ho : olds = [] := hol
   subst ho
   simp only [Nat.zero_add] at hb h63 h
   have hr := run_append_nil (P := P) (w := w) t t e i z hu hi hz a xl xc news hl hx h0 (by simp only [maxLen] at h63; omega) (by omega)
   refine ⟨⟨some ⟨w.heap.size, 0, none⟩, xl, grownCap w xl 0 e⟩, _, hr, h _ _ rfl ?_ ?_⟩
   ·refine ⟨by simpa using hl, .inr ⟨w.heap.size, grownCap w xl 0 e, _, rfl, hbase, heap_new _ _, grownCap_ge w xl 0 e, grownCap_le_maxLen w xl 0 e h63, ?_, ?_⟩⟩
    ·have := grownCap_ge w xl 0 e
     simp only [Array.size_append, List.size_toArray, size_zeroCells, hzc, hl]
     rw [← Nat.add_mul]; congr 1; omega
    ·simp only [Array.toList_append, List.nil_append]
     rw [List.take_append_of_le_length (by simp [hl]), List.take_of_length_le (by simp [hl])]
   ·exact (Ext.drew w).trans (Ext.alloc (Ext.refl _) _)
  | some b =>
   have hr := run_append_grow (P := P) (w := w) t t e i z hu hi hz b sc sc olds hlo hol a xl xc news hl hx (by omega) (by simp only [maxLen] at h63; omega)
    (growslice_fits (by omega) hb)
   refine ⟨⟨some ⟨w.heap.size, 0, none⟩, sc + xl, grownCap w (sc + xl) sc e⟩, _, hr, h _ _ rfl ?_ ?_⟩
   ·refine ⟨by simp [hl, hlo, Nat.add_mul], .inr ⟨w.heap.size, grownCap w (sc + xl) sc e, _, rfl, hbase, heap_new _ _, grownCap_ge w _ _ e, grownCap_le_maxLen w _ _ e h63, ?_, ?_⟩⟩
    ·have := grownCap_ge w (sc + xl) sc e
     simp only [Array.size_append, List.size_toArray, size_zeroCells, hzc, hl, hlo]
     rw [← Nat.add_mul, ← Nat.add_mul]; congr 1; omega
    ·simp only [Array.toList_append]
     rw [List.take_append_of_le_length (by simp [hl, hlo, Nat.add_mul]), List.take_of_length_le (by simp [hl, hlo, Nat.add_mul])]
   ·exact (Ext.drew w).trans (Ext.alloc (Ext.refl _) _)
end Go.Lift
end
section
/- The disk without any program: what each thing done to it leaves and answers; and the cells that hold it. -/
namespace Go.Lift.Disk
open Go.Lift Go.RowKit
abbrev Bl := List UInt8 × List UInt8
abbrev Fall := Int × Int × Int
structure Dk where
 bl : List Bl
 pend : List (Nat × List UInt8)
 falls : List Fall
 changes : Nat
 down : Bool
def flatB (l : List Bl) : List UInt8 := l.flatMap fun p => p.1 ++ p.2
def pendC (l : List (Nat × List UInt8)) : List Value := l.flatMap fun p => .int .i64 (p.1 : Int) :: u8s p.2
def fallOf (f : Fall) : List Value := [.int .i64 f.1, .int .u64 f.2.1, .int .i64 f.2.2]
def fallC (l : List Fall) : List Value := l.flatMap fallOf
def WfB (l : List Bl) : Prop := ∀ p ∈ l, p.1.length = 512 ∧ p.2.length = 512
structure Dk.Wf (D : Dk) : Prop where
 pos : 0 < D.bl.length
 few : D.bl.length ≤ 4096
 bl : WfB D.bl
 pend : ∀ p ∈ D.pend, p.1 < D.bl.length ∧ p.2.length = 512
 plen : D.pend.length ≤ 1000000
 keep : ∀ f ∈ D.falls, 0 ≤ f.2.1 ∧ f.2.1 < 18446744073709551616
 flen : D.falls.length ≤ 1000000
 ch : D.changes ≤ 1000000000
def bAt (l : List Bl) (i : Nat) : Bl := l.getD i ([], [])
def setNow (l : List Bl) (i : Nat) (b : List UInt8) : List Bl := l.set i (b, (bAt l i).2)
def setSure (l : List Bl) (i : Nat) (b : List UInt8) : List Bl := l.set i ((bAt l i).1, b)
def Dk.why (D : Dk) (i : Int) : Int := if D.down then 6 else if i < 0 ∨ (D.bl.length : Int) ≤ i then 2 else 0
def torn (f : Fall) : Nat := (mx 0 (mn f.2.2 512)).toNat
def crashStep (f : Fall) (last : Int) (l : List Bl) (k : Nat) (p : Nat × List UInt8) : List Bl :=
 if k < 64 ∧ f.2.1.toNat.testBit k = true then setSure l p.1 p.2
 else if (k : Int) = last then setSure l p.1 (p.2.take (torn f) ++ (bAt l p.1).2.drop (torn f))
 else l
def crashL (f : Fall) (last : Int) : Nat → List (Nat × List UInt8) → List Bl → List Bl
 | _, [], l => l
 | k, p :: ps, l => crashL f last (k + 1) ps (crashStep f last l k p)
def Dk.crash (D : Dk) (f : Fall) : Dk := if D.down then D else
 { D with bl := (crashL f ((D.pend.length : Int) - 1) 0 D.pend D.bl).map fun p => (p.2, p.2), pend := [], down := true }
def Dk.strike (D : Dk) : Dk × Int := match D.falls.find? fun f => f.1 == (D.changes : Int) with
 | some f => ({ D with changes := D.changes + 1 }.crash f, 6)
 | none => ({ D with changes := D.changes + 1 }, 0)
def Dk.put (D : Dk) (i : Nat) (bs : List UInt8) : Dk := { D with bl := setNow D.bl i bs, pend := D.pend ++ [(i, bs)] }
def Dk.write (D : Dk) (i : Int) (bs : List UInt8) : Dk × Int :=
 if D.why i ≠ 0 then (D, D.why i) else if bs.length ≠ 512 then (D, 1) else (D.put i.toNat bs).strike
def flushL (l : List Bl) (ps : List (Nat × List UInt8)) : List Bl := ps.foldl (fun l p => setSure l p.1 p.2) l
def Dk.flush (D : Dk) : Dk × Int := if D.down then (D, 6) else
 if D.strike.2 ≠ 0 then D.strike else ({ D.strike.1 with bl := flushL D.strike.1.bl D.strike.1.pend, pend := [] }, 0)
def Dk.up (D : Dk) : Dk := { D with down := false }

theorem bAt_lt {l : List Bl} {i : Nat} (h : i < l.length) : bAt l i = l[i] := by simp [bAt, List.getD, h]
theorem bAt_len {l : List Bl} (h : WfB l) {i : Nat} (hi : i < l.length) : (bAt l i).1.length = 512 ∧ (bAt l i).2.length = 512 := by
 rw [bAt_lt hi]; exact h _ (List.getElem_mem hi)
theorem flat_len : ∀ {l : List Bl}, WfB l → (flatB l).length = 1024 * l.length
 | [], _ => rfl
 | p :: l, h => by
  have h1 := h p (by simp)
  have := flat_len (l := l) fun q hq => h q (by simp [hq])
  simp only [flatB, List.flatMap_cons, List.length_append, List.length_cons] at this ⊢
  omega
theorem flat_split {l : List Bl} (h : WfB l) {i : Nat} (hi : i < l.length) : flatB l = flatB (l.take i) ++ ((bAt l i).1 ++ ((bAt l i).2 ++ flatB (l.drop (i + 1)))) := by
 rw [bAt_lt hi]
 have e : l = l.take i ++ l[i] :: l.drop (i + 1) := by rw [← List.drop_eq_getElem_cons hi, List.take_append_drop]
 have e2 : flatB l = flatB (l.take i ++ l[i] :: l.drop (i + 1)) := congrArg flatB e
 rw [e2]
 simp only [flatB, List.flatMap_append, List.flatMap_cons, List.append_assoc]
theorem flat_take_len {l : List Bl} (h : WfB l) {i : Nat} (hi : i < l.length) : (flatB (l.take i)).length = 1024 * i := by
 rw [flat_len fun p hp => h p (List.mem_of_mem_take hp), List.length_take]; congr 1; omega
theorem flat_now {l : List Bl} (h : WfB l) {i : Nat} (hi : i < l.length) : ((flatB l).drop (1024 * i)).take 512 = (bAt l i).1 := by
 have h1 := bAt_len h hi
 rw [flat_split h hi, List.drop_left' (flat_take_len h hi), List.take_left' h1.1]
theorem flat_sure {l : List Bl} (h : WfB l) {i : Nat} (hi : i < l.length) : ((flatB l).drop (1024 * i + 512)).take 512 = (bAt l i).2 := by
 have h1 := bAt_len h hi
 rw [flat_split h hi, ← List.append_assoc, List.drop_left' (by rw [List.length_append, flat_take_len h hi, h1.1]), List.take_left' h1.2]
theorem set_wf {l : List Bl} (h : WfB l) {i : Nat} {p : Bl} (hp : p.1.length = 512 ∧ p.2.length = 512) : WfB (l.set i p) := by
 intro q hq
 rcases List.mem_or_eq_of_mem_set hq with hq | rfl
 ·exact h q hq
 ·exact hp
theorem setNow_wf {l : List Bl} (h : WfB l) {i : Nat} (hi : i < l.length) {b : List UInt8} (hb : b.length = 512) : WfB (setNow l i b) := set_wf h ⟨hb, (bAt_len h hi).2⟩
theorem setSure_wf {l : List Bl} (h : WfB l) {i : Nat} (hi : i < l.length) {b : List UInt8} (hb : b.length = 512) : WfB (setSure l i b) := set_wf h ⟨(bAt_len h hi).1, hb⟩
theorem flat_set {l : List Bl} {i : Nat} (hi : i < l.length) (p : Bl) : flatB (l.set i p) = flatB (l.take i) ++ (p.1 ++ (p.2 ++ flatB (l.drop (i + 1)))) := by
 rw [List.set_eq_take_append_cons_drop, if_pos hi]
 simp [flatB, List.flatMap_append]
theorem u8s_len (bs : List UInt8) : (u8s bs).length = bs.length := u8s_length bs
theorem splice_mid (a b c d : List Value) (o : Nat) (ho : a.length = o) (hb : b.length = c.length) : splice (a ++ (b ++ d)) o c = a ++ (c ++ d) := by
 unfold splice
 rw [List.take_left' ho, List.append_assoc]
 congr 2
 rw [← List.append_assoc, List.drop_left' (by rw [List.length_append, ho, hb])]
theorem splice_now {l : List Bl} (h : WfB l) {i : Nat} (hi : i < l.length) {b : List UInt8} (hb : b.length = 512) (rest : List Value) :
  splice (u8s (flatB l) ++ rest) (1024 * i) (u8s b) = u8s (flatB (setNow l i b)) ++ rest := by
 have h1 := bAt_len h hi
 unfold setNow
 rw [flat_set hi, flat_split h hi]
 simp only [u8s_append, List.append_assoc]
 exact splice_mid _ _ _ _ _ (by rw [u8s_len, flat_take_len h hi]) (by rw [u8s_len, u8s_len, h1.1, hb])
theorem splice_sure_part {l : List Bl} (h : WfB l) {i : Nat} (hi : i < l.length) {c : List UInt8} (hc : c.length ≤ 512) (rest : List Value) :
  splice (u8s (flatB l) ++ rest) (1024 * i + 512) (u8s c) = u8s (flatB (setSure l i (c ++ (bAt l i).2.drop c.length))) ++ rest := by
 have h1 := bAt_len h hi
 unfold setSure
 rw [flat_set hi, flat_split h hi]
 have e : (bAt l i).2 = (bAt l i).2.take c.length ++ (bAt l i).2.drop c.length := (List.take_append_drop _ _).symm
 conv => lhs; rw [e]
 simp only [u8s_append, List.append_assoc]
 rw [← List.append_assoc (u8s (flatB (l.take i))), ← List.append_assoc (u8s (flatB (l.take i)))]
 exact splice_mid _ _ _ _ _ (by rw [List.length_append, u8s_len, u8s_len, flat_take_len h hi, h1.1]) (by rw [u8s_len, u8s_len, List.length_take, h1.2]; omega)
theorem splice_sure {l : List Bl} (h : WfB l) {i : Nat} (hi : i < l.length) {b : List UInt8} (hb : b.length = 512) (rest : List Value) :
  splice (u8s (flatB l) ++ rest) (1024 * i + 512) (u8s b) = u8s (flatB (setSure l i b)) ++ rest := by
 have h1 := bAt_len h hi
 rw [splice_sure_part h hi (by omega), List.drop_of_length_le (by omega), List.append_nil]
theorem setNow_len (l : List Bl) (i : Nat) (b : List UInt8) : (setNow l i b).length = l.length := by simp [setNow]
theorem setSure_len (l : List Bl) (i : Nat) (b : List UInt8) : (setSure l i b).length = l.length := by simp [setSure]

/-! ### pending writes and falls as cells -/
theorem pendC_len : ∀ {l : List (Nat × List UInt8)}, (∀ p ∈ l, p.2.length = 512) → (pendC l).length = l.length * 513
 | [], _ => rfl
 | p :: l, h => by
  have h1 := h p (by simp)
  have := pendC_len (l := l) fun q hq => h q (by simp [hq])
  simp only [pendC, List.flatMap_cons, List.length_append, List.length_cons, u8s_len] at this ⊢
  omega
theorem pendC_at : ∀ {l : List (Nat × List UInt8)}, (∀ p ∈ l, p.2.length = 512) → ∀ {k : Nat} (hk : k < l.length), ((pendC l).drop (k * 513)).take 513 = .int .i64 (l[k].1 : Int) :: u8s l[k].2
 | p :: l, h, 0, _ => by
  have h1 := h p (by simp)
  simp only [pendC, List.flatMap_cons, Nat.zero_mul, List.drop_zero, List.getElem_cons_zero]
  rw [List.take_left' (by simp [u8s_len, h1])]
 | p :: l, h, k + 1, hk => by
  have h1 := h p (by simp)
  have := pendC_at (l := l) (fun q hq => h q (by simp [hq])) (k := k) (by simpa using hk)
  simp only [List.getElem_cons_succ]
  rw [← this]
  simp only [pendC, List.flatMap_cons]
  rw [show (k + 1) * 513 = 513 + k * 513 by omega, ← List.drop_drop]
  rw [List.drop_left' (by simp [u8s_len, h1])]
theorem pendC_append (a b : List (Nat × List UInt8)) : pendC (a ++ b) = pendC a ++ pendC b := by simp [pendC, List.flatMap_append]
theorem fallC_len (l : List Fall) : (fallC l).length = l.length * 3 := by
 induction l with
 | nil => rfl
 | cons f l ih => simp only [fallC, List.flatMap_cons, List.length_append, List.length_cons, fallOf, List.length_nil] at ih ⊢; omega
theorem fallC_at : ∀ {l : List Fall} {k : Nat} (hk : k < l.length), ((fallC l).drop (k * 3)).take 3 = fallOf l[k]
 | f :: l, 0, _ => by simp [fallC, fallOf]
 | f :: l, k + 1, hk => by
  have := fallC_at (l := l) (k := k) (by simpa using hk)
  simp only [List.getElem_cons_succ]
  rw [← this]
  simp only [fallC, List.flatMap_cons]
  rw [show (k + 1) * 3 = 3 + k * 3 by omega, ← List.drop_drop]
  rw [List.drop_left' (by rfl)]
end Go.Lift.Disk
end
section
/- The check sum over bits, without any program: what the program's and the document's ways compute, that both are one, and what a burst does. -/
namespace Go.Lift.Crc
open Go.Lift
abbrev R := BitVec 32
def poly : R := 0xedb88320#32
def stp (r : R) : R := if r.getLsbD 0 then (r >>> 1) ^^^ poly else r >>> 1
def stpIn (r : R) (b : Bool) : R := if (r.getLsbD 0 ^^ b) then (r >>> 1) ^^^ poly else r >>> 1
def reg (r : R) (bits : List Bool) : R := bits.foldl stpIn r
def bitsW (n : Nat) (c : R) : List Bool := (List.range n).map fun i => c.getLsbD i
def wide (c : UInt8) : R := c.toBitVec.setWidth 32
def byteBits (c : UInt8) : List Bool := bitsW 8 (wide c)
def bitsOf (bs : List UInt8) : List Bool := bs.flatMap byteBits
def crc (bs : List UInt8) : R := ~~~ (reg (BitVec.allOnes 32) (bitsOf bs))
def iter (n : Nat) (r : R) : R := match n with
 | 0 => r
 | n + 1 => stp (iter n r)
/-- the program's way: a byte at once -/
def byteStep (r : R) (c : UInt8) : R := iter 8 (r ^^^ wide c)

theorem stp_eq (r : R) : stp r = stpIn r false := by simp [stp, stpIn]
theorem shr_xor (a b : R) (n : Nat) : (a ^^^ b) >>> n = (a >>> n) ^^^ (b >>> n) := by
 ext i hi
 simp
theorem stp_xor (r c : R) : stp (r ^^^ c) = stpIn r (c.getLsbD 0) ^^^ (c >>> 1) := by
 unfold stp stpIn
 rw [BitVec.getLsbD_xor, shr_xor]
 cases h : (r.getLsbD 0 ^^ c.getLsbD 0)
 ·simp
 ·simp only [if_true]
  rw [BitVec.xor_assoc, BitVec.xor_comm (c >>> 1) poly, ← BitVec.xor_assoc]
theorem reg_append (r : R) (a b : List Bool) : reg r (a ++ b) = reg (reg r a) b := by simp [reg, List.foldl_append]
theorem bitsW_succ (n : Nat) (c : R) : bitsW (n + 1) c = bitsW n c ++ [c.getLsbD n] := by simp [bitsW, List.range_succ]
theorem iter_xor (c r : R) : ∀ n, iter n (r ^^^ c) = reg r (bitsW n c) ^^^ (c >>> n)
 | 0 => by simp [iter, bitsW, reg]
 | n + 1 => by
  rw [iter, iter_xor c r n, stp_xor, bitsW_succ, reg_append]
  rw [show (c >>> n).getLsbD 0 = c.getLsbD n from by simp, show c >>> n >>> 1 = c >>> (n + 1) from by rw [BitVec.shiftRight_add]]
  rfl
theorem wide_lt (c : UInt8) : wide c >>> 8 = 0#32 := by
 apply BitVec.eq_of_toNat_eq
 have := c.toBitVec.isLt
 have h2 : c.toNat = c.toBitVec.toNat := rfl
 simp [wide, Nat.shiftRight_eq_div_pow]
 omega
theorem byteStep_eq (r : R) (c : UInt8) : byteStep r c = reg r (byteBits c) := by
 unfold byteStep byteBits
 rw [iter_xor, wide_lt]
 simp
theorem bits_cons (c : UInt8) (bs : List UInt8) : bitsOf (c :: bs) = byteBits c ++ bitsOf bs := rfl
theorem bits_append (a b : List UInt8) : bitsOf (a ++ b) = bitsOf a ++ bitsOf b := by simp [bitsOf]
theorem bits_length (bs : List UInt8) : (bitsOf bs).length = 8 * bs.length := by
 induction bs with
 | nil => rfl
 | cons c bs ih => rw [bits_cons, List.length_append, ih]; simp [byteBits, bitsW]; omega
theorem foldl_byteStep (bs : List UInt8) (r : R) : bs.foldl byteStep r = reg r (bitsOf bs) := by
 induction bs generalizing r with
 | nil => rfl
 | cons c bs ih => rw [List.foldl_cons, ih, byteStep_eq, bits_cons, reg_append]

/-- adding without carry -/
def xorL : List Bool → List Bool → List Bool := List.zipWith Bool.xor
theorem stpIn_xor (r s : R) (a b : Bool) : stpIn (r ^^^ s) (a ^^ b) = stpIn r a ^^^ stpIn s b := by
 unfold stpIn
 rw [BitVec.getLsbD_xor, shr_xor]
 have e : ((r.getLsbD 0 ^^ s.getLsbD 0) ^^ (a ^^ b)) = ((r.getLsbD 0 ^^ a) ^^ (s.getLsbD 0 ^^ b)) := by
  cases r.getLsbD 0 <;> cases s.getLsbD 0 <;> cases a <;> cases b <;> rfl
 rw [e]
 cases (r.getLsbD 0 ^^ a) <;> cases (s.getLsbD 0 ^^ b) <;> simp only [Bool.xor_false, Bool.xor_true, Bool.false_xor, Bool.not_false, Bool.not_true, if_true, Bool.false_eq_true, if_false]
 ·ac_rfl
 ·ac_rfl
 ·rw [show r >>> 1 ^^^ poly ^^^ (s >>> 1 ^^^ poly) = (r >>> 1 ^^^ s >>> 1) ^^^ (poly ^^^ poly) from by ac_rfl]; simp
theorem reg_xor : ∀ (a b : List Bool) (r s : R), a.length = b.length → reg (r ^^^ s) (xorL a b) = reg r a ^^^ reg s b
 | [], [], r, s, _ => rfl
 | x :: a, y :: b, r, s, h => by
  have ih := reg_xor a b (stpIn r x) (stpIn s y) (by simpa using h)
  simp only [xorL, List.zipWith_cons_cons, reg, List.foldl_cons] at ih ⊢
  rw [stpIn_xor]
  exact ih
theorem stpIn_zero {r : R} (h : stpIn r false = 0#32) : r = 0#32 := by
 have hb := congrArg (fun x : R => x.getLsbD 31) h
 unfold stpIn at h hb
 simp only [Bool.xor_false] at h hb
 cases h0 : r.getLsbD 0 with
 | true =>
  rw [h0] at hb
  simp [poly] at hb
 | false =>
  rw [h0] at h
  simp only [Bool.false_eq_true, if_false] at h
  apply BitVec.eq_of_getLsbD_eq
  intro i hi
  rcases i with _ | i
  ·rw [h0]; simp
  ·have := congrArg (fun x : R => x.getLsbD i) h
   simp only [BitVec.getLsbD_ushiftRight, BitVec.getLsbD_zero] at this
   rw [Nat.add_comm] at this
   rw [this]; simp
theorem stpIn_00 : stpIn 0#32 false = 0#32 := by decide
theorem reg_zeros (n : Nat) : reg 0#32 (List.replicate n false) = 0#32 := by
 induction n with
 | zero => rfl
 | succ n ih => rw [List.replicate_succ]; simp only [reg, List.foldl_cons] at ih ⊢; rw [stpIn_00]; exact ih
theorem reg_zeros_ne (n : Nat) : ∀ r : R, r ≠ 0#32 → reg r (List.replicate n false) ≠ 0#32 := by
 induction n with
 | zero => exact fun r h => h
 | succ n ih =>
  intro r h
  rw [List.replicate_succ]
  simp only [reg, List.foldl_cons] at ih ⊢
  exact ih _ fun e => h (stpIn_zero e)
/-- a row of at most 32 bits, not all of them nought, leaves a trace -/
theorem reg_row (t : R) (h : t ≠ 0#32) : reg 0#32 (bitsW 32 t) ≠ 0#32 := by
 have := iter_xor t 0#32 32
 have hz : t >>> 32 = 0#32 := by
  apply BitVec.eq_of_toNat_eq
  have := t.isLt
  simp [Nat.shiftRight_eq_div_pow]
  omega
 rw [hz] at this
 simp at this
 rw [← this]
 have key : ∀ n (r : R), r ≠ 0#32 → iter n r ≠ 0#32 := by
  intro n
  induction n with
  | zero => exact fun r h => h
  | succ n ih =>
   intro r h e
   rw [iter, stp_eq] at e
   exact ih r h (stpIn_zero e)
 exact key 32 t h
theorem burst (t : R) (h : t ≠ 0#32) (k m : Nat) : reg 0#32 (List.replicate k false ++ bitsW 32 t ++ List.replicate m false) ≠ 0#32 := by
 rw [reg_append, reg_append, reg_zeros]
 exact reg_zeros_ne m _ (reg_row t h)

/-- the sum's four bytes -/
def le4 (r : R) : List UInt8 := [⟨r.setWidth 8⟩, ⟨(r >>> 8).setWidth 8⟩, ⟨(r >>> 16).setWidth 8⟩, ⟨(r >>> 24).setWidth 8⟩]
def sealed (bs : List UInt8) : List UInt8 := bs ++ le4 (crc bs)
theorem bits_le4 (r : R) : bitsOf (le4 r) = bitsW 32 r := by
 have h8 : ∀ (x : R) (i : Nat), i < 8 → (wide ⟨x.setWidth 8⟩).getLsbD i = x.getLsbD i := by
  intro x i hi
  simp [wide, hi]
  omega
 have hb : ∀ x : R, byteBits ⟨x.setWidth 8⟩ = bitsW 8 x := by
  intro x
  unfold byteBits bitsW
  apply List.map_congr_left
  intro i hi
  exact h8 x i (List.mem_range.1 hi)
 simp only [le4, bitsOf, List.flatMap_cons, List.flatMap_nil, hb]
 simp [bitsW, List.range_succ]

/-- sealed bytes are those after which the register stands at a fixed place -/
theorem reg_self (r : R) : reg r (bitsW 32 r) = 0#32 := by
 have h1 := iter_xor r r 32
 have hz : r >>> 32 = 0#32 := by
  apply BitVec.eq_of_toNat_eq
  have := r.isLt
  simp [Nat.shiftRight_eq_div_pow]
  omega
 rw [hz] at h1
 simp at h1
 rw [← h1]
 have : ∀ n, iter n 0#32 = 0#32 := by
  intro n
  induction n with
  | zero => rfl
  | succ n ih => rw [iter, ih]; decide
 exact this 32
theorem bitsW_not (r : R) : bitsW 32 (~~~ r) = xorL (bitsW 32 r) (bitsW 32 (BitVec.allOnes 32)) := by
 unfold bitsW xorL
 rw [List.zipWith_map]
 apply List.ext_getElem
 ·simp
 ·intro i h1 h2
  simp only [List.length_map, List.length_range] at h1
  have e1 : (BitVec.allOnes 32).getLsbD i = true := by rw [BitVec.getLsbD_allOnes]; simp [h1]
  simp only [List.getElem_map, List.getElem_range, List.getElem_zipWith, BitVec.getLsbD_not, h1, e1, decide_true, Bool.true_and, Bool.xor_true]
/-- the register behind sealed bytes -/
def final : R := reg 0#32 (bitsW 32 (BitVec.allOnes 32))
theorem reg_sealed (bs : List UInt8) : reg (BitVec.allOnes 32) (bitsOf (sealed bs)) = final := by
 unfold sealed crc
 rw [bits_append, reg_append, bits_le4, bitsW_not]
 generalize reg (BitVec.allOnes 32) (bitsOf bs) = r
 have := reg_xor (bitsW 32 r) (bitsW 32 (BitVec.allOnes 32)) r 0#32 (by simp [bitsW])
 rw [reg_self] at this
 simpa [final] using this
/-- what is turned in sealed bytes by a row is not sealed -/
theorem turned_not_sealed {bs x : List UInt8} {t : R} {k m : Nat} (ht : t ≠ 0#32) (hk : bitsOf x = xorL (bitsOf (sealed bs)) (List.replicate k false ++ bitsW 32 t ++ List.replicate m false))
  (hlen : (bitsOf (sealed bs)).length = k + 32 + m) (y : List UInt8) : sealed y ≠ x := by
 intro e
 have h1 := reg_sealed y
 rw [e, hk] at h1
 have h2 := reg_xor (bitsOf (sealed bs)) (List.replicate k false ++ bitsW 32 t ++ List.replicate m false) (BitVec.allOnes 32) 0#32 (by rw [hlen]; simp [bitsW]; omega)
 rw [reg_sealed] at h2
 simp only [BitVec.xor_zero] at h2
 rw [h2] at h1
 have h3 : reg 0#32 (List.replicate k false ++ bitsW 32 t ++ List.replicate m false) = 0#32 := by
  have := congrArg (fun z => final ^^^ z) h1
  simp only [← BitVec.xor_assoc, BitVec.xor_self, BitVec.zero_xor] at this
  exact this
 exact burst t ht k m h3
end Go.Lift.Crc
end
section
/- The journal's bytes without any program: heads, frames, what is parsed. -/
namespace Go.Lift.Wal
open Go.Lift Go.Lift.Crc Go.Lift.Disk
def magic : List UInt8 := [100, 111, 119, 115, 101, 114, 32, 108]
/-- a number's last bytes, the highest first -/
def beB : Nat → Nat → List UInt8
 | 0, _ => []
 | k + 1, n => UInt8.ofNat (n / 256 ^ k) :: beB k n
theorem beB_len : ∀ k n, (beB k n).length = k
 | 0, _ => rfl
 | k + 1, n => by rw [beB, List.length_cons, beB_len k n]
def lowStep (a : Nat) (c : UInt8) : Nat := (a * 256 + c.toNat) % 18446744073709551616
def lowB (bs : List UInt8) : Nat := bs.foldl lowStep 0
def halfB (a b : Nat) : List UInt8 := magic ++ (beB 8 a ++ beB 8 b)
theorem halfB_len (a b : Nat) : (halfB a b).length = 24 := by simp [halfB, magic, beB_len]
def zeros (n : Nat) : List UInt8 := List.replicate n 0
def headB (seq n : Nat) : List UInt8 := halfB seq n ++ (halfB n seq ++ zeros 464)
theorem headB_len (seq n : Nat) : (headB seq n).length = 512 := by
 simp only [headB, List.length_append, halfB_len, zeros, List.length_replicate]
def last : Nat := 4611686018427387904
def sliceB (b : List UInt8) (i j : Nat) : List UInt8 := (b.take j).drop i
def right (b : List UInt8) (room : Nat) : Nat × Nat :=
 let seq := lowB (sliceB b 8 16)
 let n := lowB (sliceB b 16 24)
 if sliceB b 0 24 = halfB seq n ∧ sliceB b 24 48 = halfB n seq ∧ 1 ≤ seq ∧ seq ≤ last ∧ n ≤ room then (seq, n) else (0, 0)
/-- a number in seven bits a byte -/
def numB (n : Nat) : List UInt8 := if n < 128 then [UInt8.ofNat n] else UInt8.ofNat (n % 128 + 128) :: numB (n / 128)
termination_by n
decreasing_by omega
def frameB (s : List UInt8) : List UInt8 := numB s.length ++ (le4 (crc s) ++ s)
def takeAux : Nat → Nat → List UInt8 → Option (Nat × List UInt8)
 | _, _, [] => none
 | i, acc, c :: rest => if 10 ≤ i then none else if i = 9 ∧ 1 < c.toNat then none
  else if 128 ≤ c.toNat then takeAux (i + 1) (acc + c.toNat % 128 * 128 ^ i) rest
  else if c.toNat = 0 ∧ 0 < i then none else some (acc + c.toNat * 128 ^ i, rest)
def takeNum (b : List UInt8) : Option (Nat × List UInt8) := takeAux 0 0 b
def parseF : Nat → List UInt8 → List (List UInt8) → List (List UInt8) × Int
 | 0, _, out => (out, 0)
 | f + 1, b, out => if b = [] then (out, 0) else match takeNum b with
  | none => ([], 7)
  | some (n, rest) => if rest.length < 4 ∨ rest.length - 4 < n then ([], 7)
   else if frameB (sliceB rest 4 (4 + n)) = b.take (b.length - rest.length + 4 + n) then parseF f (rest.drop (4 + n)) (out ++ [sliceB rest 4 (4 + n)])
   else ([], 20)
def parse (b : List UInt8) : List (List UInt8) × Int := parseF b.length b []
theorem takeAux_len : ∀ (b : List UInt8) (i acc : Nat) {n : Nat} {rest : List UInt8}, takeAux i acc b = some (n, rest) → rest.length < b.length
 | [], _, _, _, _, h => by cases h
 | c :: b, i, acc, n, rest, h => by
  unfold takeAux at h
  split at h
  ·cases h
  ·split at h
   ·cases h
   ·split at h
    ·have := takeAux_len b _ _ h
     simp only [List.length_cons]; omega
    ·split at h
     ·cases h
     ·simp only [Option.some.injEq, Prod.mk.injEq] at h
      rw [← h.2]; simp
theorem takeNum_len {b : List UInt8} {n : Nat} {rest : List UInt8} (h : takeNum b = some (n, rest)) : rest.length < b.length := takeAux_len b 0 0 h
theorem numB_len (n : Nat) (h : n < 18446744073709551616) : 1 ≤ (numB n).length ∧ (numB n).length ≤ 10 := by
 have key : ∀ k n, n < 128 ^ (k + 1) → 1 ≤ (numB n).length ∧ (numB n).length ≤ k + 1 := by
  intro k
  induction k with
  | zero => intro n hn; unfold numB; rw [if_pos (by omega)]; simp
  | succ k ih =>
   intro n hn
   unfold numB
   split
   ·simp
   ·have := ih (n / 128) (by rw [Nat.div_lt_iff_lt_mul (by decide), ← Nat.pow_succ]; exact hn)
    simp only [List.length_cons]; omega
 exact key 9 n (Nat.lt_of_lt_of_le h (by decide))
theorem frameB_len (s : List UInt8) : (frameB s).length = (numB s.length).length + 4 + s.length := by
 simp only [frameB, List.length_append]; rw [show (le4 (crc s)).length = 4 from rfl]; omega

/-! ### over a disk -/
structure Lg where
 seq : Nat
 data : List UInt8
 count : Nat
 broken : Bool
abbrev roomOf (blocks : Nat) : Nat := (blocks - 2) * 512
/-- a head is written, and made sure -/
def headW (D : Dk) (frm seq n : Nat) : Dk × Int :=
 if (D.write ((frm + seq % 2 : Nat) : Int) (headB seq n)).2 = 0 then (D.write ((frm + seq % 2 : Nat) : Int) (headB seq n)).1.flush else D.write ((frm + seq % 2 : Nat) : Int) (headB seq n)
def nowAt (D : Dk) (i : Nat) : List UInt8 := (bAt D.bl i).1
def headStep (D : Dk) (frm room : Nat) (s : Nat × Nat) (i : Nat) : Nat × Nat :=
 if s.1 < (right (nowAt D (frm + i)) room).1 then right (nowAt D (frm + i)) room else s
def headOf (D : Dk) (frm room : Nat) : Nat × Nat := headStep D frm room (headStep D frm room (0, 0) 0) 1
/-- the bytes of so many blocks -/
def blocksOf (D : Dk) (frm k : Nat) : List UInt8 := (List.range k).flatMap fun i => nowAt D (frm + 2 + i)
def dataOf (D : Dk) (frm n : Nat) : List UInt8 := (blocksOf D frm ((n + 511) / 512)).take n
inductive Opened where
 | fails (e : Int)
 | is (L : Lg) (records : List (List UInt8))
def openD (D : Dk) (frm room : Nat) : Dk × Opened :=
 if D.down then (D, .fails 6) else
 if (headOf D frm room).1 = 0 then
  if (headW D frm 1 0).2 = 0 then ((headW D frm 1 0).1, .is ⟨1, [], 0, false⟩ []) else ((headW D frm 1 0).1, .fails (headW D frm 1 0).2)
 else if (parse (dataOf D frm (headOf D frm room).2)).2 = 0 then
  (D, .is ⟨(headOf D frm room).1, dataOf D frm (headOf D frm room).2, (parse (dataOf D frm (headOf D frm room).2)).1.length, false⟩ (parse (dataOf D frm (headOf D frm room).2)).1)
 else (D, .fails (parse (dataOf D frm (headOf D frm room).2)).2)
/-- blocks from one on are written, until all of it lies there -/
def padB (all : List UInt8) (i : Nat) : List UInt8 := sliceB all (i * 512) (i * 512 + 512) ++ zeros (512 - (all.length - i * 512))
def layF : Nat → Dk → Nat → List UInt8 → Nat → Dk × Int
 | 0, D, _, _, _ => (D, 0)
 | f + 1, D, frm, all, i => if all.length ≤ i * 512 then (D, 0) else
  if (D.write ((frm + 2 + i : Nat) : Int) (padB all i)).2 = 0 then layF f (D.write ((frm + 2 + i : Nat) : Int) (padB all i)).1 frm all (i + 1)
  else D.write ((frm + 2 + i : Nat) : Int) (padB all i)
/-- the records behind what is there; none: they have no room -/
def gather : List (List UInt8) → Nat → List UInt8 → Option (List UInt8)
 | [], room, all => if room < all.length then none else some all
 | s :: l, room, all => if (room : Int) - all.length < s.length then none else gather l room (all ++ frameB s)
/-- what is laid is made sure, then the head is written -/
def addHead (r : Dk × Int) (frm seq n : Nat) : Dk × Int :=
 if r.2 ≠ 0 then r else if r.1.flush.2 ≠ 0 then r.1.flush else headW r.1.flush.1 frm seq n
def addD (D : Dk) (L : Lg) (frm room : Nat) (l : List (List UInt8)) : Dk × Lg × Int :=
 if L.broken then (D, L, 3) else if l = [] then (D, L, 0) else match gather l room L.data with
 | none => (D, L, 40)
 | some all => if L.seq = last then (D, L, 40) else
  if (addHead (layF (all.length / 512 + 1) D frm all (L.data.length / 512)) frm (L.seq + 1) all.length).2 = 0 then
   ((addHead (layF (all.length / 512 + 1) D frm all (L.data.length / 512)) frm (L.seq + 1) all.length).1, ⟨L.seq + 1, all, L.count + l.length, false⟩, 0)
  else ((addHead (layF (all.length / 512 + 1) D frm all (L.data.length / 512)) frm (L.seq + 1) all.length).1, { L with broken := true }, (addHead (layF (all.length / 512 + 1) D frm all (L.data.length / 512)) frm (L.seq + 1) all.length).2)
def resetD (D : Dk) (L : Lg) (frm : Nat) : Dk × Lg × Int :=
 if L.broken then (D, L, 3) else if L.seq = last then (D, L, 40) else
 if (headW D frm (L.seq + 1) 0).2 = 0 then ((headW D frm (L.seq + 1) 0).1, ⟨L.seq + 1, [], 0, false⟩, 0) else ((headW D frm (L.seq + 1) 0).1, { L with broken := true }, (headW D frm (L.seq + 1) 0).2)
end Go.Lift.Wal
end
section
/- Closed facts on the types and functions: written by gen.py (a program of this session). -/
namespace Go.Proofs.Ytagkcbbbdlmcjaa
open Go.Lift
abbrev T : Bool := true
abbrev F : Bool := false
theorem agg_110 : aggT Try.prog 110 = some 512 := by kernel_rfl
theorem agg_114 : aggT Try.prog 114 = some 2 := by kernel_rfl
theorem agg_116 : aggT Try.prog 116 = some 513 := by kernel_rfl
theorem agg_27 : aggT Try.prog 27 = some 3 := by kernel_rfl
theorem agg_29 : aggT Try.prog 29 = some 5 := by kernel_rfl
theorem agg_49 : aggT Try.prog 49 = some 5 := by kernel_rfl
theorem agg_93 : aggT Try.prog 93 = some 5 := by kernel_rfl
theorem arr_110 : arrT Try.prog 110 = some (512, 1) := by kernel_rfl
theorem bsl_39 : byteSl Try.prog 39 = true := by kernel_rfl
theorem fb_13 : Try.f13.body.isNone = false := by kernel_rfl
theorem fb_14 : Try.f14.body.isNone = false := by kernel_rfl
theorem fb_15 : Try.f15.body.isNone = false := by kernel_rfl
theorem fb_16 : Try.f16.body.isNone = false := by kernel_rfl
theorem fb_17 : Try.f17.body.isNone = false := by kernel_rfl
theorem fb_19 : Try.f19.body.isNone = false := by kernel_rfl
theorem fb_20 : Try.f20.body.isNone = false := by kernel_rfl
theorem fb_22 : Try.f22.body.isNone = false := by kernel_rfl
theorem fb_27 : Try.f27.body.isNone = false := by kernel_rfl
theorem fb_28 : Try.f28.body.isNone = false := by kernel_rfl
theorem fb_33 : Try.f33.body.isNone = false := by kernel_rfl
theorem fb_34 : Try.f34.body.isNone = false := by kernel_rfl
theorem fb_35 : Try.f35.body.isNone = false := by kernel_rfl
theorem fb_37 : Try.f37.body.isNone = false := by kernel_rfl
theorem fb_38 : Try.f38.body.isNone = false := by kernel_rfl
theorem fb_39 : Try.f39.body.isNone = false := by kernel_rfl
theorem fb_44 : Try.f44.body.isNone = false := by kernel_rfl
theorem fb_45 : Try.f45.body.isNone = false := by kernel_rfl
theorem fb_46 : Try.f46.body.isNone = false := by kernel_rfl
theorem fb_47 : Try.f47.body.isNone = false := by kernel_rfl
theorem fb_48 : Try.f48.body.isNone = false := by kernel_rfl
theorem fb_49 : Try.f49.body.isNone = false := by kernel_rfl
theorem fb_50 : Try.f50.body.isNone = false := by kernel_rfl
theorem fb_51 : Try.f51.body.isNone = false := by kernel_rfl
theorem fb_52 : Try.f52.body.isNone = false := by kernel_rfl
theorem fb_53 : Try.f53.body.isNone = false := by kernel_rfl
theorem fb_54 : Try.f54.body.isNone = false := by kernel_rfl
theorem fb_58 : Try.f58.body.isNone = false := by kernel_rfl
theorem fb_59 : Try.f59.body.isNone = false := by kernel_rfl
theorem fb_60 : Try.f60.body.isNone = false := by kernel_rfl
theorem fb_61 : Try.f61.body.isNone = false := by kernel_rfl
theorem fb_62 : Try.f62.body.isNone = false := by kernel_rfl
theorem fb_63 : Try.f63.body.isNone = false := by kernel_rfl
theorem fb_64 : Try.f64.body.isNone = false := by kernel_rfl
theorem fb_66 : Try.f66.body.isNone = false := by kernel_rfl
theorem fb_68 : Try.f68.body.isNone = false := by kernel_rfl
theorem fb_69 : Try.f69.body.isNone = false := by kernel_rfl
theorem fb_70 : Try.f70.body.isNone = false := by kernel_rfl
theorem fb_71 : Try.f71.body.isNone = false := by kernel_rfl
theorem fb_72 : Try.f72.body.isNone = false := by kernel_rfl
theorem fb_73 : Try.f73.body.isNone = false := by kernel_rfl
theorem fb_74 : Try.f74.body.isNone = false := by kernel_rfl
theorem fb_75 : Try.f75.body.isNone = false := by kernel_rfl
theorem fb_76 : Try.f76.body.isNone = false := by kernel_rfl
theorem fb_77 : Try.f77.body.isNone = false := by kernel_rfl
theorem fb_78 : Try.f78.body.isNone = false := by kernel_rfl
theorem fb_82 : Try.f82.body.isNone = false := by kernel_rfl
theorem fb_83 : Try.f83.body.isNone = false := by kernel_rfl
theorem fb_84 : Try.f84.body.isNone = false := by kernel_rfl
theorem fb_85 : Try.f85.body.isNone = false := by kernel_rfl
theorem field_112_0 : fieldT Try.prog 112 0 = some 0 := by kernel_rfl
theorem field_112_1 : fieldT Try.prog 112 1 = some 512 := by kernel_rfl
theorem field_114_0 : fieldT Try.prog 114 0 = some 0 := by kernel_rfl
theorem field_114_1 : fieldT Try.prog 114 1 = some 1 := by kernel_rfl
theorem field_116_0 : fieldT Try.prog 116 0 = some 0 := by kernel_rfl
theorem field_116_1 : fieldT Try.prog 116 1 = some 1 := by kernel_rfl
theorem field_140_0 : fieldT Try.prog 140 0 = some 0 := by kernel_rfl
theorem field_140_1 : fieldT Try.prog 140 1 = some 1 := by kernel_rfl
theorem field_27_0 : fieldT Try.prog 27 0 = some 0 := by kernel_rfl
theorem field_27_1 : fieldT Try.prog 27 1 = some 1 := by kernel_rfl
theorem field_27_2 : fieldT Try.prog 27 2 = some 2 := by kernel_rfl
theorem field_29_1 : fieldT Try.prog 29 1 = some 1 := by kernel_rfl
theorem field_49_0 : fieldT Try.prog 49 0 = some 0 := by kernel_rfl
theorem field_49_1 : fieldT Try.prog 49 1 = some 1 := by kernel_rfl
theorem field_49_2 : fieldT Try.prog 49 2 = some 2 := by kernel_rfl
theorem field_49_3 : fieldT Try.prog 49 3 = some 3 := by kernel_rfl
theorem field_49_4 : fieldT Try.prog 49 4 = some 4 := by kernel_rfl
theorem field_93_0 : fieldT Try.prog 93 0 = some 0 := by kernel_rfl
theorem field_93_1 : fieldT Try.prog 93 1 = some 1 := by kernel_rfl
theorem field_93_2 : fieldT Try.prog 93 2 = some 2 := by kernel_rfl
theorem field_93_3 : fieldT Try.prog 93 3 = some 3 := by kernel_rfl
theorem field_93_4 : fieldT Try.prog 93 4 = some 4 := by kernel_rfl
theorem field_95_0 : fieldT Try.prog 95 0 = some 0 := by kernel_rfl
theorem field_95_1 : fieldT Try.prog 95 1 = some 1 := by kernel_rfl
theorem field_95_2 : fieldT Try.prog 95 2 = some 2 := by kernel_rfl
theorem field_95_3 : fieldT Try.prog 95 3 = some 3 := by kernel_rfl
theorem field_95_4 : fieldT Try.prog 95 4 = some 4 := by kernel_rfl
theorem field_95_5 : fieldT Try.prog 95 5 = some 5 := by kernel_rfl
theorem field_95_6 : fieldT Try.prog 95 6 = some 6 := by kernel_rfl
theorem fn_13 : decide (Try.f13.name = "runtime.NumGoroutine") = false := by kernel_rfl
theorem fn_14 : decide (Try.f14.name = "runtime.NumGoroutine") = false := by kernel_rfl
theorem fn_15 : decide (Try.f15.name = "runtime.NumGoroutine") = false := by kernel_rfl
theorem fn_16 : decide (Try.f16.name = "runtime.NumGoroutine") = false := by kernel_rfl
theorem fn_17 : decide (Try.f17.name = "runtime.NumGoroutine") = false := by kernel_rfl
theorem fn_19 : decide (Try.f19.name = "runtime.NumGoroutine") = false := by kernel_rfl
theorem fn_20 : decide (Try.f20.name = "runtime.NumGoroutine") = false := by kernel_rfl
theorem fn_22 : decide (Try.f22.name = "runtime.NumGoroutine") = false := by kernel_rfl
theorem fn_27 : decide (Try.f27.name = "runtime.NumGoroutine") = false := by kernel_rfl
theorem fn_28 : decide (Try.f28.name = "runtime.NumGoroutine") = false := by kernel_rfl
theorem fn_33 : decide (Try.f33.name = "runtime.NumGoroutine") = false := by kernel_rfl
theorem fn_34 : decide (Try.f34.name = "runtime.NumGoroutine") = false := by kernel_rfl
theorem fn_35 : decide (Try.f35.name = "runtime.NumGoroutine") = false := by kernel_rfl
theorem fn_37 : decide (Try.f37.name = "runtime.NumGoroutine") = false := by kernel_rfl
theorem fn_38 : decide (Try.f38.name = "runtime.NumGoroutine") = false := by kernel_rfl
theorem fn_39 : decide (Try.f39.name = "runtime.NumGoroutine") = false := by kernel_rfl
theorem fn_44 : decide (Try.f44.name = "runtime.NumGoroutine") = false := by kernel_rfl
theorem fn_45 : decide (Try.f45.name = "runtime.NumGoroutine") = false := by kernel_rfl
theorem fn_46 : decide (Try.f46.name = "runtime.NumGoroutine") = false := by kernel_rfl
theorem fn_47 : decide (Try.f47.name = "runtime.NumGoroutine") = false := by kernel_rfl
theorem fn_48 : decide (Try.f48.name = "runtime.NumGoroutine") = false := by kernel_rfl
theorem fn_49 : decide (Try.f49.name = "runtime.NumGoroutine") = false := by kernel_rfl
theorem fn_50 : decide (Try.f50.name = "runtime.NumGoroutine") = false := by kernel_rfl
theorem fn_51 : decide (Try.f51.name = "runtime.NumGoroutine") = false := by kernel_rfl
theorem fn_52 : decide (Try.f52.name = "runtime.NumGoroutine") = false := by kernel_rfl
theorem fn_53 : decide (Try.f53.name = "runtime.NumGoroutine") = false := by kernel_rfl
theorem fn_54 : decide (Try.f54.name = "runtime.NumGoroutine") = false := by kernel_rfl
theorem fn_58 : decide (Try.f58.name = "runtime.NumGoroutine") = false := by kernel_rfl
theorem fn_59 : decide (Try.f59.name = "runtime.NumGoroutine") = false := by kernel_rfl
theorem fn_60 : decide (Try.f60.name = "runtime.NumGoroutine") = false := by kernel_rfl
theorem fn_61 : decide (Try.f61.name = "runtime.NumGoroutine") = false := by kernel_rfl
theorem fn_62 : decide (Try.f62.name = "runtime.NumGoroutine") = false := by kernel_rfl
theorem fn_63 : decide (Try.f63.name = "runtime.NumGoroutine") = false := by kernel_rfl
theorem fn_64 : decide (Try.f64.name = "runtime.NumGoroutine") = false := by kernel_rfl
theorem fn_66 : decide (Try.f66.name = "runtime.NumGoroutine") = false := by kernel_rfl
theorem fn_68 : decide (Try.f68.name = "runtime.NumGoroutine") = false := by kernel_rfl
theorem fn_69 : decide (Try.f69.name = "runtime.NumGoroutine") = false := by kernel_rfl
theorem fn_70 : decide (Try.f70.name = "runtime.NumGoroutine") = false := by kernel_rfl
theorem fn_71 : decide (Try.f71.name = "runtime.NumGoroutine") = false := by kernel_rfl
theorem fn_72 : decide (Try.f72.name = "runtime.NumGoroutine") = false := by kernel_rfl
theorem fn_73 : decide (Try.f73.name = "runtime.NumGoroutine") = false := by kernel_rfl
theorem fn_74 : decide (Try.f74.name = "runtime.NumGoroutine") = false := by kernel_rfl
theorem fn_75 : decide (Try.f75.name = "runtime.NumGoroutine") = false := by kernel_rfl
theorem fn_76 : decide (Try.f76.name = "runtime.NumGoroutine") = false := by kernel_rfl
theorem fn_77 : decide (Try.f77.name = "runtime.NumGoroutine") = false := by kernel_rfl
theorem fn_78 : decide (Try.f78.name = "runtime.NumGoroutine") = false := by kernel_rfl
theorem fn_82 : decide (Try.f82.name = "runtime.NumGoroutine") = false := by kernel_rfl
theorem fn_83 : decide (Try.f83.name = "runtime.NumGoroutine") = false := by kernel_rfl
theorem fn_84 : decide (Try.f84.name = "runtime.NumGoroutine") = false := by kernel_rfl
theorem fn_85 : decide (Try.f85.name = "runtime.NumGoroutine") = false := by kernel_rfl
theorem int_129 : intT Try.prog 129 = some .u32 := by kernel_rfl
theorem int_25 : intT Try.prog 25 = some .u64 := by kernel_rfl
theorem int_3 : intT Try.prog 3 = some .i64 := by kernel_rfl
theorem int_5 : intT Try.prog 5 = some .u8 := by kernel_rfl
theorem int_66 : intT Try.prog 66 = some .u64 := by kernel_rfl
theorem mixed : Try.prog.follows .mixedOrders = true := by kernel_rfl
theorem mk_39 : mkCells Try.prog 39 = some (5, 1, 1, List.replicate 1 (Value.int .u8 0)) := by kernel_rfl
theorem mk_90 : mkCells Try.prog 90 = some (112, 1024, 1024, List.replicate 1024 (Value.int .u8 0)) := by kernel_rfl
theorem mkz_46 : mkCells Try.prog 46 = some (114, 2, 24, [Value.int .i64 0, str []]) := by kernel_rfl
theorem mkz_47 : mkCells Try.prog 47 = some (27, 3, 24, [Value.int .i64 0, Value.int .u64 0, Value.int .i64 0]) := by kernel_rfl
theorem mkz_91 : mkCells Try.prog 91 = some (116, 513, 520, ([Value.int .i64 0] ++ List.replicate 512 (Value.int .u8 0))) := by kernel_rfl
theorem one_22 : oneT Try.prog 22 = true := by kernel_rfl
theorem one_25 : oneT Try.prog 25 = true := by kernel_rfl
theorem one_3 : oneT Try.prog 3 = true := by kernel_rfl
theorem one_31 : oneT Try.prog 31 = true := by kernel_rfl
theorem one_32 : oneT Try.prog 32 = true := by kernel_rfl
theorem one_39 : oneT Try.prog 39 = true := by kernel_rfl
theorem one_4 : oneT Try.prog 4 = true := by kernel_rfl
theorem one_45 : oneT Try.prog 45 = true := by kernel_rfl
theorem one_46 : oneT Try.prog 46 = true := by kernel_rfl
theorem one_47 : oneT Try.prog 47 = true := by kernel_rfl
theorem one_5 : oneT Try.prog 5 = true := by kernel_rfl
theorem one_9 : oneT Try.prog 9 = true := by kernel_rfl
theorem one_90 : oneT Try.prog 90 = true := by kernel_rfl
theorem one_91 : oneT Try.prog 91 = true := by kernel_rfl
theorem ptr_126 : ptrT Try.prog 126 = true := by kernel_rfl
theorem ptr_31 : ptrT Try.prog 31 = true := by kernel_rfl
theorem ptr_35 : ptrT Try.prog 35 = true := by kernel_rfl
theorem size_110 : sizeT Try.prog 110 = some 512 := by kernel_rfl
theorem size_114 : sizeT Try.prog 114 = some 2 := by kernel_rfl
theorem size_116 : sizeT Try.prog 116 = some 513 := by kernel_rfl
theorem size_25 : sizeT Try.prog 25 = some 1 := by kernel_rfl
theorem size_27 : sizeT Try.prog 27 = some 3 := by kernel_rfl
theorem size_29 : sizeT Try.prog 29 = some 5 := by kernel_rfl
theorem size_3 : sizeT Try.prog 3 = some 1 := by kernel_rfl
theorem size_32 : sizeT Try.prog 32 = some 1 := by kernel_rfl
theorem size_39 : sizeT Try.prog 39 = some 1 := by kernel_rfl
theorem size_4 : sizeT Try.prog 4 = some 1 := by kernel_rfl
theorem size_45 : sizeT Try.prog 45 = some 1 := by kernel_rfl
theorem size_46 : sizeT Try.prog 46 = some 1 := by kernel_rfl
theorem size_47 : sizeT Try.prog 47 = some 1 := by kernel_rfl
theorem size_49 : sizeT Try.prog 49 = some 5 := by kernel_rfl
theorem size_5 : sizeT Try.prog 5 = some 1 := by kernel_rfl
theorem size_9 : sizeT Try.prog 9 = some 1 := by kernel_rfl
theorem size_90 : sizeT Try.prog 90 = some 1 := by kernel_rfl
theorem size_91 : sizeT Try.prog 91 = some 1 := by kernel_rfl
theorem size_93 : sizeT Try.prog 93 = some 5 := by kernel_rfl
theorem slice_22 : sliceT Try.prog 22 = some (39, 1) := by kernel_rfl
theorem slice_30 : sliceT Try.prog 30 = some (29, 5) := by kernel_rfl
theorem slice_39 : sliceT Try.prog 39 = some (5, 1) := by kernel_rfl
theorem slice_45 : sliceT Try.prog 45 = some (9, 1) := by kernel_rfl
theorem slice_46 : sliceT Try.prog 46 = some (114, 2) := by kernel_rfl
theorem slice_47 : sliceT Try.prog 47 = some (27, 3) := by kernel_rfl
theorem slice_90 : sliceT Try.prog 90 = some (112, 1024) := by kernel_rfl
theorem slice_91 : sliceT Try.prog 91 = some (116, 513) := by kernel_rfl
theorem str_9 : strT Try.prog 9 = true := by kernel_rfl
theorem us_9 : Try.prog.underlying 9 = some .string := by kernel_rfl
theorem zero_114 : zeroT Try.prog 114 = some [Value.int .i64 0, str []] := by kernel_rfl
theorem zero_116 : zeroT Try.prog 116 = some ([Value.int .i64 0] ++ List.replicate 512 (Value.int .u8 0)) := by kernel_rfl
theorem zero_27 : zeroT Try.prog 27 = some [Value.int .i64 0, Value.int .u64 0, Value.int .i64 0] := by kernel_rfl
theorem zero_29 : zeroT Try.prog 29 = some [Value.int .i64 0, Value.slice none 0 0, Value.int .i64 0, Value.int .u64 0, Value.int .i64 0] := by kernel_rfl
theorem zero_49 : zeroT Try.prog 49 = some [Value.slice none 0 0, Value.slice none 0 0, Value.slice none 0 0, Value.int .i64 0, Value.bool false] := by kernel_rfl
theorem zero_93 : zeroT Try.prog 93 = some [Value.slice none 0 0, Value.slice none 0 0, Value.slice none 0 0, Value.int .i64 0, Value.bool false] := by kernel_rfl
end Go.Proofs.Ytagkcbbbdlmcjaa
end
