/- The words of the typed reading of a function, and the rules that join its ways. -/
import Derived.Test.YtagkcbbbdlmcjaaLiftMem
set_option linter.unusedVariables false
set_option linter.unusedSimpArgs false
namespace Go.Lift
def ldI (k : IntKind) (a : Addr) (w : World) (K : Int → Prop) : Prop := ∃ n, w.cell? a = some (.int k n) ∧ K n
def ldB (a : Addr) (w : World) (K : Bool → Prop) : Prop := ∃ b, w.cell? a = some (.bool b) ∧ K b
def ldS (a : Addr) (w : World) (K : List UInt8 → Prop) : Prop := ∃ xs, w.cell? a = some (str xs) ∧ K xs
def ldP (a : Addr) (w : World) (K : Option Addr → Prop) : Prop := ∃ p, w.cell? a = some (.pointer p) ∧ K p
def ldL (a : Addr) (w : World) (K : Sl → Prop) : Prop := ∃ s : Sl, w.cell? a = some s.v ∧ K s
def ldM (a : Addr) (w : World) (K : Option Nat → Prop) : Prop := ∃ s, w.cell? a = some (.map s) ∧ K s
def ldA (n : Nat) (a : Addr) (w : World) (K : List Value → Prop) : Prop := ∃ cs, cs.length = n ∧ At w a cs ∧ K cs
def st1 (a : Addr) (v : Value) (w : World) (K : World → Prop) : Prop := ∃ u, w.cell? a = some u ∧ w.frozen? a = false ∧ ∀ w', w' = w.setCell a v → K w'
def stA (n : Nat) (a : Addr) (cs : List Value) (w : World) (K : World → Prop) : Prop :=
  ∃ g o e cur, a = ⟨g, o, none⟩ ∧ cs.length = n ∧ w.heap[g]? = some (.cells cur e (0, 0)) ∧ o + cs.length ≤ cur.size ∧ (∀ v ∈ cs, v.oneCell' = true) ∧
    ∀ w', w' = w.setRow g (cur.toList.take o ++ cs ++ cur.toList.drop (o + cs.length)).toArray → K w'
def nn (p : Option Addr) (K : Addr → Prop) : Prop := ∃ a, p = some a ∧ K a
def ix (s : Sl) (n : Nat) (i : Int) (K : Addr → Prop) : Prop := ∃ a a', s.a = some a ∧ 0 ≤ i ∧ i < s.len ∧ a' = a.add (i.toNat * n) ∧ K a'
def ixA (len n : Nat) (a : Addr) (i : Int) (K : Addr → Prop) : Prop := 0 ≤ i ∧ i < len ∧ ∀ a', a' = a.add (i.toNat * n) → K a'
def ixS (xs : List UInt8) (i : Int) (K : UInt8 → Prop) : Prop := ∃ c, 0 ≤ i ∧ xs[i.toNat]? = some c ∧ K c
def newB (e : TypeId) (cs : List Value) (w : World) (K : Nat → World → Prop) : Prop := ∀ b w', b = w.heap.size → w' = w.alloc (.cells cs.toArray e) → K b w'
def newA (n : Nat) (e : TypeId) (cs : List Value) (w : World) (K : Nat → World → Prop) : Prop := cs.length = n ∧ (∀ v ∈ cs, v.oneCell' = true) ∧ ∀ b w', b = w.heap.size → w' = w.alloc (.cells cs.toArray e) → K b w'
def b2s (s : Sl) (w : World) (K : List UInt8 → Prop) : Prop := ∃ bs, bs.length = s.len ∧ AtO w s.a (u8s bs) ∧ K bs
def s2b (bs : List UInt8) (w : World) (K : Sl → World → Prop) : Prop := ∀ (e : TypeId) (n b : Nat) (w' : World), bs.length ≤ n → n ≤ maxLen ∨ maxLen < bs.length → b = w.heap.size →
  w' = w.drew.alloc (.cells (u8s bs ++ List.replicate (n - bs.length) (Value.int .u8 0)).toArray e (n, n + 1)) → K ⟨some ⟨b, 0, none⟩, bs.length, n⟩ w'
def mkd (s : Sl) (w : World) (K : World → Prop) : Prop := ∃ b o c e fr, s.a = some ⟨b, o, none⟩ ∧ w.heap[b]? = some (.cells c e fr) ∧ ∀ w', w' = w.freeze ⟨b, c.size, none⟩ 1 → K w'
def mkS (e : TypeId) (size bytes : Nat) (z : Value) (l c : Int) (w : World) (K : Sl → World → Prop) : Prop := 0 ≤ l ∧ l ≤ c ∧ bytes * c ≤ 140737488355328 ∧ c ≤ 9223372036854775807 ∧
  ∀ b w', b = w.heap.size → w' = w.alloc (.cells (List.replicate (c.toNat * size) z).toArray e) → K ⟨some ⟨b, 0, none⟩, l.toNat, c.toNat⟩ w'
def drw (w : World) (K : World → Prop) : Prop := ∀ w', w' = w.drew → K w'
def rq (p K : Prop) : Prop := p ∧ K
def ifB (b : Bool) (x y : Prop) : Prop := (b = true → x) ∧ (b = false → y)
def jn {J : Sort _} (body : J → Prop) (k : J) : Prop := body k
def cR {α : Type} (P : Program) (f : FuncId) (mk : α → Value) (args : Array Value) (w : World) (K : α → World → Prop) : Prop :=
  Calls P f args w fun e w' => ∃ x, e = .returned (mk x) ∧ K x w'
def app (P : Program) (t : TypeId) (s x : Sl) (w : World) (K : Sl → World → Prop) : Prop :=
  ∃ (s' : Sl) (w' : World), (Builtin.append_ #[t, t] t #[s.v, x.v]).run P w = .ok s'.v w' ∧ K s' w'
def appV (P : Program) (ts : Array TypeId) (t : TypeId) (args : Array Value) (w : World) (K : Sl → World → Prop) : Prop :=
  ∃ (s' : Sl) (w' : World), (Builtin.append_ ts t args).run P w = .ok s'.v w' ∧ K s' w'
def cpy (P : Program) (ts : Array TypeId) (ty : TypeId) (args : Array Value) (w : World) (K : Int → World → Prop) : Prop :=
  ∃ (n : Int) (w' : World), (Builtin.copy_ ts ty args).run P w = .ok (.int .i64 n) w' ∧ K n w'
def mn (a b : Int) : Int := if b < a then b else a
def mx (a b : Int) : Int := if b > a then b else a
def bnd {α : Sort _} (x : α) (K : α → Prop) : Prop := ∀ y, y = x → K y
/-- What a call answers. -/
def Ret {α : Type} (mk : α → Value) (K : α → World → Prop) : Ending → World → Prop := fun e w' => ∃ x, e = .returned (mk x) ∧ K x w'

theorem jn_of {J : Sort _} {body : J → Prop} {k : J} (h : ∀ k', k' = k → body k') : jn body k := h k rfl
theorem jn_elim {J : Sort _} {body : J → Prop} {k : J} (h : jn body k) {G : Prop} (H : ∀ k', k' = k → body k' → G) : G := H k rfl h

section
variable {P : Program} {n : Nat} {ops : Array Oper} {Q : Exit → Env → World → Prop} {ρ : Env} {w : World} {l : List Oper}

theorem CW.seqJ {x y : Code} {A : Type} (E : A → Env → Prop) (k : A → World → Prop) (h1 : ∀ s ρ w, E s ρ → k s w → CW P n y Q ρ w)
    (h2 : CW P n x (thenQ (fun ρ w => ∃ s, E s ρ ∧ k s w) Q) ρ w) : CW P n (.seq x y) Q ρ w := by
  refine CW.seq fun a hs hd he => wp_mono (h2 a hs hd he) ?_
  intro e a' w' hq
  cases e with
  | normal => obtain ⟨a1, a2, s, a3, a4⟩ := hq; exact ⟨a1, a2, h1 s _ _ a3 a4⟩
  | panic c => exact hq.elim
  | outgrown => exact hq.elim
  | exit id => exact hq
  | goto l => exact hq
  | ret => exact hq

theorem wpList_append {Q' : Exit → Act → World → Prop} (hout : ¬ LetsOut Q') (l2 : List Oper) : ∀ (l1 : List Oper) (a : Act) (w : World),
    wpList P ops (fun e a w => match e with | .normal => wpList P ops Q' l2 a w | e => Q' e a w) l1 a w → wpList P ops Q' (l1 ++ l2) a w
  | [], a, w, h => h
  | o :: l1, a, w, h => by
    simp only [List.cons_append, wpList] at h ⊢
    split
    · rename_i hw
      rw [if_pos hw] at h
      rcases h with h | ⟨_, a0, w0, h⟩
      · refine .inl ?_
        unfold Oper.wp at *
        generalize (execOp a.eval o).run P w = r at *
        cases r with
        | ok nx w' =>
          cases nx <;> simp only [Oper.upon] at h ⊢ <;> first
            | exact wpList_append hout l2 l1 _ _ h
            | exact h
            | (refine Calls.mono h fun e w'' he => ?_
               cases e with
               | returned v => exact wpList_append hout l2 l1 _ _ he
               | panicked c => exact he
               | outgrown => exact he)
            | (refine Rows.mono h fun v w'' he => wpList_append hout l2 l1 _ _ he)
        | halt x w' => cases x <;> simp only [Oper.upon] at h ⊢ <;> exact h
      · exact absurd ⟨a0, w0, h⟩ hout
    · rename_i hw
      rw [if_neg hw] at h
      exact wpList_append hout l2 l1 _ _ h

theorem wpList_mono {Q' Q'' : Exit → Act → World → Prop} (hq : ∀ e a w, Q' e a w → Q'' e a w) : ∀ (l : List Oper) (a : Act) (w : World), wpList P ops Q' l a w → wpList P ops Q'' l a w
  | [], a, w, h => hq _ _ _ h
  | o :: l, a, w, h => by
    simp only [wpList] at h ⊢
    split
    · rename_i hw
      rw [if_pos hw] at h
      rcases h with h | ⟨h1, a0, w0, h2⟩
      · refine .inl ?_
        unfold Oper.wp at *
        generalize (execOp a.eval o).run P w = r at *
        cases r with
        | ok nx w' =>
          cases nx <;> simp only [Oper.upon] at h ⊢ <;> first
            | exact wpList_mono hq l _ _ h
            | exact h
            | (refine Calls.mono h fun e w'' he => ?_
               cases e with
               | returned v => exact wpList_mono hq l _ _ he
               | panicked c => exact hq _ _ _ he
               | outgrown => obtain ⟨a1, w1, h1⟩ := he; exact ⟨a1, w1, hq _ _ _ h1⟩)
            | (refine Rows.mono h fun v w'' he => wpList_mono hq l _ _ he)
        | halt x w' => cases x <;> simp only [Oper.upon] at h ⊢ <;> first | exact hq _ _ _ h | exact h
      · exact .inr ⟨h1, a0, w0, hq _ _ _ h2⟩
    · rename_i hw
      rw [if_neg hw] at h
      exact wpList_mono hq l _ _ h

theorem RL.joinAt {A : Type} (m : Nat) (E : A → Env → Prop) (k : A → World → Prop) (h1 : ∀ s ρ w, E s ρ → k s w → RL P n ops Q (l.drop m) ρ w)
    (h2 : RL P n ops (thenQ (fun ρ w => ∃ s, E s ρ ∧ k s w) Q) (l.take m) ρ w) : RL P n ops Q l ρ w := by
  intro a hs hd he
  rw [← List.take_append_drop m l]
  refine wpList_append (by rintro ⟨_, _, h⟩; exact h) _ _ _ _ (wpList_mono ?_ _ _ _ (h2 a hs hd he))
  intro e a' w' hq
  cases e with
  | normal => obtain ⟨a1, a2, s, a3, a4⟩ := hq; exact h1 s _ _ a3 a4 a' a1 a2 rfl
  | panic c => exact hq.elim
  | outgrown => exact hq.elim
  | exit id => exact hq
  | goto l => exact hq
  | ret => exact hq

theorem ret_intro {fn : Func} {R : Ending → World → Prop} {v : Value} (hr : ∀ tmps : Array Value, (∀ i, tmps.getD i undef = ρ i) → (results fn tmps).run P w = .ok v w) (hR : R (.returned v) w) : retQ P fn R .ret ρ w := ⟨v, hr, hR⟩
theorem end_intro {fn : Func} {R : Ending → World → Prop} {v : Value} (hr : ∀ tmps : Array Value, (∀ i, tmps.getD i undef = ρ i) → (results fn tmps).run P w = .ok v w) (hR : R (.returned v) w) : retQ P fn R .normal ρ w := ⟨v, hr, hR⟩
theorem wanted_of {t j : Nat} {want b : Bool} (h1 : (ops[j]?).bind (·.dst) = some t) (h2 : ρ t = .bool b) (h3 : b = want) : Wanted ops ρ (some (j, want)) := ⟨t, h1, by rw [h2, h3]⟩
theorem notWanted_of {t j : Nat} {want b : Bool} (h1 : (ops[j]?).bind (·.dst) = some t) (h2 : ρ t = .bool b) (h3 : b = !want) : NotWanted ops ρ (some (j, want)) := ⟨t, h1, .inl (by rw [h2, h3])⟩
theorem notWanted_undef {t j : Nat} {want : Bool} (h1 : (ops[j]?).bind (·.dst) = some t) (h2 : ρ t = undef) : NotWanted ops ρ (some (j, want)) := ⟨t, h1, .inr h2⟩
end

section
variable {P : Program} {ty : TypeId} {ρ : Env} {K : Value → World → Prop} {w : World} {x y z : Operand} {v : Value}
theorem OpW.callR {f : FuncId} {fn : Func} {xs : Array Operand} {ts : Array TypeId} {α : Type} {mk : α → Value} {K' : α → World → Prop} (hf : P.funcs[f]? = some fn) (hb : fn.body.isNone = false) (hn : decide (fn.name = "runtime.NumGoroutine") = false)
    {al : List Value} (ha : xs.toList.map (ev ρ) = al) (h : cR P f mk al.toArray w K') (hK : ∀ x w', K' x w' → K (mk x) w') : OpW P (.call { callee := .value (.func f), args := xs, argTypes := ts }) ty ρ K w :=
  OpW.call hf hb hn (args := al.toArray) (by rw [← ha, ← Array.toList_map]) (Calls.mono h fun e w' ⟨x, he, hx⟩ => by subst he; exact hK x w' hx)

theorem OpW.allocE {t : TypeId} {zs : List Value} {b : Nat} {w' : World} (ht : zeroT P t = some zs) (hb : b = w.heap.size) (hw : w' = w.alloc (.cells zs.toArray t)) (h : K (.pointer (some ⟨b, 0, none⟩)) w') : OpW P (.alloc t) ty ρ K w := by
  subst hb; subst hw; exact OpW.alloc ht h
theorem OpW.allocZ {t : TypeId} {zs : List Value} {b : Nat} (ht : zeroT P t = some zs) (hb : b = w.heap.size) (h : K (.pointer (some ⟨b, 0, none⟩)) (w.alloc (.cells zs.toArray t))) : OpW P (.alloc t) ty ρ K w := by
  subst hb; exact OpW.alloc ht h
theorem OpW.storeF {t : TypeId} {zs cs : List Value} {n b : Nat} {w' : World} (ht : sizeT P t = some n) (hx : ev ρ x = .pointer (some ⟨b, 0, none⟩)) (hy : (ev ρ y).cells = cs.toArray)
    (hl : cs.length = n) (hz : zs.length = n) (h1 : ∀ v ∈ cs, v.oneCell' = true) (hb : b = w.heap.size) (hw : w' = w.alloc (.cells cs.toArray t)) (h : K undef w') : OpW P (.store t x y) ty ρ K (w.alloc (.cells zs.toArray t)) := by
  subst hb; subst hw; exact OpW.storeFresh ht hx hy hl hz h1 h
theorem one_ok {v : Value} (h : v.oneCell' = true) : ∀ u ∈ [v], u.oneCell' = true := fun u hu => by
  obtain rfl : u = v := by simpa using hu
  exact h
theorem OpW.boxE {t : TypeId} {cs : List Value} {b : Nat} {w' : World} (hx : (ev ρ x).cells = cs.toArray) (hb : b = w.heap.size) (hw : w' = w.alloc (.cells cs.toArray t)) (h : K (.pointer (some ⟨b, 0, none⟩)) w') : OpW P (.box t x) ty ρ K w := by
  subst hb; subst hw; exact OpW.box hx h
theorem OpW.buildSliceE {t e : TypeId} {len b : Nat} {w' : World} {parts : Array (Nat × Operand)} {vs : List (Nat × Value)} {cs : List Value} (hv : parts.toList.map (fun p => (p.1, ev ρ p.2)) = vs)
    (hf : fillCells P t len vs = some (e, cs.toArray)) (hb : b = w.heap.size) (hw : w' = w.alloc (.cells cs.toArray e)) (h : K (.slice (some ⟨b, 0, none⟩) len len) w') : OpW P (.buildSlice t len parts) ty ρ K w := by
  subst hb; subst hw; exact OpW.buildSlice (by rw [Array.toList_map]; exact hv) hf h
theorem OpW.makeSliceE {t e : TypeId} {size bytes b : Nat} {z : Value} {k1 k2 : IntKind} {l c : Int} {w' : World} (ht : mkCells P t = some (e, size, bytes, List.replicate size z)) (hs : 0 < size) (hx : ev ρ x = .int k1 l) (hy : ev ρ y = .int k2 c)
    (h0 : 0 ≤ l) (h1 : l ≤ c) (h2 : bytes * c ≤ 140737488355328) (h3 : c ≤ 9223372036854775807) (hb : b = w.heap.size) (hw : w' = w.alloc (.cells (List.replicate (c.toNat * size) z).toArray e))
    {s : Sl} (hsl : s = ⟨some ⟨b, 0, none⟩, l.toNat, c.toNat⟩) (h : K s.v w') : OpW P (.makeSlice t x y) ty ρ K w := by
  subst hb; subst hw; subst hsl; exact OpW.makeSlice ht hs hx hy h0 h1 h2 h3 h
theorem OpW.store1E {t : TypeId} {a : Addr} {u v : Value} {w' : World} (ht : sizeT P t = some 1) (hx : ev ρ x = .pointer (some a)) (hy : ev ρ y = v) (h1 : v.oneCell' = true) (hc : w.cell? a = some u) (hf : w.frozen? a = false)
    (hw : w' = w.setCell a v) (h : K undef w') : OpW P (.store t x y) ty ρ K w := by
  subst hw; exact OpW.store1 ht hx hy h1 hc hf h
theorem OpW.storeAE {t : TypeId} {g o : Nat} {e : TypeId} {n : Nat} {cur : Array Value} {cs : List Value} {a : Addr} {w' : World} (ht : sizeT P t = some n) (hx : ev ρ x = .pointer (some a)) (hy : ev ρ y = aggv cs) (ha : a = ⟨g, o, none⟩)
    (hl : cs.length = n) (hg : w.heap[g]? = some (.cells cur e (0, 0))) (hfit : o + cs.length ≤ cur.size) (h1 : ∀ v ∈ cs, v.oneCell' = true)
    (hw : w' = w.setRow g (cur.toList.take o ++ cs ++ cur.toList.drop (o + cs.length)).toArray) (h : K undef w') : OpW P (.store t x y) ty ρ K w := by
  subst ha; subst hw; exact OpW.storeA ht hx hy hl hg hfit h1 h
theorem OpW.markE {t : TypeId} {sl : Sl} {b o : Nat} {c : Array Value} {e : TypeId} {fr : Nat × Nat} {w' : World} (ht : byteSl P t = true) (hx : ev ρ x = sl.v) (ha : sl.a = some ⟨b, o, none⟩) (hg : w.heap[b]? = some (.cells c e fr))
    (hw : w' = w.freeze ⟨b, c.size, none⟩ 1) (h : K sl.v w') : OpW P (.convert t t x) ty ρ K w := by
  subst hw; exact OpW.mark ht hx ha hg h
theorem OpW.s2bE {s d : TypeId} {bs : List UInt8} {K' : Sl → World → Prop} (hs : strT P s = true) (hd : byteSl P d = true) (hx : ev ρ x = str bs) (h : Go.Lift.s2b bs w K') (hK : ∀ s w', K' s w' → K s.v w') : OpW P (.convert s d x) ty ρ K w :=
  OpW.s2b hs hd hx fun e n h1 h2 => hK ⟨some ⟨w.heap.size, 0, none⟩, bs.length, n⟩ _ (h e n _ _ h1 h2 rfl rfl)
theorem OpW.indexE {t e : TypeId} {n : Nat} {s : Sl} {i : Int} {a a' : Addr} {k : IntKind} (ht : sliceT P t = some (e, n)) (hx : ev ρ x = s.v) (hy : ev ρ y = .int k i)
    (ha : s.a = some a) (h0 : 0 ≤ i) (h1 : i < s.len) (hw : a' = a.add (i.toNat * n)) (h : K (.pointer (some a')) w) : OpW P (.indexAddr t x y) ty ρ K w := by
  subst hw; exact OpW.indexAddr ht hx hy ha h0 h1 h
theorem OpW.indexArrE {t : TypeId} {len n : Nat} {i : Int} {a a' : Addr} {k : IntKind} (ht : arrT P t = some (len, n)) (hx : ev ρ x = .pointer (some a)) (hy : ev ρ y = .int k i)
    (h0 : 0 ≤ i) (h1 : i < len) (hw : a' = a.add (i.toNat * n)) (h : K (.pointer (some a')) w) : OpW P (.indexAddr t x y) ty ρ K w := by
  subst hw; exact OpW.indexArr ht hx hy h0 h1 h
theorem OpW.appendL {xs : Array Operand} {ts : Array TypeId} {al : List Value} {w' : World} (ha : xs.toList.map (ev ρ) = al) (hr : (Builtin.append_ ts ty al.toArray).run P w = .ok v w')
    (h : K v w') : OpW P (.call { callee := .builtin .append, args := xs, argTypes := ts }) ty ρ K w :=
  OpW.append (args := al.toArray) (by rw [← ha, ← Array.toList_map]) hr h
theorem OpW.copyL {xs : Array Operand} {ts : Array TypeId} {al : List Value} {w' : World} (ha : xs.toList.map (ev ρ) = al) (hr : (Builtin.copy_ ts ty al.toArray).run P w = .ok v w')
    (h : K v w') : OpW P (.call { callee := .builtin .copy, args := xs, argTypes := ts }) ty ρ K w :=
  OpW.copy (args := al.toArray) (by rw [← ha, ← Array.toList_map]) hr h
theorem OpW.runBuiltinL {b : Builtin} {xs : Array Operand} {ts : Array TypeId} {al : List Value} {w' : World} (ha : xs.toList.map (ev ρ) = al) (hr : (builtin b ts ty (xs.map fun | .const _ => true | _ => false) al.toArray).run P w = .ok (.value v) w')
    (h : K v w') : OpW P (.call { callee := .builtin b, args := xs, argTypes := ts }) ty ρ K w :=
  OpW.runBuiltin (args := al.toArray) (by rw [← ha, ← Array.toList_map]) hr h
/-! ### results that lie in a cell -/
theorem run_cellA {t : TypeId} {a : Addr} {n : Nat} {cs : List Value} (ht : aggT P t = some n) (hl : cs.length = n) (hc : At w a cs) : (loadVar t a).run P w = .ok (aggv cs) w := by
  subst hl
  simp only [loadVar, Sem.run_bind, Sem.run_pure, Result.andThen_ok, run_isAgg_agg ht, run_sizeOf_agg ht, if_true, run_loadCells_list w a cs hc]
theorem run_asAddr {v : Value} {a : Addr} (h : v = .pointer (some a)) : (asAddr v).run P w = .ok a w := by subst h; rfl
theorem res1c {fn : Func} {u : Tmp} {t : TypeId} {a : Addr} {n : Nat} {cs : List Value} (h : fn.results = #[.cell u t]) (ht : aggT P t = some n) (hu : ρ u = .pointer (some a)) (hl : cs.length = n) (hc : At w a cs)
    (tmps : Array Value) (hρ : ∀ i, tmps.getD i undef = ρ i) : (results fn tmps).run P w = .ok (aggv cs) w := by
  have h1 := run_asAddr (P := P) (w := w) ((hρ u).trans hu)
  have h2 := run_cellA (P := P) ht hl hc
  unfold results
  rw [h]
  simp only [Array.mapM_eq_mapM_toList, List.mapM_cons, List.mapM_nil, map_eq_pure_bind, Sem.run_bind, h1, h2, Sem.run_pure, Result.andThen_ok]
  rfl
theorem res2c {fn : Func} {u t1 : Tmp} {t : TypeId} {a : Addr} {n : Nat} {cs : List Value} {x1 : Value} (h : fn.results = #[.cell u t, .tmp t1]) (ht : aggT P t = some n) (hu : ρ u = .pointer (some a)) (hl : cs.length = n) (hc : At w a cs)
    (hx1 : ρ t1 = x1) (tmps : Array Value) (hρ : ∀ i, tmps.getD i undef = ρ i) : (results fn tmps).run P w = .ok (.tuple #[aggv cs, x1]) w := by
  have h1 := run_asAddr (P := P) (w := w) ((hρ u).trans hu)
  have h2 := run_cellA (P := P) ht hl hc
  have h3 := (hρ t1).trans hx1
  unfold results
  rw [h]
  simp only [Array.mapM_eq_mapM_toList, List.mapM_cons, List.mapM_nil, map_eq_pure_bind, Sem.run_bind, h1, h2, h3, Sem.run_pure, Result.andThen_ok]
  rfl
theorem res3c {fn : Func} {u t1 t2 : Tmp} {t : TypeId} {a : Addr} {n : Nat} {cs : List Value} {x1 x2 : Value} (h : fn.results = #[.cell u t, .tmp t1, .tmp t2]) (ht : aggT P t = some n) (hu : ρ u = .pointer (some a)) (hl : cs.length = n) (hc : At w a cs)
    (hx1 : ρ t1 = x1) (hx2 : ρ t2 = x2) (tmps : Array Value) (hρ : ∀ i, tmps.getD i undef = ρ i) : (results fn tmps).run P w = .ok (.tuple #[aggv cs, x1, x2]) w := by
  have h1 := run_asAddr (P := P) (w := w) ((hρ u).trans hu)
  have h2 := run_cellA (P := P) ht hl hc
  have h3 := (hρ t1).trans hx1
  have h4 := (hρ t2).trans hx2
  unfold results
  rw [h]
  simp only [Array.mapM_eq_mapM_toList, List.mapM_cons, List.mapM_nil, map_eq_pure_bind, Sem.run_bind, h1, h2, h3, h4, Sem.run_pure, Result.andThen_ok]
  rfl
theorem OpW.runBuiltinP {b : Builtin} {xs : Array Operand} {ts : Array TypeId} {al : List Value} (ha : xs.toList.map (ev ρ) = al) (hr : (builtin b ts ty (xs.map fun | .const _ => true | _ => false) al.toArray).run P w = .ok (.value v) w)
    (h : K v w) : OpW P (.call { callee := .builtin b, args := xs, argTypes := ts }) ty ρ K w := OpW.runBuiltinL ha hr h
theorem OpW.buildL {t : TypeId} {parts : Array (Nat × Operand)} {vs : List (Nat × Value)} {cs : List Value} (hv : parts.toList.map (fun p => (p.1, ev ρ p.2)) = vs)
    (hf : ∀ w, (Instr.build t vs.toArray).run P w = .ok (aggv cs) w) (h : K (aggv cs) w) : OpW P (.build t parts) ty ρ K w :=
  OpW.buildRun (by rw [Array.toList_map]; exact hv) hf h
theorem cast_sl {s : Sl} {a : Option Addr} {l c : Nat} (h : s = ⟨a, l, c⟩) (hk : K s.v w) : K (.slice a l c) w := by subst h; exact hk
/-- The bitwise operations, as they come out of the model. -/
def andI (k : IntKind) (a b : Int) : Int := k.wrap (BitVec.ofInt k.bits a &&& BitVec.ofInt k.bits b).toNat
def orI (k : IntKind) (a b : Int) : Int := k.wrap (BitVec.ofInt k.bits a ||| BitVec.ofInt k.bits b).toNat
def xorI (k : IntKind) (a b : Int) : Int := k.wrap (BitVec.ofInt k.bits a ^^^ BitVec.ofInt k.bits b).toNat
def cmpl (k : IntKind) (a : Int) : Int := k.wrap (BitVec.ofInt k.bits (if k.signed then -1 else k.max) ^^^ BitVec.ofInt k.bits a).toNat
def shlI (k : IntKind) (a b : Int) : Int := k.wrap (a * 2 ^ min b.toNat k.bits)
def shrI (k : IntKind) (a b : Int) : Int := a.fdiv (2 ^ min b.toNat k.bits)
end
end Go.Lift
