/- What each operation needs and hands on, over typed values: one law for each kind of operation, once for all programs. -/
import Derived.Test.YtagkcbbbdlmcjaaLift
import Derived.Laws.CopyRow
import Derived.Laws.Rows
import Derived.Laws.IdiomStrings
import Derived.Laws.BytesArg
import Derived.Lib.Bytes
import Derived.Lib.IndexBytes
set_option linter.unusedVariables false
set_option linter.unusedSimpArgs false
namespace Go.Lift
structure Sl where
  a : Option Addr
  len : Nat
  cap : Nat
abbrev Sl.v (s : Sl) : Value := .slice s.a s.len s.cap
abbrev nilSl : Sl := ⟨none, 0, 0⟩
abbrev str (xs : List UInt8) : Value := .string ⟨xs.toArray⟩
abbrev aggv (cs : List Value) : Value := .agg cs.toArray
/-- Bytes as cells. -/
def u8s (bs : List UInt8) : List Value := bs.map fun b => .int .u8 (b.toNat : Int)
theorem u8s_length (bs : List UInt8) : (u8s bs).length = bs.length := by simp [u8s]
/-- The cells that lie from an address on. -/
def At (w : World) (a : Addr) (cs : List Value) : Prop := ∀ j v, cs[j]? = some v → w.cell? (a.add j) = some v
/-- The same for a slice's address, which may be none where there are no cells. -/
def AtO (w : World) (a : Option Addr) (cs : List Value) : Prop := match a with
  | some a => At w a cs
  | none => cs = []

def oneT (P : Program) (t : TypeId) : Bool := match P.underlying t with
  | some (.struct _) | some (.array _ _) => false
  | some _ => true
  | none => false
def aggT (P : Program) (t : TypeId) : Option Nat := match P.underlying t, P.info? t with
  | some (.struct _), some i | some (.array _ _), some i => some i.size
  | _, _ => none
def sizeT (P : Program) (t : TypeId) : Option Nat := (P.info? t).map (·.size)
def zeroT (P : Program) (t : TypeId) : Option (List Value) := (P.info? t).bind fun i => i.zero.map fun z => z.cells.toList
def fieldT (P : Program) (s : TypeId) (f : Nat) : Option Nat := match P.underlying s with
  | some (.struct fs) => match fs[f]? with
    | some fd => match P.info? fd.type with
      | some i => if i.size = 0 then none else some fd.offset
      | none => none
    | none => none
  | _ => none
def sliceT (P : Program) (t : TypeId) : Option (TypeId × Nat) := match P.underlying t with
  | some (.slice e) => match P.info? e with
    | some i => some (e, i.size)
    | none => none
  | _ => none
def arrT (P : Program) (t : TypeId) : Option (Nat × Nat) := match P.underlying t with
  | some (.array n e) => match P.info? e with
    | some i => some (n, i.size)
    | none => none
  | _ => none

section
variable {P : Program} {ty : TypeId} {ρ : Env} {K : Value → World → Prop} {w : World} {x y z : Operand} {v : Value}

theorem OpW.val {op : Op} {w' : World} (hr : (execOp (ev ρ) ⟨none, op, ty, "", #[], none⟩).run P w = .ok (.value v) w') (h : K v w') : OpW P op ty ρ K w := by
  unfold OpW; rw [hr]; exact h
theorem OpW.unit {op : Op} {w' : World} (hr : (execOp (ev ρ) ⟨none, op, ty, "", #[], none⟩).run P w = .ok .skip w') (h : K undef w') : OpW P op ty ρ K w := by
  unfold OpW; rw [hr]; exact h

theorem OpW.move (hx : ev ρ x = v) (h : K v w) : OpW P (.move x) ty ρ K w := by subst hx; exact h
theorem OpW.assign (hx : ev ρ x = v) (h : K v w) : OpW P (.assign x) ty ρ K w := by subst hx; exact h
theorem OpW.pick {b : Bool} (hc : ev ρ x = .bool b) (hv : cond b (ev ρ y) (ev ρ z) = v) (h : K v w) : OpW P (.pick x y z) ty ρ K w := by
  refine OpW.val (w' := w) ?_ h
  subst hv
  cases b <;> simp [execOp, hc, asBool]
theorem OpW.extract {i : Nat} {vs : Array Value} (hx : ev ρ x = .tuple vs) (hv : vs[i]? = some v) (h : K v w) : OpW P (.extract x i) ty ρ K w :=
  OpW.val (w' := w) (by simp [execOp, hx, Instr.extract, hv]) h
theorem OpW.nilCheck {a : Addr} (hx : ev ρ x = .pointer (some a)) (h : K (.pointer (some a)) w) : OpW P (.nilCheck x) ty ρ K w :=
  OpW.val (w' := w) (by simp [execOp, hx]) h

/-- int arithmetic and comparison -/
def binInt (op : BinOp) (k : IntKind) (a b : Int) : Option Value := match op with
  | .add => some (.int k (k.wrap (a + b)))
  | .sub => some (.int k (k.wrap (a - b)))
  | .mul => some (.int k (k.wrap (a * b)))
  | .and => some (.int k (k.wrap (BitVec.ofInt k.bits a &&& BitVec.ofInt k.bits b).toNat))
  | .or => some (.int k (k.wrap (BitVec.ofInt k.bits a ||| BitVec.ofInt k.bits b).toNat))
  | .xor => some (.int k (k.wrap (BitVec.ofInt k.bits a ^^^ BitVec.ofInt k.bits b).toNat))
  | .lss => some (.bool (decide (a < b)))
  | .leq => some (.bool (decide (a ≤ b)))
  | .gtr => some (.bool (decide (b < a)))
  | .geq => some (.bool (decide (b ≤ a)))
  | .eql => some (.bool (decide (a = b)))
  | .neq => some (.bool (!decide (a = b)))
  | _ => none
theorem OpW.bin {op : BinOp} {k : IntKind} {a b : Int} {t u : TypeId} (hx : ev ρ x = .int k a) (hy : ev ρ y = .int k b) (hv : binInt op k a b = some v) (h : K v w) :
    OpW P (.binOp op t x y u) ty ρ K w := by
  refine OpW.val (w' := w) ?_ h
  cases op <;> simp only [binInt, Option.some.injEq, reduceCtorEq] at hv <;> subst hv <;>
    simp [execOp, hx, hy, eqGuard, binOp, Op.intArith, Op.intBits, Op.intCmp]
  · rfl
  · rfl

def quoInt (op : BinOp) (k : IntKind) (a b : Int) : Option Value := match op with
  | .quo => some (.int k (k.wrap (a.tdiv b)))
  | .rem => some (.int k (a.tmod b))
  | _ => none
theorem OpW.quo {op : BinOp} {k : IntKind} {a b : Int} {t u : TypeId} (hx : ev ρ x = .int k a) (hy : ev ρ y = .int k b) (hb : b ≠ 0) (hv : quoInt op k a b = some v) (h : K v w) :
    OpW P (.binOp op t x y u) ty ρ K w := by
  refine OpW.val (w' := w) ?_ h
  cases op <;> simp only [quoInt, Option.some.injEq, reduceCtorEq] at hv <;> subst hv <;>
    simp [execOp, hx, hy, eqGuard, binOp, Op.intDiv, hb]

def shiftInt (op : BinOp) (k : IntKind) (a b : Int) : Option Value := match op with
  | .shl => some (.int k (k.wrap (a * 2 ^ min b.toNat k.bits)))
  | .shr => some (.int k (a.fdiv (2 ^ min b.toNat k.bits)))
  | _ => none
theorem OpW.shift {op : BinOp} {k l : IntKind} {a b : Int} {t u : TypeId} (hx : ev ρ x = .int k a) (hy : ev ρ y = .int l b) (hb : 0 ≤ b) (hv : shiftInt op k a b = some v) (h : K v w) :
    OpW P (.binOp op t x y u) ty ρ K w := by
  refine OpW.val (w' := w) ?_ h
  have hb' : ¬ b < 0 := by omega
  cases op <;> simp only [shiftInt, Option.some.injEq, reduceCtorEq] at hv <;> subst hv <;>
    simp [execOp, hx, hy, eqGuard, binOp, Op.shift, hb']

theorem toList_mk (xs : List UInt8) : (ByteArray.mk xs.toArray).toList = xs := by
  rw [Lib.toList_data]
theorem beq_dec (l r : List UInt8) : (l == r) = decide (l = r) := by rw [Bool.eq_iff_iff]; simp

theorem OpW.strAdd {a b : List UInt8} {t u : TypeId} (hx : ev ρ x = str a) (hy : ev ρ y = str b) (hl : a.length + b.length ≤ 9223372036854775807) (h : K (str (a ++ b)) w) :
    OpW P (.binOp .add t x y u) ty ρ K w := by
  refine OpW.val (w' := w) ?_ h
  have e1 : (ByteArray.mk a.toArray ++ ByteArray.mk b.toArray) = ByteArray.mk (a ++ b).toArray := by
    apply ByteArray.ext
    simp
  have hs : ¬ (((ByteArray.mk a.toArray).size + (ByteArray.mk b.toArray).size : Nat) : Int) > IntKind.i64.max := by
    simp [ByteArray.size, IntKind.max, IntKind.signed, IntKind.bits]; omega
  simp only [execOp, hx, hy, eqGuard, binOp, Op.stringOp]
  rw [if_neg hs, e1]
  rfl
theorem OpW.strCmp {op : BinOp} {b : Bool} {l r : List UInt8} {t u : TypeId} (hx : ev ρ x = str l) (hy : ev ρ y = str r)
    (hv : (match op with | .eql => some (decide (l = r)) | .neq => some (!decide (l = r)) | _ => none) = some b) (h : K (.bool b) w) :
    OpW P (.binOp op t x y u) ty ρ K w := by
  refine OpW.val (w' := w) ?_ h
  cases op <;> simp only [Option.some.injEq, reduceCtorEq] at hv <;> subst hv <;>
    simp [execOp, hx, hy, eqGuard, binOp, Op.stringOp, toList_mk, beq_dec]
theorem equal_bool {t : TypeId} (ht : P.underlying t = some .bool) (a b : Bool) (w : World) : (Op.equal t (.bool a) (.bool b)).run P w = .ok (a == b) w := by
  have key : ∀ d, (Op.equalIn (d + 1) t (.bool a) (.bool b)).run P w = .ok (a == b) w := fun d => by
    unfold Op.equalIn
    simp only [Sem.run_bind, run_underlying ht, Result.andThen_ok]
    rfl
  exact key 9999
theorem equal_ptr {t e : TypeId} (ht : P.underlying t = some (.pointer e)) (p : Option Addr) (w : World) : (Op.equal t (.pointer p) (.pointer none)).run P w = .ok p.isNone w := by
  have key : ∀ d, (Op.equalIn (d + 1) t (.pointer p) (.pointer none)).run P w = .ok p.isNone w := fun d => by
    unfold Op.equalIn
    simp only [Sem.run_bind, run_underlying ht, Result.andThen_ok]
    cases p <;> rfl
  exact key 9999
theorem equal_slice {t e : TypeId} (ht : P.underlying t = some (.slice e)) (a : Option Addr) (l c : Nat) (w : World) : (Op.equal t (.slice a l c) (.slice none 0 0)).run P w = .ok a.isNone w := by
  have key : ∀ d, (Op.equalIn (d + 1) t (.slice a l c) (.slice none 0 0)).run P w = .ok a.isNone w := fun d => by
    unfold Op.equalIn
    simp only [Sem.run_bind, run_underlying ht, Result.andThen_ok]
    cases a <;> rfl
  exact key 9999
theorem OpW.boolCmp {op : BinOp} {b l r : Bool} {t u : TypeId} (ht : P.underlying t = some .bool) (hx : ev ρ x = .bool l) (hy : ev ρ y = .bool r)
    (hv : (match op with | .eql => some (l == r) | .neq => some (!(l == r)) | _ => none) = some b) (h : K (.bool b) w) :
    OpW P (.binOp op t x y u) ty ρ K w := by
  refine OpW.val (w' := w) ?_ h
  cases op <;> simp only [Option.some.injEq, reduceCtorEq] at hv <;> subst hv <;>
    simp [execOp, hx, hy, eqGuard, binOp, equal_bool ht]
def ptrT (P : Program) (t : TypeId) : Bool := match P.underlying t with
  | some (.pointer _) => true
  | _ => false
theorem OpW.ptrNil {op : BinOp} {b : Bool} {p : Option Addr} {t u : TypeId} (ht : ptrT P t = true) (hx : ev ρ x = .pointer p) (hy : ev ρ y = .pointer none)
    (hv : (match op with | .eql => some p.isNone | .neq => some (!p.isNone) | _ => none) = some b) (h : K (.bool b) w) :
    OpW P (.binOp op t x y u) ty ρ K w := by
  refine OpW.val (w' := w) ?_ h
  unfold ptrT at ht
  split at ht
  · rename_i e hu
    cases op <;> simp only [Option.some.injEq, reduceCtorEq] at hv <;> subst hv <;>
      simp [execOp, hx, hy, eqGuard, binOp, equal_ptr hu]
  · simp at ht
theorem OpW.slNil {op : BinOp} {b : Bool} {s : Sl} {e : TypeId} {n : Nat} {t u : TypeId} (ht : sliceT P t = some (e, n)) (hx : ev ρ x = s.v) (hy : ev ρ y = .slice none 0 0)
    (hv : (match op with | .eql => some s.a.isNone | .neq => some (!s.a.isNone) | _ => none) = some b) (h : K (.bool b) w) :
    OpW P (.binOp op t x y u) ty ρ K w := by
  refine OpW.val (w' := w) ?_ h
  obtain ⟨a, l, c⟩ := s
  unfold sliceT at ht
  split at ht
  · rename_i e hu
    cases op <;> simp only [Option.some.injEq, reduceCtorEq] at hv <;> subst hv <;>
      simp [execOp, hx, hy, eqGuard, binOp, equal_slice hu]
  · simp at ht

theorem OpW.not {b : Bool} {t : TypeId} (hx : ev ρ x = .bool b) (h : K (.bool (!b)) w) : OpW P (.unOp .not t x) ty ρ K w :=
  OpW.val (w' := w) (by simp [execOp, hx, Op.unary]) h
theorem OpW.compl {k : IntKind} {a : Int} {t : TypeId} (hx : ev ρ x = .int k a) (h : K (.int k (k.wrap (BitVec.ofInt k.bits (if k.signed then -1 else k.max) ^^^ BitVec.ofInt k.bits a).toNat)) w) :
    OpW P (.unOp .xor t x) ty ρ K w :=
  OpW.val (w' := w) (by simp [execOp, hx, Op.unary, Op.intBits]) h
theorem OpW.neg {k : IntKind} {a : Int} {t : TypeId} (hx : ev ρ x = .int k a) (h : K (.int k (k.wrap (0 - a))) w) : OpW P (.unOp .neg t x) ty ρ K w :=
  OpW.val (w' := w) (by simp [execOp, hx, Op.unary, Op.intArith]) h

def intT (P : Program) (t : TypeId) : Option IntKind := match P.underlying t with
  | some (.int k) => some k
  | _ => none
theorem OpW.convInt {k l : IntKind} {a : Int} {s d : TypeId} (hs : intT P s = some l) (hd : intT P d = some k) (hx : ev ρ x = .int l a) (h : K (.int k (k.wrap a)) w) : OpW P (.convert s d x) ty ρ K w := by
  refine OpW.val (w' := w) ?_ h
  unfold intT at hs hd
  split at hs
  · rename_i h1
    split at hd
    · rename_i h2
      simp only [Option.some.injEq] at hs hd
      subst hs; subst hd
      simp [execOp, hx, convert, run_underlying h1, run_underlying h2, Conv.intToInt]
    · simp at hd
  · simp at hs

/-! ### addresses -/
theorem OpW.fieldAddr {s : TypeId} {f off : Nat} {a : Addr} (ht : fieldT P s f = some off) (hx : ev ρ x = .pointer (some a)) (h : K (.pointer (some (a.add off))) w) :
    OpW P (.fieldAddr s x f) ty ρ K w := by
  refine OpW.val (w' := w) ?_ h
  unfold fieldT at ht
  split at ht
  · rename_i fs hu
    split at ht
    · rename_i fd hf
      split at ht
      · rename_i i hi
        split at ht
        · simp at ht
        · rename_i hz
          simp only [Option.some.injEq] at ht
          subst ht
          simp [execOp, hx, Instr.fieldAt, run_underlying hu, hf, Instr.sureAddr, fieldPlace, sizeOf, typeInfo, hi, hz]
      · simp at ht
    · simp at ht
  · simp at ht
theorem OpW.indexAddr {t e : TypeId} {n : Nat} {s : Sl} {i : Int} {a : Addr} {k : IntKind} (ht : sliceT P t = some (e, n)) (hx : ev ρ x = s.v) (hy : ev ρ y = .int k i)
    (ha : s.a = some a) (h0 : 0 ≤ i) (h1 : i < s.len) (h : K (.pointer (some (a.add (i.toNat * n)))) w) : OpW P (.indexAddr t x y) ty ρ K w := by
  refine OpW.val (w' := w) ?_ h
  obtain ⟨sa, l, c⟩ := s
  simp only at ha h1
  subst ha
  unfold sliceT at ht
  split at ht
  · rename_i e' hu
    split at ht
    · rename_i j hi
      simp only [Option.some.injEq, Prod.mk.injEq] at ht
      obtain ⟨rfl, rfl⟩ := ht
      simp [execOp, hx, hy, Instr.indexAt, asIntOf, run_underlying hu, h0, h1, sizeOf, typeInfo, hi]
    · simp at ht
  · simp at ht
theorem OpW.indexArr {t : TypeId} {len n : Nat} {i : Int} {a : Addr} {k : IntKind} (ht : arrT P t = some (len, n)) (hx : ev ρ x = .pointer (some a)) (hy : ev ρ y = .int k i)
    (h0 : 0 ≤ i) (h1 : i < len) (h : K (.pointer (some (a.add (i.toNat * n)))) w) : OpW P (.indexAddr t x y) ty ρ K w := by
  refine OpW.val (w' := w) ?_ h
  unfold arrT at ht
  split at ht
  · rename_i m e' hu
    split at ht
    · rename_i j hi
      simp only [Option.some.injEq, Prod.mk.injEq] at ht
      obtain ⟨rfl, rfl⟩ := ht
      simp [execOp, hx, hy, Instr.indexAt, Instr.sureAddr, asIntOf, run_underlying hu, h0, h1, sizeOf, typeInfo, hi]
    · simp at ht
  · simp at ht
theorem OpW.indexStr {t : TypeId} {xs : List UInt8} {i : Int} {k : IntKind} {c : UInt8} (ht : P.underlying t = some .string) (hx : ev ρ x = str xs) (hy : ev ρ y = .int k i)
    (h0 : 0 ≤ i) (h1 : xs[i.toNat]? = some c) (h : K (.int .u8 c.toNat) w) : OpW P (.index t x y) ty ρ K w := by
  refine OpW.val (w' := w) ?_ h
  have : (ByteArray.mk xs.toArray)[i.toNat]? = some c := by
    rw [← h1]
    by_cases hl : i.toNat < xs.length
    · rw [List.getElem?_eq_getElem hl]
      have : i.toNat < (ByteArray.mk xs.toArray).size := by simpa [ByteArray.size] using hl
      rw [getElem?_pos (ByteArray.mk xs.toArray) i.toNat this]
      rfl
    · rw [List.getElem?_eq_none (by omega)]
      have : ¬ i.toNat < (ByteArray.mk xs.toArray).size := by simpa [ByteArray.size] using hl
      rw [getElem?_neg (ByteArray.mk xs.toArray) i.toNat this]
  simp [execOp, hx, hy, Instr.index, asIntOf, run_underlying ht, h0, this]

/-! ### loads and stores -/
theorem run_isAgg_one {t : TypeId} (ht : oneT P t = true) (w : World) : (isAgg t).run P w = .ok false w := by
  unfold oneT at ht
  split at ht <;> rename_i hu
  · simp at ht
  · simp at ht
  · rename_i d h1 h2
    unfold isAgg
    simp only [Sem.run_bind, run_underlying hu, Result.andThen_ok]
    cases d <;> first | rfl | exact absurd rfl (h1 _) | exact absurd rfl (h2 _ _)
  · simp at ht
theorem OpW.load1 {t : TypeId} {a : Addr} (ht : oneT P t = true) (hx : ev ρ x = .pointer (some a)) (hc : w.cell? a = some v) (h : K v w) : OpW P (.load t x) ty ρ K w := by
  refine OpW.val (w' := w) ?_ h
  simp only [execOp, hx, Instr.loadAt, Instr.sureAddr, loadVar, load, Sem.run_bind, Sem.run_pure, Result.andThen_ok, run_isAgg_one ht, Bool.false_eq_true, if_false, Sem.run, hc]
theorem run_isAgg_agg {t : TypeId} {n : Nat} (ht : aggT P t = some n) (w : World) : (isAgg t).run P w = .ok true w := by
  unfold aggT at ht
  split at ht <;> rename_i hu _
  · unfold isAgg
    simp only [Sem.run_bind, run_underlying hu, Result.andThen_ok]; rfl
  · unfold isAgg
    simp only [Sem.run_bind, run_underlying hu, Result.andThen_ok]; rfl
  · simp at ht
theorem run_sizeOf_agg {t : TypeId} {n : Nat} (ht : aggT P t = some n) (w : World) : (sizeOf t).run P w = .ok n w := by
  unfold aggT at ht
  split at ht <;> rename_i _ hi
  · simp only [Option.some.injEq] at ht; subst ht; simp [sizeOf, typeInfo, hi]
  · simp only [Option.some.injEq] at ht; subst ht; simp [sizeOf, typeInfo, hi]
  · simp at ht
theorem OpW.loadA {t : TypeId} {a : Addr} {n : Nat} {cs : List Value} (ht : aggT P t = some n) (hx : ev ρ x = .pointer (some a)) (hl : cs.length = n) (hc : At w a cs) (h : K (aggv cs) w) :
    OpW P (.load t x) ty ρ K w := by
  refine OpW.val (w' := w) ?_ h
  subst hl
  simp only [execOp, hx, Instr.loadAt, Instr.sureAddr, loadVar, Sem.run_bind, Sem.run_pure, Result.andThen_ok, run_isAgg_agg ht, run_sizeOf_agg ht, if_true, run_loadCells_list w a cs hc]

theorem run_sizeOf {t : TypeId} {n : Nat} (ht : sizeT P t = some n) (w : World) : (sizeOf t).run P w = .ok n w := by
  unfold sizeT at ht
  cases hi : P.info? t with
  | none => simp [hi] at ht
  | some i => simp [hi] at ht; subst ht; simp [sizeOf, typeInfo, hi]
theorem OpW.store1 {t : TypeId} {a : Addr} {u : Value} (ht : sizeT P t = some 1) (hx : ev ρ x = .pointer (some a)) (hy : ev ρ y = v) (h1 : v.oneCell' = true) (hc : w.cell? a = some u) (hf : w.frozen? a = false)
    (h : K undef (w.setCell a v)) : OpW P (.store t x y) ty ρ K w := by
  refine OpW.unit (w' := w.setCell a v) ?_ h
  have hcs : v.cells = #[v] := by cases v <;> first | rfl | (simp [Value.oneCell'] at h1)
  simp only [execOp, hx, hy, Instr.storeAt, Instr.sureAddr, storeVar, Sem.run_bind, Sem.run_pure, Result.andThen_ok, run_sizeOf ht, hcs]
  cases v <;> first
    | (simp [storeCells, store, Addr.add, Sem.run, hc, hf]; done)
    | (simp [Value.oneCell'] at h1)
/-- a whole row, written into a block that is not frozen -/
theorem OpW.storeA {t : TypeId} {g o : Nat} {e : TypeId} {n : Nat} {cur : Array Value} {cs : List Value} (ht : sizeT P t = some n) (hx : ev ρ x = .pointer (some ⟨g, o, none⟩)) (hy : ev ρ y = aggv cs)
    (hl : cs.length = n) (hg : w.heap[g]? = some (.cells cur e (0, 0))) (hfit : o + cs.length ≤ cur.size) (h1 : ∀ v ∈ cs, v.oneCell' = true)
    (h : K undef (w.setRow g (cur.toList.take o ++ cs ++ cur.toList.drop (o + cs.length)).toArray)) : OpW P (.store t x y) ty ρ K w := by
  refine OpW.unit ?_ h
  subst hl
  have := run_storeCells_at P g o e cs 0 cur w hg (by omega) h1
  simp only [Nat.add_zero] at this
  simp [execOp, hx, hy, Instr.storeAt, Instr.sureAddr, storeVar, run_sizeOf ht, Value.cells, this]

/-! ### new memory -/
theorem run_zeroValue_cells {t : TypeId} {zs : List Value} (ht : zeroT P t = some zs) (w : World) : ∃ z : Value, (zeroValue t).run P w = .ok z w ∧ z.cells = zs.toArray := by
  unfold zeroT at ht
  cases hi : P.info? t with
  | none => simp [hi] at ht
  | some i =>
    simp only [hi, Option.bind_some] at ht
    cases hz : i.zero with
    | none => simp [hz] at ht
    | some z =>
      simp only [hz, Option.map_some, Option.some.injEq] at ht
      refine ⟨z, by simp [zeroValue, typeInfo, hi, hz], ?_⟩
      rw [← ht]
theorem OpW.alloc {t : TypeId} {zs : List Value} (ht : zeroT P t = some zs) (h : K (.pointer (some ⟨w.heap.size, 0, none⟩)) (w.alloc (.cells zs.toArray t))) : OpW P (.alloc t) ty ρ K w := by
  refine OpW.val (w' := w.alloc (.cells zs.toArray t)) ?_ h
  obtain ⟨z, hz, hc⟩ := run_zeroValue_cells ht w
  simp [execOp, Instr.alloc, hz, newVar, newRow, newObj, hc, Sem.run]
theorem OpW.box {t : TypeId} {cs : List Value} (hx : (ev ρ x).cells = cs.toArray) (h : K (.pointer (some ⟨w.heap.size, 0, none⟩)) (w.alloc (.cells cs.toArray t))) : OpW P (.box t x) ty ρ K w := by
  refine OpW.val (w' := w.alloc (.cells cs.toArray t)) ?_ h
  simp [execOp, Instr.box, newVar, newRow, newObj, hx, Sem.run]
/-- A variable that is made and at once given a value. -/
theorem setRow_alloc (w : World) (cs ds : Array Value) (t : TypeId) : (w.alloc (.cells cs t)).setRow w.heap.size ds = w.alloc (.cells ds t) := by
  unfold World.alloc World.setRow
  congr 1
  apply Array.ext
  · simp
  · intro i h1 h2
    simp only [Array.getElem_modify, Array.getElem_push]
    split
    · rename_i e; subst e; simp
    · rename_i e
      split
      · rfl
      · rename_i h3; simp at h1; omega
theorem heap_new (w : World) (o : Obj) : (w.alloc o).heap[w.heap.size]? = some o := by
  show (w.heap.push o)[w.heap.size]? = some o
  simp
theorem OpW.storeFresh {t : TypeId} {zs cs : List Value} {n : Nat} (ht : sizeT P t = some n) (hx : ev ρ x = .pointer (some ⟨w.heap.size, 0, none⟩)) (hy : (ev ρ y).cells = cs.toArray)
    (hl : cs.length = n) (hz : zs.length = n) (h1 : ∀ v ∈ cs, v.oneCell' = true) (h : K undef (w.alloc (.cells cs.toArray t))) : OpW P (.store t x y) ty ρ K (w.alloc (.cells zs.toArray t)) := by
  refine OpW.unit ?_ h
  have := run_storeCells_at P w.heap.size 0 t cs 0 zs.toArray (w.alloc (.cells zs.toArray t)) (heap_new _ _) (by simp; omega) h1
  simp only [Nat.add_zero, Nat.zero_add] at this
  have e : (zs.toArray.toList.take 0 ++ cs ++ zs.toArray.toList.drop cs.length) = cs := by simp [List.drop_of_length_le (show zs.length ≤ cs.length by omega)]
  rw [e, setRow_alloc] at this
  simp [execOp, hx, hy, Instr.storeAt, Instr.sureAddr, storeVar, run_sizeOf ht, hl, this]

/-! ### calls -/
theorem OpW.call {f : FuncId} {fn : Func} {xs : Array Operand} {ts : Array TypeId} {args : Array Value} (hf : P.funcs[f]? = some fn) (hb : fn.body.isNone = false) (hn : decide (fn.name = "runtime.NumGoroutine") = false)
    (ha : xs.map (ev ρ) = args)
    (h : Calls P f args w fun e w' => match e with | .returned v => K v w' | _ => False) : OpW P (.call { callee := .value (.func f), args := xs, argTypes := ts }) ty ρ K w := by
  unfold OpW
  have : (execOp (ev ρ) ⟨none, .call { callee := .value (.func f), args := xs, argTypes := ts }, ty, "", #[], none⟩).run P w = .ok (.enter f args) w := by
    have hn' : ¬ fn.name = "runtime.NumGoroutine" := of_decide_eq_false hn
    simp only [execOp, resolve, ev, Deferred.ofValue]
    have hb' : ¬ fn.body = none := fun e => by simp [e] at hb
    simp [invoke, callFunc, hf, hn', hb', ha, Sem.run, program]
  rw [this]
  exact h
theorem size_mk (xs : List UInt8) : (ByteArray.mk xs.toArray).size = xs.length := rfl
theorem OpW.len {t : TypeId} {s : Sl} {e : TypeId} {n : Nat} (ht : sliceT P t = some (e, n)) (hx : ev ρ x = s.v) (h : K (.int .i64 s.len) w) : OpW P (.call { callee := .builtin .len, args := #[x], argTypes := #[t] }) ty ρ K w := by
  refine OpW.val (w' := w) ?_ h
  unfold sliceT at ht
  split at ht
  · rename_i e hu
    simp [execOp, resolve, invoke, builtin, Builtin.len_, run_underlying hu, hx, goInt]
  · simp at ht
theorem OpW.cap {t : TypeId} {s : Sl} {e : TypeId} {n : Nat} (ht : sliceT P t = some (e, n)) (hx : ev ρ x = s.v) (h : K (.int .i64 s.cap) w) : OpW P (.call { callee := .builtin .cap, args := #[x], argTypes := #[t] }) ty ρ K w := by
  refine OpW.val (w' := w) ?_ h
  unfold sliceT at ht
  split at ht
  · rename_i e hu
    simp [execOp, resolve, invoke, builtin, Builtin.cap_, run_underlying hu, hx, goInt]
  · simp at ht
theorem OpW.lenStr {t : TypeId} {xs : List UInt8} (ht : P.underlying t = some .string) (hx : ev ρ x = str xs) (h : K (.int .i64 xs.length) w) : OpW P (.call { callee := .builtin .len, args := #[x], argTypes := #[t] }) ty ρ K w := by
  refine OpW.val (w' := w) ?_ h
  simp [execOp, resolve, invoke, builtin, Builtin.len_, run_underlying ht, hx, goInt, size_mk]
theorem OpW.lenArr {t : TypeId} {n m : Nat} (ht : arrT P t = some (n, m)) (h : K (.int .i64 n) w) : OpW P (.call { callee := .builtin .len, args := #[x], argTypes := #[t] }) ty ρ K w := by
  refine OpW.val (w' := w) ?_ h
  unfold arrT at ht
  split at ht
  · rename_i m e' hu
    split at ht
    · rename_i j hi
      simp only [Option.some.injEq, Prod.mk.injEq] at ht
      obtain ⟨rfl, rfl⟩ := ht
      simp [execOp, resolve, invoke, builtin, Builtin.len_, run_underlying hu, goInt]
    · simp at ht
  · simp at ht
/-- Any operation whose run is known. -/
theorem OpW.runBuiltin {b : Builtin} {xs : Array Operand} {ts : Array TypeId} {args : Array Value} {w' : World} (ha : xs.map (ev ρ) = args) (hr : (builtin b ts ty (xs.map fun | .const _ => true | _ => false) args).run P w = .ok (.value v) w')
    (h : K v w') : OpW P (.call { callee := .builtin b, args := xs, argTypes := ts }) ty ρ K w := by
  refine OpW.val (w' := w') ?_ h
  subst ha
  simp only [execOp, resolve, invoke, Sem.run_bind, Sem.run_pure, Result.andThen_ok]
  exact hr
theorem OpW.append {xs : Array Operand} {ts : Array TypeId} {args : Array Value} {w' : World} (ha : xs.map (ev ρ) = args) (hr : (Builtin.append_ ts ty args).run P w = .ok v w')
    (h : K v w') : OpW P (.call { callee := .builtin .append, args := xs, argTypes := ts }) ty ρ K w :=
  OpW.runBuiltin ha (by simp [builtin, hr]) h
theorem OpW.copy {xs : Array Operand} {ts : Array TypeId} {args : Array Value} {w' : World} (ha : xs.map (ev ρ) = args) (hr : (Builtin.copy_ ts ty args).run P w = .ok v w')
    (h : K v w') : OpW P (.call { callee := .builtin .copy, args := xs, argTypes := ts }) ty ρ K w :=
  OpW.runBuiltin ha (by simp [builtin, hr]) h
theorem OpW.min2 {k l : IntKind} {a b : Int} {t : Array TypeId} (hx : ev ρ x = .int k a) (hy : ev ρ y = .int l b) (h : K (.int k (if b < a then b else a)) w) :
    OpW P (.call { callee := .builtin .min, args := #[x, y], argTypes := t }) ty ρ K w :=
  OpW.runBuiltin (args := #[.int k a, .int l b]) (by simp [hx, hy]) (by simp [builtin, Builtin.min_, Builtin.min2]) h
theorem OpW.max2 {k l : IntKind} {a b : Int} {t : Array TypeId} (hx : ev ρ x = .int k a) (hy : ev ρ y = .int l b) (h : K (.int k (if b > a then b else a)) w) :
    OpW P (.call { callee := .builtin .max, args := #[x, y], argTypes := t }) ty ρ K w :=
  OpW.runBuiltin (args := #[.int k a, .int l b]) (by simp [hx, hy]) (by simp [builtin, Builtin.max_, Builtin.max2]) h
end
end Go.Lift
