/-
  No cell of these rows narrows 'for every input' (looked for: loops, veiled, ifaces, maps, wideKeys, modest, calm, conditions, laid).
  DERIVED. THE GIVEN ROWS OF THIS SEAT. 10 by the template 'for every input the law returns true; each argument reads behind the call as it read before'; 0 by the template 'total and deterministic' (their statements: YtagkcbbbdlmcjaaTotals.lean).
  GIVEN WITH THE SEED: the statements are not yours to turn. If you find one false, say at which input.
  Laid BY PROGRAM, IN A SANDBOX (cutbox-rows.mjs): the forced cells as the released guide's own fill.sh prints them over the translation 62acd6295be10c91… (all of the seat's roots in one cut). By AI agents, Wed Nov 11 2026. No macro, syntax, notation, axiom, sorry.
-/
import Derived.Test.YtagkcbbbdlmcjaaChecked
import GoSem.Claim
import GoSem.ClaimJoined
import GoSem.ClaimMapViews
import Derived.JoinedTies
import Derived.KernelRfl
namespace Go.Proofs.Ytagkcbbbdlmcjaa
/- THE CELL 'sum', in the pinned program and in every row, IS THE sha256 OF THE DUMP (.gsa) THAT YtagkcbbbdlmcjaaProg.lean LOADS. Nothing in Lean hashes anything: it is a label: what it is worth is what the hold of that sum in a sandbox is worth. -/
noncomputable def Try.pinned : Pinned := { name := "ytagkcbbbdlmcjaa", sum := "62acd6295be10c919aa591a5f574159d18d78be9f368542e8c47eaa4119948ab", checked := Try.checked }
namespace Rows
def none {H : Type} : Left H := { results := [], args := [] }

/-- 'dowserlaw04.WalRoom': WHATEVER THE INPUT: true; the input reads as it did. -/
def walRoomSpec : ChangeSpec := { name := "walRoom", fn := fun _ => fun
  | [d1, d2] => { results := [.lit (.bool true)], args := [d1, d2] }
  | _ => none }
def walRoomRow : OpenClaim := { program := "ytagkcbbbdlmcjaa", sum := "62acd6295be10c919aa591a5f574159d18d78be9f368542e8c47eaa4119948ab", func := "dowser/dowserlaw04.WalRoom", spec := "walRoom", recurses := true, apart := false }
def WalRoomSaid : Prop := walRoomRow.holds Try.pinned (OpenSpec.ofChange walRoomSpec)

/-- ITS FALSE NEIGHBOUR: 'it returns false'. Refute it at one input. -/
def walRoomWrong : ChangeSpec := { name := "walRoom", fn := fun _ => fun
  | [d1, d2] => { results := [.lit (.bool false)], args := [d1, d2] }
  | _ => none }
def WalRoomWrongFalsely : Prop := walRoomRow.holds Try.pinned (OpenSpec.ofChange walRoomWrong)

/-- 'dowserlaw04.WalPlays': WHATEVER THE INPUT: true; the input reads as it did. -/
def walPlaysSpec : ChangeSpec := { name := "walPlays", fn := fun _ => fun
  | [d1, d2, d3] => { results := [.lit (.bool true)], args := [d1, d2, d3] }
  | _ => none }
def walPlaysRow : OpenClaim := { program := "ytagkcbbbdlmcjaa", sum := "62acd6295be10c919aa591a5f574159d18d78be9f368542e8c47eaa4119948ab", func := "dowser/dowserlaw04.WalPlays", spec := "walPlays", recurses := true, apart := false }
def WalPlaysSaid : Prop := walPlaysRow.holds Try.pinned (OpenSpec.ofChange walPlaysSpec)

/-- ITS FALSE NEIGHBOUR: 'it returns false'. Refute it at one input. -/
def walPlaysWrong : ChangeSpec := { name := "walPlays", fn := fun _ => fun
  | [d1, d2, d3] => { results := [.lit (.bool false)], args := [d1, d2, d3] }
  | _ => none }
def WalPlaysWrongFalsely : Prop := walPlaysRow.holds Try.pinned (OpenSpec.ofChange walPlaysWrong)

/-- 'dowserlaw03.DiskSure': WHATEVER THE INPUT: true; the input reads as it did. -/
def diskSureSpec : ChangeSpec := { name := "diskSure", fn := fun _ => fun
  | [d1, d2, d3] => { results := [.lit (.bool true)], args := [d1, d2, d3] }
  | _ => none }
def diskSureRow : OpenClaim := { program := "ytagkcbbbdlmcjaa", sum := "62acd6295be10c919aa591a5f574159d18d78be9f368542e8c47eaa4119948ab", func := "dowser/dowserlaw03.DiskSure", spec := "diskSure", apart := false }
def DiskSureSaid : Prop := diskSureRow.holds Try.pinned (OpenSpec.ofChange diskSureSpec)

/-- ITS FALSE NEIGHBOUR: 'it returns false'. Refute it at one input. -/
def diskSureWrong : ChangeSpec := { name := "diskSure", fn := fun _ => fun
  | [d1, d2, d3] => { results := [.lit (.bool false)], args := [d1, d2, d3] }
  | _ => none }
def DiskSureWrongFalsely : Prop := diskSureRow.holds Try.pinned (OpenSpec.ofChange diskSureWrong)

/-- 'dowserlaw03.DiskWhole': WHATEVER THE INPUT: true; the input reads as it did. -/
def diskWholeSpec : ChangeSpec := { name := "diskWhole", fn := fun _ => fun
  | [d1, d2] => { results := [.lit (.bool true)], args := [d1, d2] }
  | _ => none }
def diskWholeRow : OpenClaim := { program := "ytagkcbbbdlmcjaa", sum := "62acd6295be10c919aa591a5f574159d18d78be9f368542e8c47eaa4119948ab", func := "dowser/dowserlaw03.DiskWhole", spec := "diskWhole", apart := false }
def DiskWholeSaid : Prop := diskWholeRow.holds Try.pinned (OpenSpec.ofChange diskWholeSpec)

/-- ITS FALSE NEIGHBOUR: 'it returns false'. Refute it at one input. -/
def diskWholeWrong : ChangeSpec := { name := "diskWhole", fn := fun _ => fun
  | [d1, d2] => { results := [.lit (.bool false)], args := [d1, d2] }
  | _ => none }
def DiskWholeWrongFalsely : Prop := diskWholeRow.holds Try.pinned (OpenSpec.ofChange diskWholeWrong)

/-- 'dowserlaw03.DiskFalls': WHATEVER THE INPUT: true; the input reads as it did. -/
def diskFallsSpec : ChangeSpec := { name := "diskFalls", fn := fun _ => fun
  | [d1, d2, d3] => { results := [.lit (.bool true)], args := [d1, d2, d3] }
  | _ => none }
def diskFallsRow : OpenClaim := { program := "ytagkcbbbdlmcjaa", sum := "62acd6295be10c919aa591a5f574159d18d78be9f368542e8c47eaa4119948ab", func := "dowser/dowserlaw03.DiskFalls", spec := "diskFalls", apart := false }
def DiskFallsSaid : Prop := diskFallsRow.holds Try.pinned (OpenSpec.ofChange diskFallsSpec)

/-- ITS FALSE NEIGHBOUR: 'it returns false'. Refute it at one input. -/
def diskFallsWrong : ChangeSpec := { name := "diskFalls", fn := fun _ => fun
  | [d1, d2, d3] => { results := [.lit (.bool false)], args := [d1, d2, d3] }
  | _ => none }
def DiskFallsWrongFalsely : Prop := diskFallsRow.holds Try.pinned (OpenSpec.ofChange diskFallsWrong)

/-- 'dowserlaw03.DiskPlays': WHATEVER THE INPUT: true; the input reads as it did. -/
def diskPlaysSpec : ChangeSpec := { name := "diskPlays", fn := fun _ => fun
  | [d1, d2] => { results := [.lit (.bool true)], args := [d1, d2] }
  | _ => none }
def diskPlaysRow : OpenClaim := { program := "ytagkcbbbdlmcjaa", sum := "62acd6295be10c919aa591a5f574159d18d78be9f368542e8c47eaa4119948ab", func := "dowser/dowserlaw03.DiskPlays", spec := "diskPlays", apart := false }
def DiskPlaysSaid : Prop := diskPlaysRow.holds Try.pinned (OpenSpec.ofChange diskPlaysSpec)

/-- ITS FALSE NEIGHBOUR: 'it returns false'. Refute it at one input. -/
def diskPlaysWrong : ChangeSpec := { name := "diskPlays", fn := fun _ => fun
  | [d1, d2] => { results := [.lit (.bool false)], args := [d1, d2] }
  | _ => none }
def DiskPlaysWrongFalsely : Prop := diskPlaysRow.holds Try.pinned (OpenSpec.ofChange diskPlaysWrong)

/-- 'dowserlaw03.DiskArgs': WHATEVER THE INPUT: true; the input reads as it did. -/
def diskArgsSpec : ChangeSpec := { name := "diskArgs", fn := fun _ => fun
  | [d1, d2] => { results := [.lit (.bool true)], args := [d1, d2] }
  | _ => none }
def diskArgsRow : OpenClaim := { program := "ytagkcbbbdlmcjaa", sum := "62acd6295be10c919aa591a5f574159d18d78be9f368542e8c47eaa4119948ab", func := "dowser/dowserlaw03.DiskArgs", spec := "diskArgs", apart := false }
def DiskArgsSaid : Prop := diskArgsRow.holds Try.pinned (OpenSpec.ofChange diskArgsSpec)

/-- ITS FALSE NEIGHBOUR: 'it returns false'. Refute it at one input. -/
def diskArgsWrong : ChangeSpec := { name := "diskArgs", fn := fun _ => fun
  | [d1, d2] => { results := [.lit (.bool false)], args := [d1, d2] }
  | _ => none }
def DiskArgsWrongFalsely : Prop := diskArgsRow.holds Try.pinned (OpenSpec.ofChange diskArgsWrong)

/-- 'dowserlaw04.WalOpens': WHATEVER THE INPUT: true; the input reads as it did. -/
def walOpensSpec : ChangeSpec := { name := "walOpens", fn := fun _ => fun
  | [d1, d2, d3] => { results := [.lit (.bool true)], args := [d1, d2, d3] }
  | _ => none }
def walOpensRow : OpenClaim := { program := "ytagkcbbbdlmcjaa", sum := "62acd6295be10c919aa591a5f574159d18d78be9f368542e8c47eaa4119948ab", func := "dowser/dowserlaw04.WalOpens", spec := "walOpens", recurses := true, apart := false }
def WalOpensSaid : Prop := walOpensRow.holds Try.pinned (OpenSpec.ofChange walOpensSpec)

/-- ITS FALSE NEIGHBOUR: 'it returns false'. Refute it at one input. -/
def walOpensWrong : ChangeSpec := { name := "walOpens", fn := fun _ => fun
  | [d1, d2, d3] => { results := [.lit (.bool false)], args := [d1, d2, d3] }
  | _ => none }
def WalOpensWrongFalsely : Prop := walOpensRow.holds Try.pinned (OpenSpec.ofChange walOpensWrong)

/-- 'dowserlaw04.WalAtomic': WHATEVER THE INPUT: true; the input reads as it did. -/
def walAtomicSpec : ChangeSpec := { name := "walAtomic", fn := fun _ => fun
  | [d1, d2, d3] => { results := [.lit (.bool true)], args := [d1, d2, d3] }
  | _ => none }
def walAtomicRow : OpenClaim := { program := "ytagkcbbbdlmcjaa", sum := "62acd6295be10c919aa591a5f574159d18d78be9f368542e8c47eaa4119948ab", func := "dowser/dowserlaw04.WalAtomic", spec := "walAtomic", apart := false }
def WalAtomicSaid : Prop := walAtomicRow.holds Try.pinned (OpenSpec.ofChange walAtomicSpec)

/-- ITS FALSE NEIGHBOUR: 'it returns false'. Refute it at one input. -/
def walAtomicWrong : ChangeSpec := { name := "walAtomic", fn := fun _ => fun
  | [d1, d2, d3] => { results := [.lit (.bool false)], args := [d1, d2, d3] }
  | _ => none }
def WalAtomicWrongFalsely : Prop := walAtomicRow.holds Try.pinned (OpenSpec.ofChange walAtomicWrong)

/-- 'dowserlaw04.WalArgs': WHATEVER THE INPUT: true; the input reads as it did. -/
def walArgsSpec : ChangeSpec := { name := "walArgs", fn := fun _ => fun
  | [d1, d2, d3] => { results := [.lit (.bool true)], args := [d1, d2, d3] }
  | _ => none }
def walArgsRow : OpenClaim := { program := "ytagkcbbbdlmcjaa", sum := "62acd6295be10c919aa591a5f574159d18d78be9f368542e8c47eaa4119948ab", func := "dowser/dowserlaw04.WalArgs", spec := "walArgs", apart := false }
def WalArgsSaid : Prop := walArgsRow.holds Try.pinned (OpenSpec.ofChange walArgsSpec)

/-- ITS FALSE NEIGHBOUR: 'it returns false'. Refute it at one input. -/
def walArgsWrong : ChangeSpec := { name := "walArgs", fn := fun _ => fun
  | [d1, d2, d3] => { results := [.lit (.bool false)], args := [d1, d2, d3] }
  | _ => none }
def WalArgsWrongFalsely : Prop := walArgsRow.holds Try.pinned (OpenSpec.ofChange walArgsWrong)

/- THE SECOND FORM. 'bulk': how many values and letters a reading holds, each counted each time it is reached (what is shared counts as often as it is met; a slice's spare places count too). A statement '..UptoSaid' is the law's where the arguments, and the package variables that the reading takes, are together of bulk at most 1048576: NARROWER than '..Said'. Prove '..Said' where nothing that the law and all that it calls make is longer than what came in: it says more and counts as full. Else prove '..UptoSaid'. A law counts once. -/
mutual
def uptoBulk {H : Type} : DataW H → Nat
  | .lit (.string bytes) => bytes.length + 1
  | .lit _ => 1
  | .nil => 1
  | .ptr d => uptoBulk d + 1
  | .slice elems spare => uptoBulkAll elems + uptoBulkAll spare + 1
  | .agg parts => uptoBulkAll parts + 1
  | .iface _ d => uptoBulk d + 1
  | .map entries => uptoBulkEntries entries + 1
  | .held _ => 1
def uptoBulkAll {H : Type} : List (DataW H) → Nat
  | [] => 0
  | d :: r => uptoBulk d + uptoBulkAll r
def uptoBulkEntries {H : Type} : List (Lit × DataW H) → Nat
  | [] => 0
  | x :: r => uptoBulkEntry x + uptoBulkEntries r
def uptoBulkEntry {H : Type} : Lit × DataW H → Nat
  | (.string bytes, d) => bytes.length + uptoBulk d + 1
  | (_, d) => uptoBulk d + 1
 end
def uptoSmall : (H : Type) → List (DataW H) → Bool := fun _ ds => decide (uptoBulkAll ds ≤ 1048576)
def OpenSpec.upto (s : _root_.Go.ChangeSpec) : _root_.Go.OpenSpec := { _root_.Go.OpenSpec.ofChange s with cond := some uptoSmall }

/-- 'dowserlaw04.WalRoom', WHERE WHAT IT READS IS OF BULK AT MOST 1048576: true; the input reads as it did. -/
def walRoomUptoRow : OpenClaim := { program := "ytagkcbbbdlmcjaa", sum := "62acd6295be10c919aa591a5f574159d18d78be9f368542e8c47eaa4119948ab", func := "dowser/dowserlaw04.WalRoom", spec := "walRoom", recurses := true, apart := false, narrowed := true }
def WalRoomUptoSaid : Prop := walRoomUptoRow.holds Try.pinned (OpenSpec.upto walRoomSpec)

/-- 'dowserlaw04.WalPlays', WHERE WHAT IT READS IS OF BULK AT MOST 1048576: true; the input reads as it did. -/
def walPlaysUptoRow : OpenClaim := { program := "ytagkcbbbdlmcjaa", sum := "62acd6295be10c919aa591a5f574159d18d78be9f368542e8c47eaa4119948ab", func := "dowser/dowserlaw04.WalPlays", spec := "walPlays", recurses := true, apart := false, narrowed := true }
def WalPlaysUptoSaid : Prop := walPlaysUptoRow.holds Try.pinned (OpenSpec.upto walPlaysSpec)

/-- 'dowserlaw03.DiskSure', WHERE WHAT IT READS IS OF BULK AT MOST 1048576: true; the input reads as it did. -/
def diskSureUptoRow : OpenClaim := { program := "ytagkcbbbdlmcjaa", sum := "62acd6295be10c919aa591a5f574159d18d78be9f368542e8c47eaa4119948ab", func := "dowser/dowserlaw03.DiskSure", spec := "diskSure", apart := false, narrowed := true }
def DiskSureUptoSaid : Prop := diskSureUptoRow.holds Try.pinned (OpenSpec.upto diskSureSpec)

/-- 'dowserlaw03.DiskWhole', WHERE WHAT IT READS IS OF BULK AT MOST 1048576: true; the input reads as it did. -/
def diskWholeUptoRow : OpenClaim := { program := "ytagkcbbbdlmcjaa", sum := "62acd6295be10c919aa591a5f574159d18d78be9f368542e8c47eaa4119948ab", func := "dowser/dowserlaw03.DiskWhole", spec := "diskWhole", apart := false, narrowed := true }
def DiskWholeUptoSaid : Prop := diskWholeUptoRow.holds Try.pinned (OpenSpec.upto diskWholeSpec)

/-- 'dowserlaw03.DiskFalls', WHERE WHAT IT READS IS OF BULK AT MOST 1048576: true; the input reads as it did. -/
def diskFallsUptoRow : OpenClaim := { program := "ytagkcbbbdlmcjaa", sum := "62acd6295be10c919aa591a5f574159d18d78be9f368542e8c47eaa4119948ab", func := "dowser/dowserlaw03.DiskFalls", spec := "diskFalls", apart := false, narrowed := true }
def DiskFallsUptoSaid : Prop := diskFallsUptoRow.holds Try.pinned (OpenSpec.upto diskFallsSpec)

/-- 'dowserlaw03.DiskPlays', WHERE WHAT IT READS IS OF BULK AT MOST 1048576: true; the input reads as it did. -/
def diskPlaysUptoRow : OpenClaim := { program := "ytagkcbbbdlmcjaa", sum := "62acd6295be10c919aa591a5f574159d18d78be9f368542e8c47eaa4119948ab", func := "dowser/dowserlaw03.DiskPlays", spec := "diskPlays", apart := false, narrowed := true }
def DiskPlaysUptoSaid : Prop := diskPlaysUptoRow.holds Try.pinned (OpenSpec.upto diskPlaysSpec)

/-- 'dowserlaw03.DiskArgs', WHERE WHAT IT READS IS OF BULK AT MOST 1048576: true; the input reads as it did. -/
def diskArgsUptoRow : OpenClaim := { program := "ytagkcbbbdlmcjaa", sum := "62acd6295be10c919aa591a5f574159d18d78be9f368542e8c47eaa4119948ab", func := "dowser/dowserlaw03.DiskArgs", spec := "diskArgs", apart := false, narrowed := true }
def DiskArgsUptoSaid : Prop := diskArgsUptoRow.holds Try.pinned (OpenSpec.upto diskArgsSpec)

/-- 'dowserlaw04.WalOpens', WHERE WHAT IT READS IS OF BULK AT MOST 1048576: true; the input reads as it did. -/
def walOpensUptoRow : OpenClaim := { program := "ytagkcbbbdlmcjaa", sum := "62acd6295be10c919aa591a5f574159d18d78be9f368542e8c47eaa4119948ab", func := "dowser/dowserlaw04.WalOpens", spec := "walOpens", recurses := true, apart := false, narrowed := true }
def WalOpensUptoSaid : Prop := walOpensUptoRow.holds Try.pinned (OpenSpec.upto walOpensSpec)

/-- 'dowserlaw04.WalAtomic', WHERE WHAT IT READS IS OF BULK AT MOST 1048576: true; the input reads as it did. -/
def walAtomicUptoRow : OpenClaim := { program := "ytagkcbbbdlmcjaa", sum := "62acd6295be10c919aa591a5f574159d18d78be9f368542e8c47eaa4119948ab", func := "dowser/dowserlaw04.WalAtomic", spec := "walAtomic", apart := false, narrowed := true }
def WalAtomicUptoSaid : Prop := walAtomicUptoRow.holds Try.pinned (OpenSpec.upto walAtomicSpec)

/-- 'dowserlaw04.WalArgs', WHERE WHAT IT READS IS OF BULK AT MOST 1048576: true; the input reads as it did. -/
def walArgsUptoRow : OpenClaim := { program := "ytagkcbbbdlmcjaa", sum := "62acd6295be10c919aa591a5f574159d18d78be9f368542e8c47eaa4119948ab", func := "dowser/dowserlaw04.WalArgs", spec := "walArgs", apart := false, narrowed := true }
def WalArgsUptoSaid : Prop := walArgsUptoRow.holds Try.pinned (OpenSpec.upto walArgsSpec)

end Rows
end Go.Proofs.Ytagkcbbbdlmcjaa
