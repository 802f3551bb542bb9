/- Closed facts on the types and functions: written by gen.py (a program of this session). -/
import Derived.Test.YtmlbmnaknjdmgaaLiftDraw
import Derived.Test.YtmlbmnaknjdmgaaProg
set_option linter.unusedVariables false
set_option linter.unusedSimpArgs false
namespace Go.Proofs.Ytmlbmnaknjdmgaa
open Go.Lift
theorem bsl_25 : byteSl Try.prog 25 = true := by kernel_rfl
theorem fb_10 : Try.f10.body.isNone = false := by kernel_rfl
theorem fb_11 : Try.f11.body.isNone = false := by kernel_rfl
theorem fb_12 : Try.f12.body.isNone = false := by kernel_rfl
theorem fb_13 : Try.f13.body.isNone = false := by kernel_rfl
theorem fb_14 : Try.f14.body.isNone = false := by kernel_rfl
theorem fb_8 : Try.f8.body.isNone = false := by kernel_rfl
theorem fb_9 : Try.f9.body.isNone = false := by kernel_rfl
theorem fn_10 : decide (Try.f10.name = "runtime.NumGoroutine") = false := by kernel_rfl
theorem fn_11 : decide (Try.f11.name = "runtime.NumGoroutine") = false := by kernel_rfl
theorem fn_12 : decide (Try.f12.name = "runtime.NumGoroutine") = false := by kernel_rfl
theorem fn_13 : decide (Try.f13.name = "runtime.NumGoroutine") = false := by kernel_rfl
theorem fn_14 : decide (Try.f14.name = "runtime.NumGoroutine") = false := by kernel_rfl
theorem fn_8 : decide (Try.f8.name = "runtime.NumGoroutine") = false := by kernel_rfl
theorem fn_9 : decide (Try.f9.name = "runtime.NumGoroutine") = false := by kernel_rfl
theorem int_26 : intT Try.prog 26 = some .u32 := by kernel_rfl
theorem int_3 : intT Try.prog 3 = some .i64 := by kernel_rfl
theorem int_36 : intT Try.prog 36 = some .u64 := by kernel_rfl
theorem int_5 : intT Try.prog 5 = some .u8 := by kernel_rfl
theorem mixed : Try.prog.follows .mixedOrders = true := by kernel_rfl
theorem mk_25 : mkCells Try.prog 25 = some (5, 1, 1, List.replicate 1 (Value.int .u8 0)) := by kernel_rfl
theorem one_25 : oneT Try.prog 25 = true := by kernel_rfl
theorem one_5 : oneT Try.prog 5 = true := by kernel_rfl
theorem size_5 : sizeT Try.prog 5 = some 1 := by kernel_rfl
theorem slice_22 : sliceT Try.prog 22 = some (25, 1) := by kernel_rfl
theorem slice_25 : sliceT Try.prog 25 = some (5, 1) := by kernel_rfl
theorem str_9 : strT Try.prog 9 = true := by kernel_rfl
theorem us_9 : Try.prog.underlying 9 = some .string := by kernel_rfl
end Go.Proofs.Ytmlbmnaknjdmgaa
