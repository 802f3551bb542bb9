/- Closed facts on the types and functions: written by gen.py (a program of this session). -/
import Derived.Test.YtagkcbbbdlmcjaaLiftDraw
import Derived.Test.YtagkcbbbdlmcjaaProg
set_option linter.unusedVariables false
set_option linter.unusedSimpArgs false
namespace Go.Proofs.Ytagkcbbbdlmcjaa
open Go.Lift
theorem agg_110 : aggT Try.prog 110 = some 512 := by kernel_rfl
theorem agg_114 : aggT Try.prog 114 = some 2 := by kernel_rfl
theorem agg_116 : aggT Try.prog 116 = some 513 := by kernel_rfl
theorem agg_144 : aggT Try.prog 144 = some 2 := by kernel_rfl
theorem agg_27 : aggT Try.prog 27 = some 3 := by kernel_rfl
theorem agg_29 : aggT Try.prog 29 = some 5 := by kernel_rfl
theorem agg_49 : aggT Try.prog 49 = some 5 := by kernel_rfl
theorem agg_52 : aggT Try.prog 52 = some 11 := by kernel_rfl
theorem agg_65 : aggT Try.prog 65 = some 9 := by kernel_rfl
theorem agg_93 : aggT Try.prog 93 = some 5 := by kernel_rfl
theorem arr_110 : arrT Try.prog 110 = some (512, 1) := by kernel_rfl
theorem arr_63 : arrT Try.prog 63 = some (8, 1) := by kernel_rfl
theorem arr_69 : arrT Try.prog 69 = some (8, 1) := by kernel_rfl
theorem arr_81 : arrT Try.prog 81 = some (2, 3) := by kernel_rfl
theorem bsl_39 : byteSl Try.prog 39 = true := by kernel_rfl
theorem fb_13 : Try.f13.body.isNone = false := by kernel_rfl
theorem fb_14 : Try.f14.body.isNone = false := by kernel_rfl
theorem fb_15 : Try.f15.body.isNone = false := by kernel_rfl
theorem fb_16 : Try.f16.body.isNone = false := by kernel_rfl
theorem fb_17 : Try.f17.body.isNone = false := by kernel_rfl
theorem fb_18 : Try.f18.body.isNone = false := by kernel_rfl
theorem fb_19 : Try.f19.body.isNone = false := by kernel_rfl
theorem fb_20 : Try.f20.body.isNone = false := by kernel_rfl
theorem fb_21 : Try.f21.body.isNone = false := by kernel_rfl
theorem fb_22 : Try.f22.body.isNone = false := by kernel_rfl
theorem fb_23 : Try.f23.body.isNone = false := by kernel_rfl
theorem fb_24 : Try.f24.body.isNone = false := by kernel_rfl
theorem fb_25 : Try.f25.body.isNone = false := by kernel_rfl
theorem fb_26 : Try.f26.body.isNone = false := by kernel_rfl
theorem fb_27 : Try.f27.body.isNone = false := by kernel_rfl
theorem fb_28 : Try.f28.body.isNone = false := by kernel_rfl
theorem fb_29 : Try.f29.body.isNone = false := by kernel_rfl
theorem fb_30 : Try.f30.body.isNone = false := by kernel_rfl
theorem fb_31 : Try.f31.body.isNone = false := by kernel_rfl
theorem fb_32 : Try.f32.body.isNone = false := by kernel_rfl
theorem fb_33 : Try.f33.body.isNone = false := by kernel_rfl
theorem fb_34 : Try.f34.body.isNone = false := by kernel_rfl
theorem fb_35 : Try.f35.body.isNone = false := by kernel_rfl
theorem fb_36 : Try.f36.body.isNone = false := by kernel_rfl
theorem fb_37 : Try.f37.body.isNone = false := by kernel_rfl
theorem fb_38 : Try.f38.body.isNone = false := by kernel_rfl
theorem fb_39 : Try.f39.body.isNone = false := by kernel_rfl
theorem fb_40 : Try.f40.body.isNone = false := by kernel_rfl
theorem fb_41 : Try.f41.body.isNone = false := by kernel_rfl
theorem fb_42 : Try.f42.body.isNone = false := by kernel_rfl
theorem fb_43 : Try.f43.body.isNone = false := by kernel_rfl
theorem fb_44 : Try.f44.body.isNone = false := by kernel_rfl
theorem fb_45 : Try.f45.body.isNone = false := by kernel_rfl
theorem fb_46 : Try.f46.body.isNone = false := by kernel_rfl
theorem fb_47 : Try.f47.body.isNone = false := by kernel_rfl
theorem fb_48 : Try.f48.body.isNone = false := by kernel_rfl
theorem fb_49 : Try.f49.body.isNone = false := by kernel_rfl
theorem fb_50 : Try.f50.body.isNone = false := by kernel_rfl
theorem fb_51 : Try.f51.body.isNone = false := by kernel_rfl
theorem fb_52 : Try.f52.body.isNone = false := by kernel_rfl
theorem fb_53 : Try.f53.body.isNone = false := by kernel_rfl
theorem fb_54 : Try.f54.body.isNone = false := by kernel_rfl
theorem fb_55 : Try.f55.body.isNone = false := by kernel_rfl
theorem fb_56 : Try.f56.body.isNone = false := by kernel_rfl
theorem fb_57 : Try.f57.body.isNone = false := by kernel_rfl
theorem fb_58 : Try.f58.body.isNone = false := by kernel_rfl
theorem fb_59 : Try.f59.body.isNone = false := by kernel_rfl
theorem fb_60 : Try.f60.body.isNone = false := by kernel_rfl
theorem fb_61 : Try.f61.body.isNone = false := by kernel_rfl
theorem fb_62 : Try.f62.body.isNone = false := by kernel_rfl
theorem fb_63 : Try.f63.body.isNone = false := by kernel_rfl
theorem fb_64 : Try.f64.body.isNone = false := by kernel_rfl
theorem fb_65 : Try.f65.body.isNone = false := by kernel_rfl
theorem fb_66 : Try.f66.body.isNone = false := by kernel_rfl
theorem fb_67 : Try.f67.body.isNone = false := by kernel_rfl
theorem fb_68 : Try.f68.body.isNone = false := by kernel_rfl
theorem fb_69 : Try.f69.body.isNone = false := by kernel_rfl
theorem fb_70 : Try.f70.body.isNone = false := by kernel_rfl
theorem fb_71 : Try.f71.body.isNone = false := by kernel_rfl
theorem fb_72 : Try.f72.body.isNone = false := by kernel_rfl
theorem fb_73 : Try.f73.body.isNone = false := by kernel_rfl
theorem fb_74 : Try.f74.body.isNone = false := by kernel_rfl
theorem fb_75 : Try.f75.body.isNone = false := by kernel_rfl
theorem fb_76 : Try.f76.body.isNone = false := by kernel_rfl
theorem fb_77 : Try.f77.body.isNone = false := by kernel_rfl
theorem fb_78 : Try.f78.body.isNone = false := by kernel_rfl
theorem fb_79 : Try.f79.body.isNone = false := by kernel_rfl
theorem fb_80 : Try.f80.body.isNone = false := by kernel_rfl
theorem fb_81 : Try.f81.body.isNone = false := by kernel_rfl
theorem fb_82 : Try.f82.body.isNone = false := by kernel_rfl
theorem fb_83 : Try.f83.body.isNone = false := by kernel_rfl
theorem fb_84 : Try.f84.body.isNone = false := by kernel_rfl
theorem fb_85 : Try.f85.body.isNone = false := by kernel_rfl
theorem fb_86 : Try.f86.body.isNone = false := by kernel_rfl
theorem fb_87 : Try.f87.body.isNone = false := by kernel_rfl
theorem field_112_0 : fieldT Try.prog 112 0 = some 0 := by kernel_rfl
theorem field_112_1 : fieldT Try.prog 112 1 = some 512 := by kernel_rfl
theorem field_114_0 : fieldT Try.prog 114 0 = some 0 := by kernel_rfl
theorem field_114_1 : fieldT Try.prog 114 1 = some 1 := by kernel_rfl
theorem field_116_0 : fieldT Try.prog 116 0 = some 0 := by kernel_rfl
theorem field_116_1 : fieldT Try.prog 116 1 = some 1 := by kernel_rfl
theorem field_140_0 : fieldT Try.prog 140 0 = some 0 := by kernel_rfl
theorem field_140_1 : fieldT Try.prog 140 1 = some 1 := by kernel_rfl
theorem field_144_0 : fieldT Try.prog 144 0 = some 0 := by kernel_rfl
theorem field_144_1 : fieldT Try.prog 144 1 = some 1 := by kernel_rfl
theorem field_27_0 : fieldT Try.prog 27 0 = some 0 := by kernel_rfl
theorem field_27_1 : fieldT Try.prog 27 1 = some 1 := by kernel_rfl
theorem field_27_2 : fieldT Try.prog 27 2 = some 2 := by kernel_rfl
theorem field_29_0 : fieldT Try.prog 29 0 = some 0 := by kernel_rfl
theorem field_29_1 : fieldT Try.prog 29 1 = some 1 := by kernel_rfl
theorem field_29_2 : fieldT Try.prog 29 2 = some 2 := by kernel_rfl
theorem field_49_0 : fieldT Try.prog 49 0 = some 0 := by kernel_rfl
theorem field_49_1 : fieldT Try.prog 49 1 = some 1 := by kernel_rfl
theorem field_49_2 : fieldT Try.prog 49 2 = some 2 := by kernel_rfl
theorem field_49_3 : fieldT Try.prog 49 3 = some 3 := by kernel_rfl
theorem field_49_4 : fieldT Try.prog 49 4 = some 4 := by kernel_rfl
theorem field_52_0 : fieldT Try.prog 52 0 = some 0 := by kernel_rfl
theorem field_52_1 : fieldT Try.prog 52 1 = some 5 := by kernel_rfl
theorem field_52_2 : fieldT Try.prog 52 2 = some 6 := by kernel_rfl
theorem field_52_3 : fieldT Try.prog 52 3 = some 7 := by kernel_rfl
theorem field_52_4 : fieldT Try.prog 52 4 = some 8 := by kernel_rfl
theorem field_52_5 : fieldT Try.prog 52 5 = some 9 := by kernel_rfl
theorem field_52_6 : fieldT Try.prog 52 6 = some 10 := by kernel_rfl
theorem field_54_0 : fieldT Try.prog 54 0 = some 0 := by kernel_rfl
theorem field_54_1 : fieldT Try.prog 54 1 = some 1 := by kernel_rfl
theorem field_54_2 : fieldT Try.prog 54 2 = some 2 := by kernel_rfl
theorem field_65_0 : fieldT Try.prog 65 0 = some 0 := by kernel_rfl
theorem field_65_1 : fieldT Try.prog 65 1 = some 1 := by kernel_rfl
theorem field_65_2 : fieldT Try.prog 65 2 = some 2 := by kernel_rfl
theorem field_65_3 : fieldT Try.prog 65 3 = some 3 := by kernel_rfl
theorem field_65_4 : fieldT Try.prog 65 4 = some 4 := by kernel_rfl
theorem field_65_5 : fieldT Try.prog 65 5 = some 5 := by kernel_rfl
theorem field_65_6 : fieldT Try.prog 65 6 = some 8 := by kernel_rfl
theorem field_80_0 : fieldT Try.prog 80 0 = some 0 := by kernel_rfl
theorem field_80_1 : fieldT Try.prog 80 1 = some 1 := by kernel_rfl
theorem field_80_2 : fieldT Try.prog 80 2 = some 2 := by kernel_rfl
theorem field_93_0 : fieldT Try.prog 93 0 = some 0 := by kernel_rfl
theorem field_93_1 : fieldT Try.prog 93 1 = some 1 := by kernel_rfl
theorem field_93_2 : fieldT Try.prog 93 2 = some 2 := by kernel_rfl
theorem field_93_3 : fieldT Try.prog 93 3 = some 3 := by kernel_rfl
theorem field_93_4 : fieldT Try.prog 93 4 = some 4 := by kernel_rfl
theorem field_95_0 : fieldT Try.prog 95 0 = some 0 := by kernel_rfl
theorem field_95_1 : fieldT Try.prog 95 1 = some 1 := by kernel_rfl
theorem field_95_2 : fieldT Try.prog 95 2 = some 2 := by kernel_rfl
theorem field_95_3 : fieldT Try.prog 95 3 = some 3 := by kernel_rfl
theorem field_95_4 : fieldT Try.prog 95 4 = some 4 := by kernel_rfl
theorem field_95_5 : fieldT Try.prog 95 5 = some 5 := by kernel_rfl
theorem field_95_6 : fieldT Try.prog 95 6 = some 6 := by kernel_rfl
theorem fn_13 : decide (Try.f13.name = "runtime.NumGoroutine") = false := by kernel_rfl
theorem fn_14 : decide (Try.f14.name = "runtime.NumGoroutine") = false := by kernel_rfl
theorem fn_15 : decide (Try.f15.name = "runtime.NumGoroutine") = false := by kernel_rfl
theorem fn_16 : decide (Try.f16.name = "runtime.NumGoroutine") = false := by kernel_rfl
theorem fn_17 : decide (Try.f17.name = "runtime.NumGoroutine") = false := by kernel_rfl
theorem fn_18 : decide (Try.f18.name = "runtime.NumGoroutine") = false := by kernel_rfl
theorem fn_19 : decide (Try.f19.name = "runtime.NumGoroutine") = false := by kernel_rfl
theorem fn_20 : decide (Try.f20.name = "runtime.NumGoroutine") = false := by kernel_rfl
theorem fn_21 : decide (Try.f21.name = "runtime.NumGoroutine") = false := by kernel_rfl
theorem fn_22 : decide (Try.f22.name = "runtime.NumGoroutine") = false := by kernel_rfl
theorem fn_23 : decide (Try.f23.name = "runtime.NumGoroutine") = false := by kernel_rfl
theorem fn_24 : decide (Try.f24.name = "runtime.NumGoroutine") = false := by kernel_rfl
theorem fn_25 : decide (Try.f25.name = "runtime.NumGoroutine") = false := by kernel_rfl
theorem fn_26 : decide (Try.f26.name = "runtime.NumGoroutine") = false := by kernel_rfl
theorem fn_27 : decide (Try.f27.name = "runtime.NumGoroutine") = false := by kernel_rfl
theorem fn_28 : decide (Try.f28.name = "runtime.NumGoroutine") = false := by kernel_rfl
theorem fn_29 : decide (Try.f29.name = "runtime.NumGoroutine") = false := by kernel_rfl
theorem fn_30 : decide (Try.f30.name = "runtime.NumGoroutine") = false := by kernel_rfl
theorem fn_31 : decide (Try.f31.name = "runtime.NumGoroutine") = false := by kernel_rfl
theorem fn_32 : decide (Try.f32.name = "runtime.NumGoroutine") = false := by kernel_rfl
theorem fn_33 : decide (Try.f33.name = "runtime.NumGoroutine") = false := by kernel_rfl
theorem fn_34 : decide (Try.f34.name = "runtime.NumGoroutine") = false := by kernel_rfl
theorem fn_35 : decide (Try.f35.name = "runtime.NumGoroutine") = false := by kernel_rfl
theorem fn_36 : decide (Try.f36.name = "runtime.NumGoroutine") = false := by kernel_rfl
theorem fn_37 : decide (Try.f37.name = "runtime.NumGoroutine") = false := by kernel_rfl
theorem fn_38 : decide (Try.f38.name = "runtime.NumGoroutine") = false := by kernel_rfl
theorem fn_39 : decide (Try.f39.name = "runtime.NumGoroutine") = false := by kernel_rfl
theorem fn_40 : decide (Try.f40.name = "runtime.NumGoroutine") = false := by kernel_rfl
theorem fn_41 : decide (Try.f41.name = "runtime.NumGoroutine") = false := by kernel_rfl
theorem fn_42 : decide (Try.f42.name = "runtime.NumGoroutine") = false := by kernel_rfl
theorem fn_43 : decide (Try.f43.name = "runtime.NumGoroutine") = false := by kernel_rfl
theorem fn_44 : decide (Try.f44.name = "runtime.NumGoroutine") = false := by kernel_rfl
theorem fn_45 : decide (Try.f45.name = "runtime.NumGoroutine") = false := by kernel_rfl
theorem fn_46 : decide (Try.f46.name = "runtime.NumGoroutine") = false := by kernel_rfl
theorem fn_47 : decide (Try.f47.name = "runtime.NumGoroutine") = false := by kernel_rfl
theorem fn_48 : decide (Try.f48.name = "runtime.NumGoroutine") = false := by kernel_rfl
theorem fn_49 : decide (Try.f49.name = "runtime.NumGoroutine") = false := by kernel_rfl
theorem fn_50 : decide (Try.f50.name = "runtime.NumGoroutine") = false := by kernel_rfl
theorem fn_51 : decide (Try.f51.name = "runtime.NumGoroutine") = false := by kernel_rfl
theorem fn_52 : decide (Try.f52.name = "runtime.NumGoroutine") = false := by kernel_rfl
theorem fn_53 : decide (Try.f53.name = "runtime.NumGoroutine") = false := by kernel_rfl
theorem fn_54 : decide (Try.f54.name = "runtime.NumGoroutine") = false := by kernel_rfl
theorem fn_55 : decide (Try.f55.name = "runtime.NumGoroutine") = false := by kernel_rfl
theorem fn_56 : decide (Try.f56.name = "runtime.NumGoroutine") = false := by kernel_rfl
theorem fn_57 : decide (Try.f57.name = "runtime.NumGoroutine") = false := by kernel_rfl
theorem fn_58 : decide (Try.f58.name = "runtime.NumGoroutine") = false := by kernel_rfl
theorem fn_59 : decide (Try.f59.name = "runtime.NumGoroutine") = false := by kernel_rfl
theorem fn_60 : decide (Try.f60.name = "runtime.NumGoroutine") = false := by kernel_rfl
theorem fn_61 : decide (Try.f61.name = "runtime.NumGoroutine") = false := by kernel_rfl
theorem fn_62 : decide (Try.f62.name = "runtime.NumGoroutine") = false := by kernel_rfl
theorem fn_63 : decide (Try.f63.name = "runtime.NumGoroutine") = false := by kernel_rfl
theorem fn_64 : decide (Try.f64.name = "runtime.NumGoroutine") = false := by kernel_rfl
theorem fn_65 : decide (Try.f65.name = "runtime.NumGoroutine") = false := by kernel_rfl
theorem fn_66 : decide (Try.f66.name = "runtime.NumGoroutine") = false := by kernel_rfl
theorem fn_67 : decide (Try.f67.name = "runtime.NumGoroutine") = false := by kernel_rfl
theorem fn_68 : decide (Try.f68.name = "runtime.NumGoroutine") = false := by kernel_rfl
theorem fn_69 : decide (Try.f69.name = "runtime.NumGoroutine") = false := by kernel_rfl
theorem fn_70 : decide (Try.f70.name = "runtime.NumGoroutine") = false := by kernel_rfl
theorem fn_71 : decide (Try.f71.name = "runtime.NumGoroutine") = false := by kernel_rfl
theorem fn_72 : decide (Try.f72.name = "runtime.NumGoroutine") = false := by kernel_rfl
theorem fn_73 : decide (Try.f73.name = "runtime.NumGoroutine") = false := by kernel_rfl
theorem fn_74 : decide (Try.f74.name = "runtime.NumGoroutine") = false := by kernel_rfl
theorem fn_75 : decide (Try.f75.name = "runtime.NumGoroutine") = false := by kernel_rfl
theorem fn_76 : decide (Try.f76.name = "runtime.NumGoroutine") = false := by kernel_rfl
theorem fn_77 : decide (Try.f77.name = "runtime.NumGoroutine") = false := by kernel_rfl
theorem fn_78 : decide (Try.f78.name = "runtime.NumGoroutine") = false := by kernel_rfl
theorem fn_79 : decide (Try.f79.name = "runtime.NumGoroutine") = false := by kernel_rfl
theorem fn_80 : decide (Try.f80.name = "runtime.NumGoroutine") = false := by kernel_rfl
theorem fn_81 : decide (Try.f81.name = "runtime.NumGoroutine") = false := by kernel_rfl
theorem fn_82 : decide (Try.f82.name = "runtime.NumGoroutine") = false := by kernel_rfl
theorem fn_83 : decide (Try.f83.name = "runtime.NumGoroutine") = false := by kernel_rfl
theorem fn_84 : decide (Try.f84.name = "runtime.NumGoroutine") = false := by kernel_rfl
theorem fn_85 : decide (Try.f85.name = "runtime.NumGoroutine") = false := by kernel_rfl
theorem fn_86 : decide (Try.f86.name = "runtime.NumGoroutine") = false := by kernel_rfl
theorem fn_87 : decide (Try.f87.name = "runtime.NumGoroutine") = false := by kernel_rfl
theorem int_129 : intT Try.prog 129 = some .u32 := by kernel_rfl
theorem int_25 : intT Try.prog 25 = some .u64 := by kernel_rfl
theorem int_3 : intT Try.prog 3 = some .i64 := by kernel_rfl
theorem int_5 : intT Try.prog 5 = some .u8 := by kernel_rfl
theorem int_66 : intT Try.prog 66 = some .u64 := by kernel_rfl
theorem mixed : Try.prog.follows .mixedOrders = true := by kernel_rfl
theorem mk_39 : mkCells Try.prog 39 = some (5, 1, 1, List.replicate 1 (Value.int .u8 0)) := by kernel_rfl
theorem mk_90 : mkCells Try.prog 90 = some (112, 1024, 1024, List.replicate 1024 (Value.int .u8 0)) := by kernel_rfl
theorem mkz_30 : mkCells Try.prog 30 = some (29, 5, 56, [Value.int .i64 0, Value.slice none 0 0, Value.int .i64 0, Value.int .u64 0, Value.int .i64 0]) := by kernel_rfl
theorem mkz_46 : mkCells Try.prog 46 = some (114, 2, 24, [Value.int .i64 0, str []]) := by kernel_rfl
theorem mkz_47 : mkCells Try.prog 47 = some (27, 3, 24, [Value.int .i64 0, Value.int .u64 0, Value.int .i64 0]) := by kernel_rfl
theorem mkz_91 : mkCells Try.prog 91 = some (116, 513, 520, ([Value.int .i64 0] ++ List.replicate 512 (Value.int .u8 0))) := by kernel_rfl
theorem one_22 : oneT Try.prog 22 = true := by kernel_rfl
theorem one_25 : oneT Try.prog 25 = true := by kernel_rfl
theorem one_3 : oneT Try.prog 3 = true := by kernel_rfl
theorem one_31 : oneT Try.prog 31 = true := by kernel_rfl
theorem one_32 : oneT Try.prog 32 = true := by kernel_rfl
theorem one_35 : oneT Try.prog 35 = true := by kernel_rfl
theorem one_39 : oneT Try.prog 39 = true := by kernel_rfl
theorem one_4 : oneT Try.prog 4 = true := by kernel_rfl
theorem one_45 : oneT Try.prog 45 = true := by kernel_rfl
theorem one_46 : oneT Try.prog 46 = true := by kernel_rfl
theorem one_47 : oneT Try.prog 47 = true := by kernel_rfl
theorem one_5 : oneT Try.prog 5 = true := by kernel_rfl
theorem one_9 : oneT Try.prog 9 = true := by kernel_rfl
theorem one_90 : oneT Try.prog 90 = true := by kernel_rfl
theorem one_91 : oneT Try.prog 91 = true := by kernel_rfl
theorem ptr_126 : ptrT Try.prog 126 = true := by kernel_rfl
theorem ptr_31 : ptrT Try.prog 31 = true := by kernel_rfl
theorem ptr_35 : ptrT Try.prog 35 = true := by kernel_rfl
theorem size_110 : sizeT Try.prog 110 = some 512 := by kernel_rfl
theorem size_114 : sizeT Try.prog 114 = some 2 := by kernel_rfl
theorem size_116 : sizeT Try.prog 116 = some 513 := by kernel_rfl
theorem size_144 : sizeT Try.prog 144 = some 2 := by kernel_rfl
theorem size_25 : sizeT Try.prog 25 = some 1 := by kernel_rfl
theorem size_27 : sizeT Try.prog 27 = some 3 := by kernel_rfl
theorem size_29 : sizeT Try.prog 29 = some 5 := by kernel_rfl
theorem size_3 : sizeT Try.prog 3 = some 1 := by kernel_rfl
theorem size_32 : sizeT Try.prog 32 = some 1 := by kernel_rfl
theorem size_35 : sizeT Try.prog 35 = some 1 := by kernel_rfl
theorem size_39 : sizeT Try.prog 39 = some 1 := by kernel_rfl
theorem size_4 : sizeT Try.prog 4 = some 1 := by kernel_rfl
theorem size_45 : sizeT Try.prog 45 = some 1 := by kernel_rfl
theorem size_46 : sizeT Try.prog 46 = some 1 := by kernel_rfl
theorem size_47 : sizeT Try.prog 47 = some 1 := by kernel_rfl
theorem size_49 : sizeT Try.prog 49 = some 5 := by kernel_rfl
theorem size_5 : sizeT Try.prog 5 = some 1 := by kernel_rfl
theorem size_52 : sizeT Try.prog 52 = some 11 := by kernel_rfl
theorem size_65 : sizeT Try.prog 65 = some 9 := by kernel_rfl
theorem size_9 : sizeT Try.prog 9 = some 1 := by kernel_rfl
theorem size_90 : sizeT Try.prog 90 = some 1 := by kernel_rfl
theorem size_91 : sizeT Try.prog 91 = some 1 := by kernel_rfl
theorem size_93 : sizeT Try.prog 93 = some 5 := by kernel_rfl
theorem slice_22 : sliceT Try.prog 22 = some (39, 1) := by kernel_rfl
theorem slice_30 : sliceT Try.prog 30 = some (29, 5) := by kernel_rfl
theorem slice_39 : sliceT Try.prog 39 = some (5, 1) := by kernel_rfl
theorem slice_45 : sliceT Try.prog 45 = some (9, 1) := by kernel_rfl
theorem slice_46 : sliceT Try.prog 46 = some (114, 2) := by kernel_rfl
theorem slice_47 : sliceT Try.prog 47 = some (27, 3) := by kernel_rfl
theorem slice_61 : sliceT Try.prog 61 = some (65, 9) := by kernel_rfl
theorem slice_90 : sliceT Try.prog 90 = some (112, 1024) := by kernel_rfl
theorem slice_91 : sliceT Try.prog 91 = some (116, 513) := by kernel_rfl
theorem str_9 : strT Try.prog 9 = true := by kernel_rfl
theorem ub_4 : Try.prog.underlying 4 = some .bool := by kernel_rfl
theorem us_9 : Try.prog.underlying 9 = some .string := by kernel_rfl
theorem zero_114 : zeroT Try.prog 114 = some [Value.int .i64 0, str []] := by kernel_rfl
theorem zero_116 : zeroT Try.prog 116 = some ([Value.int .i64 0] ++ List.replicate 512 (Value.int .u8 0)) := by kernel_rfl
theorem zero_144 : zeroT Try.prog 144 = some [str [], Value.int .i64 0] := by kernel_rfl
theorem zero_27 : zeroT Try.prog 27 = some [Value.int .i64 0, Value.int .u64 0, Value.int .i64 0] := by kernel_rfl
theorem zero_29 : zeroT Try.prog 29 = some [Value.int .i64 0, Value.slice none 0 0, Value.int .i64 0, Value.int .u64 0, Value.int .i64 0] := by kernel_rfl
theorem zero_49 : zeroT Try.prog 49 = some [Value.slice none 0 0, Value.slice none 0 0, Value.slice none 0 0, Value.int .i64 0, Value.bool false] := by kernel_rfl
theorem zero_52 : zeroT Try.prog 52 = some [Value.slice none 0 0, Value.slice none 0 0, Value.slice none 0 0, Value.int .i64 0, Value.bool false, Value.int .i64 0, Value.int .i64 0, Value.int .u64 0, str [], Value.int .i64 0, Value.bool false] := by kernel_rfl
theorem zero_63 : zeroT Try.prog 63 = some [str [], str [], str [], str [], str [], str [], str [], str []] := by kernel_rfl
theorem zero_65 : zeroT Try.prog 65 = some [Value.int .i64 0, Value.int .i64 0, Value.int .u8 0, str [], Value.bool false, Value.int .i64 0, Value.int .u64 0, Value.int .i64 0, Value.slice none 0 0] := by kernel_rfl
theorem zero_69 : zeroT Try.prog 69 = some [Value.int .i64 0, Value.int .i64 0, Value.int .i64 0, Value.int .i64 0, Value.int .i64 0, Value.int .i64 0, Value.int .i64 0, Value.int .i64 0] := by kernel_rfl
theorem zero_93 : zeroT Try.prog 93 = some [Value.slice none 0 0, Value.slice none 0 0, Value.slice none 0 0, Value.int .i64 0, Value.bool false] := by kernel_rfl
end Go.Proofs.Ytagkcbbbdlmcjaa
