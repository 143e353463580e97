/- Facts about the program's types. -/
import Derived.Test.YtmanijpmkeheeaaProg
import Derived.Test.YtmanijpmkeheeaaGA
namespace Go.Proofs.Ytmanijpmkeheeaa
open Go.RowKit
@[go_sem] theorem tagg_2 : tagg Try.prog 2 = some false := by kernel_rfl
@[go_sem] theorem tsz_2 : tsz Try.prog 2 = some 1 := by kernel_rfl
@[go_sem] theorem tby_2 : tby Try.prog 2 = some 8 := by kernel_rfl
@[go_sem] theorem und_2 : Try.prog.underlying 2 = some (.int .i64) := by kernel_rfl
@[go_sem] theorem zac_2 : zeroAC Try.prog 2 = some [.d (.sc (.int .i64 0))] := by kernel_rfl
@[go_sem] theorem tzero_2 : tzero Try.prog 2 = some [.int .i64 0] := by kernel_rfl
@[go_sem] theorem tagg_3 : tagg Try.prog 3 = some false := by kernel_rfl
@[go_sem] theorem tsz_3 : tsz Try.prog 3 = some 1 := by kernel_rfl
@[go_sem] theorem tby_3 : tby Try.prog 3 = some 8 := by kernel_rfl
@[go_sem] theorem und_3 : Try.prog.underlying 3 = some (.int .i64) := by kernel_rfl
@[go_sem] theorem zac_3 : zeroAC Try.prog 3 = some [.d (.sc (.int .i64 0))] := by kernel_rfl
@[go_sem] theorem tzero_3 : tzero Try.prog 3 = some [.int .i64 0] := by kernel_rfl
@[go_sem] theorem tagg_4 : tagg Try.prog 4 = some false := by kernel_rfl
@[go_sem] theorem tsz_4 : tsz Try.prog 4 = some 1 := by kernel_rfl
@[go_sem] theorem tby_4 : tby Try.prog 4 = some 1 := by kernel_rfl
@[go_sem] theorem und_4 : Try.prog.underlying 4 = some .bool := by kernel_rfl
@[go_sem] theorem zac_4 : zeroAC Try.prog 4 = some [.d (.sc (.bool false))] := by kernel_rfl
@[go_sem] theorem tzero_4 : tzero Try.prog 4 = some [.bool false] := by kernel_rfl
@[go_sem] theorem tagg_5 : tagg Try.prog 5 = some false := by kernel_rfl
@[go_sem] theorem tsz_5 : tsz Try.prog 5 = some 1 := by kernel_rfl
@[go_sem] theorem tby_5 : tby Try.prog 5 = some 1 := by kernel_rfl
@[go_sem] theorem und_5 : Try.prog.underlying 5 = some (.int .u8) := by kernel_rfl
@[go_sem] theorem zac_5 : zeroAC Try.prog 5 = some [.d (.sc (.int .u8 0))] := by kernel_rfl
@[go_sem] theorem tzero_5 : tzero Try.prog 5 = some [.int .u8 0] := by kernel_rfl
@[go_sem] theorem tagg_6 : tagg Try.prog 6 = some false := by kernel_rfl
@[go_sem] theorem tsz_6 : tsz Try.prog 6 = some 1 := by kernel_rfl
@[go_sem] theorem tby_6 : tby Try.prog 6 = some 1 := by kernel_rfl
@[go_sem] theorem und_6 : Try.prog.underlying 6 = some (.int .u8) := by kernel_rfl
@[go_sem] theorem zac_6 : zeroAC Try.prog 6 = some [.d (.sc (.int .u8 0))] := by kernel_rfl
@[go_sem] theorem tzero_6 : tzero Try.prog 6 = some [.int .u8 0] := by kernel_rfl
@[go_sem] theorem tagg_7 : tagg Try.prog 7 = some true := by kernel_rfl
@[go_sem] theorem tsz_7 : tsz Try.prog 7 = some 4 := by kernel_rfl
@[go_sem] theorem tby_7 : tby Try.prog 7 = some 24 := by kernel_rfl
@[go_sem] theorem zac_7 : zeroAC Try.prog 7 = some [.d (.sc (.int .i64 0)), .d (.sc (.int .i64 0)), .d (.sc (.bool false)), .d (.sc (.int .u8 0))] := by kernel_rfl
@[go_sem] theorem tzero_7 : tzero Try.prog 7 = some [.int .i64 0, .int .i64 0, .bool false, .int .u8 0] := by kernel_rfl
@[go_sem] theorem tpl_7 : tpl Try.prog 7 = true := by kernel_rfl
@[go_sem] theorem tfl_7_0 : tfl Try.prog 7 0 = some (0, 1, false) := by kernel_rfl
@[go_sem] theorem tfl_7_1 : tfl Try.prog 7 1 = some (1, 1, false) := by kernel_rfl
@[go_sem] theorem tfl_7_2 : tfl Try.prog 7 2 = some (2, 1, false) := by kernel_rfl
@[go_sem] theorem tfl_7_3 : tfl Try.prog 7 3 = some (3, 1, false) := by kernel_rfl
@[go_sem] theorem tagg_8 : tagg Try.prog 8 = some true := by kernel_rfl
@[go_sem] theorem tsz_8 : tsz Try.prog 8 = some 4 := by kernel_rfl
@[go_sem] theorem tby_8 : tby Try.prog 8 = some 24 := by kernel_rfl
@[go_sem] theorem zac_8 : zeroAC Try.prog 8 = some [.d (.sc (.int .i64 0)), .d (.sc (.int .i64 0)), .d (.sc (.bool false)), .d (.sc (.int .u8 0))] := by kernel_rfl
@[go_sem] theorem tzero_8 : tzero Try.prog 8 = some [.int .i64 0, .int .i64 0, .bool false, .int .u8 0] := by kernel_rfl
@[go_sem] theorem tpl_8 : tpl Try.prog 8 = true := by kernel_rfl
@[go_sem] theorem tfl_8_0 : tfl Try.prog 8 0 = some (0, 1, false) := by kernel_rfl
@[go_sem] theorem tfl_8_1 : tfl Try.prog 8 1 = some (1, 1, false) := by kernel_rfl
@[go_sem] theorem tfl_8_2 : tfl Try.prog 8 2 = some (2, 1, false) := by kernel_rfl
@[go_sem] theorem tfl_8_3 : tfl Try.prog 8 3 = some (3, 1, false) := by kernel_rfl
@[go_sem] theorem tagg_9 : tagg Try.prog 9 = some false := by kernel_rfl
@[go_sem] theorem tsz_9 : tsz Try.prog 9 = some 1 := by kernel_rfl
@[go_sem] theorem tby_9 : tby Try.prog 9 = some 16 := by kernel_rfl
@[go_sem] theorem und_9 : Try.prog.underlying 9 = some .string := by kernel_rfl
@[go_sem] theorem zac_9 : zeroAC Try.prog 9 = some [.d (.sc (.string ByteArray.empty))] := by kernel_rfl
@[go_sem] theorem tzero_9 : tzero Try.prog 9 = some [.string ByteArray.empty] := by kernel_rfl
@[go_sem] theorem tagg_10 : tagg Try.prog 10 = some false := by kernel_rfl
@[go_sem] theorem tsz_10 : tsz Try.prog 10 = some 1 := by kernel_rfl
@[go_sem] theorem tby_10 : tby Try.prog 10 = some 16 := by kernel_rfl
@[go_sem] theorem und_10 : Try.prog.underlying 10 = some .string := by kernel_rfl
@[go_sem] theorem zac_10 : zeroAC Try.prog 10 = some [.d (.sc (.string ByteArray.empty))] := by kernel_rfl
@[go_sem] theorem tzero_10 : tzero Try.prog 10 = some [.string ByteArray.empty] := by kernel_rfl
@[go_sem] theorem tagg_11 : tagg Try.prog 11 = some false := by kernel_rfl
@[go_sem] theorem tsz_11 : tsz Try.prog 11 = some 1 := by kernel_rfl
@[go_sem] theorem tby_11 : tby Try.prog 11 = some 16 := by kernel_rfl
@[go_sem] theorem und_11 : Try.prog.underlying 11 = some .string := by kernel_rfl
@[go_sem] theorem zac_11 : zeroAC Try.prog 11 = some [.d (.sc (.string ByteArray.empty))] := by kernel_rfl
@[go_sem] theorem tzero_11 : tzero Try.prog 11 = some [.string ByteArray.empty] := by kernel_rfl
@[go_sem] theorem tagg_12 : tagg Try.prog 12 = some false := by kernel_rfl
@[go_sem] theorem tsz_12 : tsz Try.prog 12 = some 1 := by kernel_rfl
@[go_sem] theorem tby_12 : tby Try.prog 12 = some 8 := by kernel_rfl
@[go_sem] theorem und_12 : Try.prog.underlying 12 = some (.int .u64) := by kernel_rfl
@[go_sem] theorem zac_12 : zeroAC Try.prog 12 = some [.d (.sc (.int .u64 0))] := by kernel_rfl
@[go_sem] theorem tzero_12 : tzero Try.prog 12 = some [.int .u64 0] := by kernel_rfl
@[go_sem] theorem tagg_13 : tagg Try.prog 13 = some true := by kernel_rfl
@[go_sem] theorem tsz_13 : tsz Try.prog 13 = some 2 := by kernel_rfl
@[go_sem] theorem tby_13 : tby Try.prog 13 = some 24 := by kernel_rfl
@[go_sem] theorem zac_13 : zeroAC Try.prog 13 = some [.d (.sc (.string ByteArray.empty)), .d (.sc (.int .u64 0))] := by kernel_rfl
@[go_sem] theorem tzero_13 : tzero Try.prog 13 = some [.string ByteArray.empty, .int .u64 0] := by kernel_rfl
@[go_sem] theorem tpl_13 : tpl Try.prog 13 = true := by kernel_rfl
@[go_sem] theorem tfl_13_0 : tfl Try.prog 13 0 = some (0, 1, false) := by kernel_rfl
@[go_sem] theorem tfl_13_1 : tfl Try.prog 13 1 = some (1, 1, false) := by kernel_rfl
@[go_sem] theorem tagg_14 : tagg Try.prog 14 = some true := by kernel_rfl
@[go_sem] theorem tsz_14 : tsz Try.prog 14 = some 2 := by kernel_rfl
@[go_sem] theorem tby_14 : tby Try.prog 14 = some 24 := by kernel_rfl
@[go_sem] theorem zac_14 : zeroAC Try.prog 14 = some [.d (.sc (.string ByteArray.empty)), .d (.sc (.int .u64 0))] := by kernel_rfl
@[go_sem] theorem tzero_14 : tzero Try.prog 14 = some [.string ByteArray.empty, .int .u64 0] := by kernel_rfl
@[go_sem] theorem tpl_14 : tpl Try.prog 14 = true := by kernel_rfl
@[go_sem] theorem tfl_14_0 : tfl Try.prog 14 0 = some (0, 1, false) := by kernel_rfl
@[go_sem] theorem tfl_14_1 : tfl Try.prog 14 1 = some (1, 1, false) := by kernel_rfl
@[go_sem] theorem tagg_18 : tagg Try.prog 18 = some true := by kernel_rfl
@[go_sem] theorem tsz_18 : tsz Try.prog 18 = some 1 := by kernel_rfl
@[go_sem] theorem tby_18 : tby Try.prog 18 = some 8 := by kernel_rfl
@[go_sem] theorem tagg_19 : tagg Try.prog 19 = some true := by kernel_rfl
@[go_sem] theorem tsz_19 : tsz Try.prog 19 = some 1 := by kernel_rfl
@[go_sem] theorem tby_19 : tby Try.prog 19 = some 8 := by kernel_rfl
@[go_sem] theorem tagg_21 : tagg Try.prog 21 = some false := by kernel_rfl
@[go_sem] theorem tsz_21 : tsz Try.prog 21 = some 1 := by kernel_rfl
@[go_sem] theorem tby_21 : tby Try.prog 21 = some 4 := by kernel_rfl
@[go_sem] theorem und_21 : Try.prog.underlying 21 = some (.int .i32) := by kernel_rfl
@[go_sem] theorem zac_21 : zeroAC Try.prog 21 = some [.d (.sc (.int .i32 0))] := by kernel_rfl
@[go_sem] theorem tzero_21 : tzero Try.prog 21 = some [.int .i32 0] := by kernel_rfl
@[go_sem] theorem tagg_22 : tagg Try.prog 22 = some false := by kernel_rfl
@[go_sem] theorem tsz_22 : tsz Try.prog 22 = some 1 := by kernel_rfl
@[go_sem] theorem tby_22 : tby Try.prog 22 = some 24 := by kernel_rfl
@[go_sem] theorem zac_22 : zeroAC Try.prog 22 = some [.nil] := by kernel_rfl
@[go_sem] theorem tzero_22 : tzero Try.prog 22 = some [.slice none 0 0] := by kernel_rfl
@[go_sem] theorem tel_22 : tel Try.prog 22 = some (89, 3) := by kernel_rfl
@[go_sem] theorem tagg_23 : tagg Try.prog 23 = some true := by kernel_rfl
@[go_sem] theorem tsz_23 : tsz Try.prog 23 = some 3 := by kernel_rfl
@[go_sem] theorem tby_23 : tby Try.prog 23 = some 40 := by kernel_rfl
@[go_sem] theorem zac_23 : zeroAC Try.prog 23 = some [.d (.sc (.int .i64 0)), .d (.sc (.int .i64 0)), .nil] := by kernel_rfl
@[go_sem] theorem tzero_23 : tzero Try.prog 23 = some [.int .i64 0, .int .i64 0, .slice none 0 0] := by kernel_rfl
@[go_sem] theorem tpl_23 : tpl Try.prog 23 = true := by kernel_rfl
@[go_sem] theorem tfl_23_0 : tfl Try.prog 23 0 = some (0, 1, false) := by kernel_rfl
@[go_sem] theorem tfl_23_1 : tfl Try.prog 23 1 = some (1, 1, false) := by kernel_rfl
@[go_sem] theorem tfl_23_2 : tfl Try.prog 23 2 = some (2, 1, false) := by kernel_rfl
@[go_sem] theorem tagg_24 : tagg Try.prog 24 = some true := by kernel_rfl
@[go_sem] theorem tsz_24 : tsz Try.prog 24 = some 3 := by kernel_rfl
@[go_sem] theorem tby_24 : tby Try.prog 24 = some 40 := by kernel_rfl
@[go_sem] theorem zac_24 : zeroAC Try.prog 24 = some [.d (.sc (.int .i64 0)), .d (.sc (.int .i64 0)), .nil] := by kernel_rfl
@[go_sem] theorem tzero_24 : tzero Try.prog 24 = some [.int .i64 0, .int .i64 0, .slice none 0 0] := by kernel_rfl
@[go_sem] theorem tpl_24 : tpl Try.prog 24 = true := by kernel_rfl
@[go_sem] theorem tfl_24_0 : tfl Try.prog 24 0 = some (0, 1, false) := by kernel_rfl
@[go_sem] theorem tfl_24_1 : tfl Try.prog 24 1 = some (1, 1, false) := by kernel_rfl
@[go_sem] theorem tfl_24_2 : tfl Try.prog 24 2 = some (2, 1, false) := by kernel_rfl
@[go_sem] theorem tagg_26 : tagg Try.prog 26 = some false := by kernel_rfl
@[go_sem] theorem tsz_26 : tsz Try.prog 26 = some 1 := by kernel_rfl
@[go_sem] theorem tby_26 : tby Try.prog 26 = some 24 := by kernel_rfl
@[go_sem] theorem zac_26 : zeroAC Try.prog 26 = some [.nil] := by kernel_rfl
@[go_sem] theorem tzero_26 : tzero Try.prog 26 = some [.slice none 0 0] := by kernel_rfl
@[go_sem] theorem tel_26 : tel Try.prog 26 = some (41, 3) := by kernel_rfl
@[go_sem] theorem tagg_27 : tagg Try.prog 27 = some true := by kernel_rfl
@[go_sem] theorem tsz_27 : tsz Try.prog 27 = some 3 := by kernel_rfl
@[go_sem] theorem tby_27 : tby Try.prog 27 = some 40 := by kernel_rfl
@[go_sem] theorem zac_27 : zeroAC Try.prog 27 = some [.d (.sc (.int .i64 0)), .d (.sc (.int .i64 0)), .nil] := by kernel_rfl
@[go_sem] theorem tzero_27 : tzero Try.prog 27 = some [.int .i64 0, .int .i64 0, .slice none 0 0] := by kernel_rfl
@[go_sem] theorem tpl_27 : tpl Try.prog 27 = true := by kernel_rfl
@[go_sem] theorem tfl_27_0 : tfl Try.prog 27 0 = some (0, 1, false) := by kernel_rfl
@[go_sem] theorem tfl_27_1 : tfl Try.prog 27 1 = some (1, 1, false) := by kernel_rfl
@[go_sem] theorem tfl_27_2 : tfl Try.prog 27 2 = some (2, 1, false) := by kernel_rfl
@[go_sem] theorem tagg_28 : tagg Try.prog 28 = some true := by kernel_rfl
@[go_sem] theorem tsz_28 : tsz Try.prog 28 = some 3 := by kernel_rfl
@[go_sem] theorem tby_28 : tby Try.prog 28 = some 40 := by kernel_rfl
@[go_sem] theorem zac_28 : zeroAC Try.prog 28 = some [.d (.sc (.int .i64 0)), .d (.sc (.int .i64 0)), .nil] := by kernel_rfl
@[go_sem] theorem tzero_28 : tzero Try.prog 28 = some [.int .i64 0, .int .i64 0, .slice none 0 0] := by kernel_rfl
@[go_sem] theorem tpl_28 : tpl Try.prog 28 = true := by kernel_rfl
@[go_sem] theorem tfl_28_0 : tfl Try.prog 28 0 = some (0, 1, false) := by kernel_rfl
@[go_sem] theorem tfl_28_1 : tfl Try.prog 28 1 = some (1, 1, false) := by kernel_rfl
@[go_sem] theorem tfl_28_2 : tfl Try.prog 28 2 = some (2, 1, false) := by kernel_rfl
@[go_sem] theorem tagg_29 : tagg Try.prog 29 = some false := by kernel_rfl
@[go_sem] theorem tsz_29 : tsz Try.prog 29 = some 1 := by kernel_rfl
@[go_sem] theorem tby_29 : tby Try.prog 29 = some 24 := by kernel_rfl
@[go_sem] theorem zac_29 : zeroAC Try.prog 29 = some [.nil] := by kernel_rfl
@[go_sem] theorem tzero_29 : tzero Try.prog 29 = some [.slice none 0 0] := by kernel_rfl
@[go_sem] theorem tel_29 : tel Try.prog 29 = some (3, 1) := by kernel_rfl
@[go_sem] theorem tagg_40 : tagg Try.prog 40 = some true := by kernel_rfl
@[go_sem] theorem tsz_40 : tsz Try.prog 40 = some 3 := by kernel_rfl
@[go_sem] theorem tby_40 : tby Try.prog 40 = some 32 := by kernel_rfl
@[go_sem] theorem zac_40 : zeroAC Try.prog 40 = some [.d (.sc (.int .i64 0)), .d (.sc (.int .i64 0)), .d (.sc (.string ByteArray.empty))] := by kernel_rfl
@[go_sem] theorem tzero_40 : tzero Try.prog 40 = some [.int .i64 0, .int .i64 0, .string ByteArray.empty] := by kernel_rfl
@[go_sem] theorem tpl_40 : tpl Try.prog 40 = true := by kernel_rfl
@[go_sem] theorem tfl_40_0 : tfl Try.prog 40 0 = some (0, 1, false) := by kernel_rfl
@[go_sem] theorem tfl_40_1 : tfl Try.prog 40 1 = some (1, 1, false) := by kernel_rfl
@[go_sem] theorem tfl_40_2 : tfl Try.prog 40 2 = some (2, 1, false) := by kernel_rfl
@[go_sem] theorem tagg_41 : tagg Try.prog 41 = some true := by kernel_rfl
@[go_sem] theorem tsz_41 : tsz Try.prog 41 = some 3 := by kernel_rfl
@[go_sem] theorem tby_41 : tby Try.prog 41 = some 32 := by kernel_rfl
@[go_sem] theorem zac_41 : zeroAC Try.prog 41 = some [.d (.sc (.int .i64 0)), .d (.sc (.int .i64 0)), .d (.sc (.string ByteArray.empty))] := by kernel_rfl
@[go_sem] theorem tzero_41 : tzero Try.prog 41 = some [.int .i64 0, .int .i64 0, .string ByteArray.empty] := by kernel_rfl
@[go_sem] theorem tpl_41 : tpl Try.prog 41 = true := by kernel_rfl
@[go_sem] theorem tfl_41_0 : tfl Try.prog 41 0 = some (0, 1, false) := by kernel_rfl
@[go_sem] theorem tfl_41_1 : tfl Try.prog 41 1 = some (1, 1, false) := by kernel_rfl
@[go_sem] theorem tfl_41_2 : tfl Try.prog 41 2 = some (2, 1, false) := by kernel_rfl
@[go_sem] theorem tagg_56 : tagg Try.prog 56 = some false := by kernel_rfl
@[go_sem] theorem tsz_56 : tsz Try.prog 56 = some 1 := by kernel_rfl
@[go_sem] theorem tby_56 : tby Try.prog 56 = some 24 := by kernel_rfl
@[go_sem] theorem zac_56 : zeroAC Try.prog 56 = some [.nil] := by kernel_rfl
@[go_sem] theorem tzero_56 : tzero Try.prog 56 = some [.slice none 0 0] := by kernel_rfl
@[go_sem] theorem tel_56 : tel Try.prog 56 = some (5, 1) := by kernel_rfl
@[go_sem] theorem tagg_74 : tagg Try.prog 74 = some false := by kernel_rfl
@[go_sem] theorem tsz_74 : tsz Try.prog 74 = some 1 := by kernel_rfl
@[go_sem] theorem tby_74 : tby Try.prog 74 = some 24 := by kernel_rfl
@[go_sem] theorem zac_74 : zeroAC Try.prog 74 = some [.nil] := by kernel_rfl
@[go_sem] theorem tzero_74 : tzero Try.prog 74 = some [.slice none 0 0] := by kernel_rfl
@[go_sem] theorem tel_74 : tel Try.prog 74 = some (80, 5) := by kernel_rfl
@[go_sem] theorem tagg_79 : tagg Try.prog 79 = some true := by kernel_rfl
@[go_sem] theorem tsz_79 : tsz Try.prog 79 = some 5 := by kernel_rfl
@[go_sem] theorem tby_79 : tby Try.prog 79 = some 48 := by kernel_rfl
@[go_sem] theorem zac_79 : zeroAC Try.prog 79 = some [.d (.sc (.int .i64 0)), .d (.sc (.int .i64 0)), .d (.sc (.int .i64 0)), .d (.sc (.string ByteArray.empty)), .d (.sc (.bool false))] := by kernel_rfl
@[go_sem] theorem tzero_79 : tzero Try.prog 79 = some [.int .i64 0, .int .i64 0, .int .i64 0, .string ByteArray.empty, .bool false] := by kernel_rfl
@[go_sem] theorem tpl_79 : tpl Try.prog 79 = true := by kernel_rfl
@[go_sem] theorem tfl_79_0 : tfl Try.prog 79 0 = some (0, 1, false) := by kernel_rfl
@[go_sem] theorem tfl_79_1 : tfl Try.prog 79 1 = some (1, 3, true) := by kernel_rfl
@[go_sem] theorem tfl_79_2 : tfl Try.prog 79 2 = some (4, 1, false) := by kernel_rfl
@[go_sem] theorem tagg_80 : tagg Try.prog 80 = some true := by kernel_rfl
@[go_sem] theorem tsz_80 : tsz Try.prog 80 = some 5 := by kernel_rfl
@[go_sem] theorem tby_80 : tby Try.prog 80 = some 48 := by kernel_rfl
@[go_sem] theorem zac_80 : zeroAC Try.prog 80 = some [.d (.sc (.int .i64 0)), .d (.sc (.int .i64 0)), .d (.sc (.int .i64 0)), .d (.sc (.string ByteArray.empty)), .d (.sc (.bool false))] := by kernel_rfl
@[go_sem] theorem tzero_80 : tzero Try.prog 80 = some [.int .i64 0, .int .i64 0, .int .i64 0, .string ByteArray.empty, .bool false] := by kernel_rfl
@[go_sem] theorem tpl_80 : tpl Try.prog 80 = true := by kernel_rfl
@[go_sem] theorem tfl_80_0 : tfl Try.prog 80 0 = some (0, 1, false) := by kernel_rfl
@[go_sem] theorem tfl_80_1 : tfl Try.prog 80 1 = some (1, 3, true) := by kernel_rfl
@[go_sem] theorem tfl_80_2 : tfl Try.prog 80 2 = some (4, 1, false) := by kernel_rfl
@[go_sem] theorem tagg_89 : tagg Try.prog 89 = some true := by kernel_rfl
@[go_sem] theorem tsz_89 : tsz Try.prog 89 = some 3 := by kernel_rfl
@[go_sem] theorem tby_89 : tby Try.prog 89 = some 32 := by kernel_rfl
@[go_sem] theorem zac_89 : zeroAC Try.prog 89 = some [.d (.sc (.int .i64 0)), .d (.sc (.int .i64 0)), .d (.sc (.string ByteArray.empty))] := by kernel_rfl
@[go_sem] theorem tzero_89 : tzero Try.prog 89 = some [.int .i64 0, .int .i64 0, .string ByteArray.empty] := by kernel_rfl
@[go_sem] theorem tpl_89 : tpl Try.prog 89 = true := by kernel_rfl
@[go_sem] theorem tfl_89_0 : tfl Try.prog 89 0 = some (0, 1, false) := by kernel_rfl
@[go_sem] theorem tfl_89_1 : tfl Try.prog 89 1 = some (1, 1, false) := by kernel_rfl
@[go_sem] theorem tfl_89_2 : tfl Try.prog 89 2 = some (2, 1, false) := by kernel_rfl
@[go_sem] theorem tagg_107 : tagg Try.prog 107 = some true := by kernel_rfl
@[go_sem] theorem tsz_107 : tsz Try.prog 107 = some 3 := by kernel_rfl
@[go_sem] theorem tby_107 : tby Try.prog 107 = some 40 := by kernel_rfl
@[go_sem] theorem zac_107 : zeroAC Try.prog 107 = some [.nil, .d (.sc (.int .i64 0)), .d (.sc (.int .i64 0))] := by kernel_rfl
@[go_sem] theorem tzero_107 : tzero Try.prog 107 = some [.slice none 0 0, .int .i64 0, .int .i64 0] := by kernel_rfl
@[go_sem] theorem tpl_107 : tpl Try.prog 107 = true := by kernel_rfl
@[go_sem] theorem tfl_107_0 : tfl Try.prog 107 0 = some (0, 1, false) := by kernel_rfl
@[go_sem] theorem tfl_107_1 : tfl Try.prog 107 1 = some (1, 1, false) := by kernel_rfl
@[go_sem] theorem tfl_107_2 : tfl Try.prog 107 2 = some (2, 1, false) := by kernel_rfl
@[go_sem] theorem tagg_108 : tagg Try.prog 108 = some true := by kernel_rfl
@[go_sem] theorem tsz_108 : tsz Try.prog 108 = some 3 := by kernel_rfl
@[go_sem] theorem tby_108 : tby Try.prog 108 = some 40 := by kernel_rfl
@[go_sem] theorem zac_108 : zeroAC Try.prog 108 = some [.nil, .d (.sc (.int .i64 0)), .d (.sc (.int .i64 0))] := by kernel_rfl
@[go_sem] theorem tzero_108 : tzero Try.prog 108 = some [.slice none 0 0, .int .i64 0, .int .i64 0] := by kernel_rfl
@[go_sem] theorem tpl_108 : tpl Try.prog 108 = true := by kernel_rfl
@[go_sem] theorem tfl_108_0 : tfl Try.prog 108 0 = some (0, 1, false) := by kernel_rfl
@[go_sem] theorem tfl_108_1 : tfl Try.prog 108 1 = some (1, 1, false) := by kernel_rfl
@[go_sem] theorem tfl_108_2 : tfl Try.prog 108 2 = some (2, 1, false) := by kernel_rfl
@[go_sem] theorem tagg_112 : tagg Try.prog 112 = some false := by kernel_rfl
@[go_sem] theorem tsz_112 : tsz Try.prog 112 = some 1 := by kernel_rfl
@[go_sem] theorem tby_112 : tby Try.prog 112 = some 8 := by kernel_rfl
@[go_sem] theorem und_112 : Try.prog.underlying 112 = some (.int .u64) := by kernel_rfl
@[go_sem] theorem zac_112 : zeroAC Try.prog 112 = some [.d (.sc (.int .u64 0))] := by kernel_rfl
@[go_sem] theorem tzero_112 : tzero Try.prog 112 = some [.int .u64 0] := by kernel_rfl
@[go_sem] theorem tagg_115 : tagg Try.prog 115 = some true := by kernel_rfl
@[go_sem] theorem tsz_115 : tsz Try.prog 115 = some 4 := by kernel_rfl
@[go_sem] theorem tby_115 : tby Try.prog 115 = some 40 := by kernel_rfl
@[go_sem] theorem tagg_116 : tagg Try.prog 116 = some true := by kernel_rfl
@[go_sem] theorem tsz_116 : tsz Try.prog 116 = some 4 := by kernel_rfl
@[go_sem] theorem tby_116 : tby Try.prog 116 = some 40 := by kernel_rfl
@[go_sem] theorem tagg_118 : tagg Try.prog 118 = some true := by kernel_rfl
@[go_sem] theorem tsz_118 : tsz Try.prog 118 = some 0 := by kernel_rfl
@[go_sem] theorem tby_118 : tby Try.prog 118 = some 0 := by kernel_rfl
@[go_sem] theorem zac_118 : zeroAC Try.prog 118 = some [] := by kernel_rfl
@[go_sem] theorem tzero_118 : tzero Try.prog 118 = some [] := by kernel_rfl
@[go_sem] theorem tagg_119 : tagg Try.prog 119 = some true := by kernel_rfl
@[go_sem] theorem tsz_119 : tsz Try.prog 119 = some 0 := by kernel_rfl
@[go_sem] theorem tby_119 : tby Try.prog 119 = some 0 := by kernel_rfl
@[go_sem] theorem zac_119 : zeroAC Try.prog 119 = some [] := by kernel_rfl
@[go_sem] theorem tzero_119 : tzero Try.prog 119 = some [] := by kernel_rfl
@[go_sem] theorem tagg_121 : tagg Try.prog 121 = some false := by kernel_rfl
@[go_sem] theorem tsz_121 : tsz Try.prog 121 = some 1 := by kernel_rfl
@[go_sem] theorem tby_121 : tby Try.prog 121 = some 4 := by kernel_rfl
@[go_sem] theorem und_121 : Try.prog.underlying 121 = some (.int .u32) := by kernel_rfl
@[go_sem] theorem zac_121 : zeroAC Try.prog 121 = some [.d (.sc (.int .u32 0))] := by kernel_rfl
@[go_sem] theorem tzero_121 : tzero Try.prog 121 = some [.int .u32 0] := by kernel_rfl
@[go_sem] theorem tagg_122 : tagg Try.prog 122 = some false := by kernel_rfl
@[go_sem] theorem tsz_122 : tsz Try.prog 122 = some 1 := by kernel_rfl
@[go_sem] theorem tby_122 : tby Try.prog 122 = some 1 := by kernel_rfl
@[go_sem] theorem und_122 : Try.prog.underlying 122 = some (.int .u8) := by kernel_rfl
@[go_sem] theorem zac_122 : zeroAC Try.prog 122 = some [.d (.sc (.int .u8 0))] := by kernel_rfl
@[go_sem] theorem tzero_122 : tzero Try.prog 122 = some [.int .u8 0] := by kernel_rfl
@[go_sem] theorem tagg_123 : tagg Try.prog 123 = some false := by kernel_rfl
@[go_sem] theorem tsz_123 : tsz Try.prog 123 = some 1 := by kernel_rfl
@[go_sem] theorem tby_123 : tby Try.prog 123 = some 1 := by kernel_rfl
@[go_sem] theorem und_123 : Try.prog.underlying 123 = some (.int .u8) := by kernel_rfl
@[go_sem] theorem zac_123 : zeroAC Try.prog 123 = some [.d (.sc (.int .u8 0))] := by kernel_rfl
@[go_sem] theorem tzero_123 : tzero Try.prog 123 = some [.int .u8 0] := by kernel_rfl
@[go_sem] theorem tagg_126 : tagg Try.prog 126 = some false := by kernel_rfl
@[go_sem] theorem tsz_126 : tsz Try.prog 126 = some 1 := by kernel_rfl
@[go_sem] theorem tby_126 : tby Try.prog 126 = some 4 := by kernel_rfl
@[go_sem] theorem und_126 : Try.prog.underlying 126 = some (.int .i32) := by kernel_rfl
@[go_sem] theorem zac_126 : zeroAC Try.prog 126 = some [.d (.sc (.int .i32 0))] := by kernel_rfl
@[go_sem] theorem tzero_126 : tzero Try.prog 126 = some [.int .i32 0] := by kernel_rfl
@[go_sem] theorem tagg_127 : tagg Try.prog 127 = some false := by kernel_rfl
@[go_sem] theorem tsz_127 : tsz Try.prog 127 = some 1 := by kernel_rfl
@[go_sem] theorem tby_127 : tby Try.prog 127 = some 4 := by kernel_rfl
@[go_sem] theorem und_127 : Try.prog.underlying 127 = some (.int .i32) := by kernel_rfl
@[go_sem] theorem zac_127 : zeroAC Try.prog 127 = some [.d (.sc (.int .i32 0))] := by kernel_rfl
@[go_sem] theorem tzero_127 : tzero Try.prog 127 = some [.int .i32 0] := by kernel_rfl
@[go_sem] theorem tagg_128 : tagg Try.prog 128 = some true := by kernel_rfl
@[go_sem] theorem tsz_128 : tsz Try.prog 128 = some 11 := by kernel_rfl
@[go_sem] theorem tby_128 : tby Try.prog 128 = some 48 := by kernel_rfl
@[go_sem] theorem tagg_129 : tagg Try.prog 129 = some true := by kernel_rfl
@[go_sem] theorem tsz_129 : tsz Try.prog 129 = some 11 := by kernel_rfl
@[go_sem] theorem tby_129 : tby Try.prog 129 = some 48 := by kernel_rfl
end Go.Proofs.Ytmanijpmkeheeaa
