/- Facts about the program's types. -/
import Derived.Test.YtolkglnkdfcceaaProg
import Derived.Test.YtolkglnkdfcceaaGA
namespace Go.Proofs.Ytolkglnkdfcceaa
open Go.RowKit
@[go_sem] theorem tagg_2 : tagg Try.prog 2 = some false := by kernel_rfl
@[go_sem] theorem tsz_2 : tsz Try.prog 2 = some 1 := by kernel_rfl
@[go_sem] theorem tby_2 : tby Try.prog 2 = some 8 := by kernel_rfl
@[go_sem] theorem und_2 : Try.prog.underlying 2 = some (.int .i64) := by kernel_rfl
@[go_sem] theorem zac_2 : zeroAC Try.prog 2 = some [.d (.sc (.int .i64 0))] := by kernel_rfl
@[go_sem] theorem tzero_2 : tzero Try.prog 2 = some [.int .i64 0] := by kernel_rfl
@[go_sem] theorem tagg_3 : tagg Try.prog 3 = some false := by kernel_rfl
@[go_sem] theorem tsz_3 : tsz Try.prog 3 = some 1 := by kernel_rfl
@[go_sem] theorem tby_3 : tby Try.prog 3 = some 8 := by kernel_rfl
@[go_sem] theorem und_3 : Try.prog.underlying 3 = some (.int .i64) := by kernel_rfl
@[go_sem] theorem zac_3 : zeroAC Try.prog 3 = some [.d (.sc (.int .i64 0))] := by kernel_rfl
@[go_sem] theorem tzero_3 : tzero Try.prog 3 = some [.int .i64 0] := by kernel_rfl
@[go_sem] theorem tagg_4 : tagg Try.prog 4 = some false := by kernel_rfl
@[go_sem] theorem tsz_4 : tsz Try.prog 4 = some 1 := by kernel_rfl
@[go_sem] theorem tby_4 : tby Try.prog 4 = some 1 := by kernel_rfl
@[go_sem] theorem und_4 : Try.prog.underlying 4 = some .bool := by kernel_rfl
@[go_sem] theorem zac_4 : zeroAC Try.prog 4 = some [.d (.sc (.bool false))] := by kernel_rfl
@[go_sem] theorem tzero_4 : tzero Try.prog 4 = some [.bool false] := by kernel_rfl
@[go_sem] theorem tagg_5 : tagg Try.prog 5 = some false := by kernel_rfl
@[go_sem] theorem tsz_5 : tsz Try.prog 5 = some 1 := by kernel_rfl
@[go_sem] theorem tby_5 : tby Try.prog 5 = some 1 := by kernel_rfl
@[go_sem] theorem und_5 : Try.prog.underlying 5 = some (.int .u8) := by kernel_rfl
@[go_sem] theorem zac_5 : zeroAC Try.prog 5 = some [.d (.sc (.int .u8 0))] := by kernel_rfl
@[go_sem] theorem tzero_5 : tzero Try.prog 5 = some [.int .u8 0] := by kernel_rfl
@[go_sem] theorem tagg_6 : tagg Try.prog 6 = some false := by kernel_rfl
@[go_sem] theorem tsz_6 : tsz Try.prog 6 = some 1 := by kernel_rfl
@[go_sem] theorem tby_6 : tby Try.prog 6 = some 1 := by kernel_rfl
@[go_sem] theorem und_6 : Try.prog.underlying 6 = some (.int .u8) := by kernel_rfl
@[go_sem] theorem zac_6 : zeroAC Try.prog 6 = some [.d (.sc (.int .u8 0))] := by kernel_rfl
@[go_sem] theorem tzero_6 : tzero Try.prog 6 = some [.int .u8 0] := by kernel_rfl
@[go_sem] theorem tagg_7 : tagg Try.prog 7 = some true := by kernel_rfl
@[go_sem] theorem tsz_7 : tsz Try.prog 7 = some 4 := by kernel_rfl
@[go_sem] theorem tby_7 : tby Try.prog 7 = some 24 := by kernel_rfl
@[go_sem] theorem zac_7 : zeroAC Try.prog 7 = some [.d (.sc (.int .i64 0)), .d (.sc (.int .i64 0)), .d (.sc (.bool false)), .d (.sc (.int .u8 0))] := by kernel_rfl
@[go_sem] theorem tzero_7 : tzero Try.prog 7 = some [.int .i64 0, .int .i64 0, .bool false, .int .u8 0] := by kernel_rfl
@[go_sem] theorem tpl_7 : tpl Try.prog 7 = true := by kernel_rfl
@[go_sem] theorem tfl_7_0 : tfl Try.prog 7 0 = some (0, 1, false) := by kernel_rfl
@[go_sem] theorem tfl_7_1 : tfl Try.prog 7 1 = some (1, 1, false) := by kernel_rfl
@[go_sem] theorem tfl_7_2 : tfl Try.prog 7 2 = some (2, 1, false) := by kernel_rfl
@[go_sem] theorem tfl_7_3 : tfl Try.prog 7 3 = some (3, 1, false) := by kernel_rfl
@[go_sem] theorem tagg_8 : tagg Try.prog 8 = some true := by kernel_rfl
@[go_sem] theorem tsz_8 : tsz Try.prog 8 = some 4 := by kernel_rfl
@[go_sem] theorem tby_8 : tby Try.prog 8 = some 24 := by kernel_rfl
@[go_sem] theorem zac_8 : zeroAC Try.prog 8 = some [.d (.sc (.int .i64 0)), .d (.sc (.int .i64 0)), .d (.sc (.bool false)), .d (.sc (.int .u8 0))] := by kernel_rfl
@[go_sem] theorem tzero_8 : tzero Try.prog 8 = some [.int .i64 0, .int .i64 0, .bool false, .int .u8 0] := by kernel_rfl
@[go_sem] theorem tpl_8 : tpl Try.prog 8 = true := by kernel_rfl
@[go_sem] theorem tfl_8_0 : tfl Try.prog 8 0 = some (0, 1, false) := by kernel_rfl
@[go_sem] theorem tfl_8_1 : tfl Try.prog 8 1 = some (1, 1, false) := by kernel_rfl
@[go_sem] theorem tfl_8_2 : tfl Try.prog 8 2 = some (2, 1, false) := by kernel_rfl
@[go_sem] theorem tfl_8_3 : tfl Try.prog 8 3 = some (3, 1, false) := by kernel_rfl
@[go_sem] theorem tagg_9 : tagg Try.prog 9 = some false := by kernel_rfl
@[go_sem] theorem tsz_9 : tsz Try.prog 9 = some 1 := by kernel_rfl
@[go_sem] theorem tby_9 : tby Try.prog 9 = some 16 := by kernel_rfl
@[go_sem] theorem und_9 : Try.prog.underlying 9 = some .string := by kernel_rfl
@[go_sem] theorem zac_9 : zeroAC Try.prog 9 = some [.d (.sc (.string ByteArray.empty))] := by kernel_rfl
@[go_sem] theorem tzero_9 : tzero Try.prog 9 = some [.string ByteArray.empty] := by kernel_rfl
@[go_sem] theorem tagg_10 : tagg Try.prog 10 = some false := by kernel_rfl
@[go_sem] theorem tsz_10 : tsz Try.prog 10 = some 1 := by kernel_rfl
@[go_sem] theorem tby_10 : tby Try.prog 10 = some 16 := by kernel_rfl
@[go_sem] theorem und_10 : Try.prog.underlying 10 = some .string := by kernel_rfl
@[go_sem] theorem zac_10 : zeroAC Try.prog 10 = some [.d (.sc (.string ByteArray.empty))] := by kernel_rfl
@[go_sem] theorem tzero_10 : tzero Try.prog 10 = some [.string ByteArray.empty] := by kernel_rfl
@[go_sem] theorem tagg_11 : tagg Try.prog 11 = some false := by kernel_rfl
@[go_sem] theorem tsz_11 : tsz Try.prog 11 = some 1 := by kernel_rfl
@[go_sem] theorem tby_11 : tby Try.prog 11 = some 16 := by kernel_rfl
@[go_sem] theorem und_11 : Try.prog.underlying 11 = some .string := by kernel_rfl
@[go_sem] theorem zac_11 : zeroAC Try.prog 11 = some [.d (.sc (.string ByteArray.empty))] := by kernel_rfl
@[go_sem] theorem tzero_11 : tzero Try.prog 11 = some [.string ByteArray.empty] := by kernel_rfl
@[go_sem] theorem tagg_12 : tagg Try.prog 12 = some false := by kernel_rfl
@[go_sem] theorem tsz_12 : tsz Try.prog 12 = some 1 := by kernel_rfl
@[go_sem] theorem tby_12 : tby Try.prog 12 = some 8 := by kernel_rfl
@[go_sem] theorem und_12 : Try.prog.underlying 12 = some (.int .u64) := by kernel_rfl
@[go_sem] theorem zac_12 : zeroAC Try.prog 12 = some [.d (.sc (.int .u64 0))] := by kernel_rfl
@[go_sem] theorem tzero_12 : tzero Try.prog 12 = some [.int .u64 0] := by kernel_rfl
@[go_sem] theorem tagg_13 : tagg Try.prog 13 = some true := by kernel_rfl
@[go_sem] theorem tsz_13 : tsz Try.prog 13 = some 2 := by kernel_rfl
@[go_sem] theorem tby_13 : tby Try.prog 13 = some 24 := by kernel_rfl
@[go_sem] theorem zac_13 : zeroAC Try.prog 13 = some [.d (.sc (.string ByteArray.empty)), .d (.sc (.int .u64 0))] := by kernel_rfl
@[go_sem] theorem tzero_13 : tzero Try.prog 13 = some [.string ByteArray.empty, .int .u64 0] := by kernel_rfl
@[go_sem] theorem tpl_13 : tpl Try.prog 13 = true := by kernel_rfl
@[go_sem] theorem tfl_13_0 : tfl Try.prog 13 0 = some (0, 1, false) := by kernel_rfl
@[go_sem] theorem tfl_13_1 : tfl Try.prog 13 1 = some (1, 1, false) := by kernel_rfl
@[go_sem] theorem tagg_14 : tagg Try.prog 14 = some true := by kernel_rfl
@[go_sem] theorem tsz_14 : tsz Try.prog 14 = some 2 := by kernel_rfl
@[go_sem] theorem tby_14 : tby Try.prog 14 = some 24 := by kernel_rfl
@[go_sem] theorem zac_14 : zeroAC Try.prog 14 = some [.d (.sc (.string ByteArray.empty)), .d (.sc (.int .u64 0))] := by kernel_rfl
@[go_sem] theorem tzero_14 : tzero Try.prog 14 = some [.string ByteArray.empty, .int .u64 0] := by kernel_rfl
@[go_sem] theorem tpl_14 : tpl Try.prog 14 = true := by kernel_rfl
@[go_sem] theorem tfl_14_0 : tfl Try.prog 14 0 = some (0, 1, false) := by kernel_rfl
@[go_sem] theorem tfl_14_1 : tfl Try.prog 14 1 = some (1, 1, false) := by kernel_rfl
@[go_sem] theorem tagg_18 : tagg Try.prog 18 = some true := by kernel_rfl
@[go_sem] theorem tsz_18 : tsz Try.prog 18 = some 1 := by kernel_rfl
@[go_sem] theorem tby_18 : tby Try.prog 18 = some 8 := by kernel_rfl
@[go_sem] theorem tagg_19 : tagg Try.prog 19 = some true := by kernel_rfl
@[go_sem] theorem tsz_19 : tsz Try.prog 19 = some 1 := by kernel_rfl
@[go_sem] theorem tby_19 : tby Try.prog 19 = some 8 := by kernel_rfl
@[go_sem] theorem tagg_21 : tagg Try.prog 21 = some false := by kernel_rfl
@[go_sem] theorem tsz_21 : tsz Try.prog 21 = some 1 := by kernel_rfl
@[go_sem] theorem tby_21 : tby Try.prog 21 = some 4 := by kernel_rfl
@[go_sem] theorem und_21 : Try.prog.underlying 21 = some (.int .i32) := by kernel_rfl
@[go_sem] theorem zac_21 : zeroAC Try.prog 21 = some [.d (.sc (.int .i32 0))] := by kernel_rfl
@[go_sem] theorem tzero_21 : tzero Try.prog 21 = some [.int .i32 0] := by kernel_rfl
@[go_sem] theorem tagg_22 : tagg Try.prog 22 = some false := by kernel_rfl
@[go_sem] theorem tsz_22 : tsz Try.prog 22 = some 1 := by kernel_rfl
@[go_sem] theorem tby_22 : tby Try.prog 22 = some 24 := by kernel_rfl
@[go_sem] theorem zac_22 : zeroAC Try.prog 22 = some [.nil] := by kernel_rfl
@[go_sem] theorem tzero_22 : tzero Try.prog 22 = some [.slice none 0 0] := by kernel_rfl
@[go_sem] theorem tel_22 : tel Try.prog 22 = some (5, 1) := by kernel_rfl
@[go_sem] theorem tagg_26 : tagg Try.prog 26 = some false := by kernel_rfl
@[go_sem] theorem tsz_26 : tsz Try.prog 26 = some 1 := by kernel_rfl
@[go_sem] theorem tby_26 : tby Try.prog 26 = some 24 := by kernel_rfl
@[go_sem] theorem zac_26 : zeroAC Try.prog 26 = some [.nil] := by kernel_rfl
@[go_sem] theorem tzero_26 : tzero Try.prog 26 = some [.slice none 0 0] := by kernel_rfl
@[go_sem] theorem tel_26 : tel Try.prog 26 = some (33, 3) := by kernel_rfl
@[go_sem] theorem tagg_27 : tagg Try.prog 27 = some true := by kernel_rfl
@[go_sem] theorem tsz_27 : tsz Try.prog 27 = some 3 := by kernel_rfl
@[go_sem] theorem tby_27 : tby Try.prog 27 = some 40 := by kernel_rfl
@[go_sem] theorem zac_27 : zeroAC Try.prog 27 = some [.d (.sc (.int .i64 0)), .d (.sc (.int .i64 0)), .nil] := by kernel_rfl
@[go_sem] theorem tzero_27 : tzero Try.prog 27 = some [.int .i64 0, .int .i64 0, .slice none 0 0] := by kernel_rfl
@[go_sem] theorem tpl_27 : tpl Try.prog 27 = true := by kernel_rfl
@[go_sem] theorem tfl_27_0 : tfl Try.prog 27 0 = some (0, 1, false) := by kernel_rfl
@[go_sem] theorem tfl_27_1 : tfl Try.prog 27 1 = some (1, 1, false) := by kernel_rfl
@[go_sem] theorem tfl_27_2 : tfl Try.prog 27 2 = some (2, 1, false) := by kernel_rfl
@[go_sem] theorem tagg_28 : tagg Try.prog 28 = some true := by kernel_rfl
@[go_sem] theorem tsz_28 : tsz Try.prog 28 = some 3 := by kernel_rfl
@[go_sem] theorem tby_28 : tby Try.prog 28 = some 40 := by kernel_rfl
@[go_sem] theorem zac_28 : zeroAC Try.prog 28 = some [.d (.sc (.int .i64 0)), .d (.sc (.int .i64 0)), .nil] := by kernel_rfl
@[go_sem] theorem tzero_28 : tzero Try.prog 28 = some [.int .i64 0, .int .i64 0, .slice none 0 0] := by kernel_rfl
@[go_sem] theorem tpl_28 : tpl Try.prog 28 = true := by kernel_rfl
@[go_sem] theorem tfl_28_0 : tfl Try.prog 28 0 = some (0, 1, false) := by kernel_rfl
@[go_sem] theorem tfl_28_1 : tfl Try.prog 28 1 = some (1, 1, false) := by kernel_rfl
@[go_sem] theorem tfl_28_2 : tfl Try.prog 28 2 = some (2, 1, false) := by kernel_rfl
@[go_sem] theorem tagg_32 : tagg Try.prog 32 = some true := by kernel_rfl
@[go_sem] theorem tsz_32 : tsz Try.prog 32 = some 3 := by kernel_rfl
@[go_sem] theorem tby_32 : tby Try.prog 32 = some 32 := by kernel_rfl
@[go_sem] theorem zac_32 : zeroAC Try.prog 32 = some [.d (.sc (.int .i64 0)), .d (.sc (.int .i64 0)), .d (.sc (.string ByteArray.empty))] := by kernel_rfl
@[go_sem] theorem tzero_32 : tzero Try.prog 32 = some [.int .i64 0, .int .i64 0, .string ByteArray.empty] := by kernel_rfl
@[go_sem] theorem tpl_32 : tpl Try.prog 32 = true := by kernel_rfl
@[go_sem] theorem tfl_32_0 : tfl Try.prog 32 0 = some (0, 1, false) := by kernel_rfl
@[go_sem] theorem tfl_32_1 : tfl Try.prog 32 1 = some (1, 1, false) := by kernel_rfl
@[go_sem] theorem tfl_32_2 : tfl Try.prog 32 2 = some (2, 1, false) := by kernel_rfl
@[go_sem] theorem tagg_33 : tagg Try.prog 33 = some true := by kernel_rfl
@[go_sem] theorem tsz_33 : tsz Try.prog 33 = some 3 := by kernel_rfl
@[go_sem] theorem tby_33 : tby Try.prog 33 = some 32 := by kernel_rfl
@[go_sem] theorem zac_33 : zeroAC Try.prog 33 = some [.d (.sc (.int .i64 0)), .d (.sc (.int .i64 0)), .d (.sc (.string ByteArray.empty))] := by kernel_rfl
@[go_sem] theorem tzero_33 : tzero Try.prog 33 = some [.int .i64 0, .int .i64 0, .string ByteArray.empty] := by kernel_rfl
@[go_sem] theorem tpl_33 : tpl Try.prog 33 = true := by kernel_rfl
@[go_sem] theorem tfl_33_0 : tfl Try.prog 33 0 = some (0, 1, false) := by kernel_rfl
@[go_sem] theorem tfl_33_1 : tfl Try.prog 33 1 = some (1, 1, false) := by kernel_rfl
@[go_sem] theorem tfl_33_2 : tfl Try.prog 33 2 = some (2, 1, false) := by kernel_rfl
@[go_sem] theorem tagg_47 : tagg Try.prog 47 = some false := by kernel_rfl
@[go_sem] theorem tsz_47 : tsz Try.prog 47 = some 1 := by kernel_rfl
@[go_sem] theorem tby_47 : tby Try.prog 47 = some 24 := by kernel_rfl
@[go_sem] theorem zac_47 : zeroAC Try.prog 47 = some [.nil] := by kernel_rfl
@[go_sem] theorem tzero_47 : tzero Try.prog 47 = some [.slice none 0 0] := by kernel_rfl
@[go_sem] theorem tel_47 : tel Try.prog 47 = some (3, 1) := by kernel_rfl
@[go_sem] theorem tagg_62 : tagg Try.prog 62 = some false := by kernel_rfl
@[go_sem] theorem tsz_62 : tsz Try.prog 62 = some 1 := by kernel_rfl
@[go_sem] theorem tby_62 : tby Try.prog 62 = some 24 := by kernel_rfl
@[go_sem] theorem zac_62 : zeroAC Try.prog 62 = some [.nil] := by kernel_rfl
@[go_sem] theorem tzero_62 : tzero Try.prog 62 = some [.slice none 0 0] := by kernel_rfl
@[go_sem] theorem tel_62 : tel Try.prog 62 = some (67, 5) := by kernel_rfl
@[go_sem] theorem tagg_66 : tagg Try.prog 66 = some true := by kernel_rfl
@[go_sem] theorem tsz_66 : tsz Try.prog 66 = some 5 := by kernel_rfl
@[go_sem] theorem tby_66 : tby Try.prog 66 = some 48 := by kernel_rfl
@[go_sem] theorem zac_66 : zeroAC Try.prog 66 = some [.d (.sc (.int .i64 0)), .d (.sc (.int .i64 0)), .d (.sc (.int .i64 0)), .d (.sc (.string ByteArray.empty)), .d (.sc (.bool false))] := by kernel_rfl
@[go_sem] theorem tzero_66 : tzero Try.prog 66 = some [.int .i64 0, .int .i64 0, .int .i64 0, .string ByteArray.empty, .bool false] := by kernel_rfl
@[go_sem] theorem tpl_66 : tpl Try.prog 66 = true := by kernel_rfl
@[go_sem] theorem tfl_66_0 : tfl Try.prog 66 0 = some (0, 1, false) := by kernel_rfl
@[go_sem] theorem tfl_66_1 : tfl Try.prog 66 1 = some (1, 3, true) := by kernel_rfl
@[go_sem] theorem tfl_66_2 : tfl Try.prog 66 2 = some (4, 1, false) := by kernel_rfl
@[go_sem] theorem tagg_67 : tagg Try.prog 67 = some true := by kernel_rfl
@[go_sem] theorem tsz_67 : tsz Try.prog 67 = some 5 := by kernel_rfl
@[go_sem] theorem tby_67 : tby Try.prog 67 = some 48 := by kernel_rfl
@[go_sem] theorem zac_67 : zeroAC Try.prog 67 = some [.d (.sc (.int .i64 0)), .d (.sc (.int .i64 0)), .d (.sc (.int .i64 0)), .d (.sc (.string ByteArray.empty)), .d (.sc (.bool false))] := by kernel_rfl
@[go_sem] theorem tzero_67 : tzero Try.prog 67 = some [.int .i64 0, .int .i64 0, .int .i64 0, .string ByteArray.empty, .bool false] := by kernel_rfl
@[go_sem] theorem tpl_67 : tpl Try.prog 67 = true := by kernel_rfl
@[go_sem] theorem tfl_67_0 : tfl Try.prog 67 0 = some (0, 1, false) := by kernel_rfl
@[go_sem] theorem tfl_67_1 : tfl Try.prog 67 1 = some (1, 3, true) := by kernel_rfl
@[go_sem] theorem tfl_67_2 : tfl Try.prog 67 2 = some (4, 1, false) := by kernel_rfl
@[go_sem] theorem tagg_72 : tagg Try.prog 72 = some true := by kernel_rfl
@[go_sem] theorem tsz_72 : tsz Try.prog 72 = some 3 := by kernel_rfl
@[go_sem] theorem tby_72 : tby Try.prog 72 = some 40 := by kernel_rfl
@[go_sem] theorem zac_72 : zeroAC Try.prog 72 = some [.nil, .d (.sc (.int .i64 0)), .d (.sc (.int .i64 0))] := by kernel_rfl
@[go_sem] theorem tzero_72 : tzero Try.prog 72 = some [.slice none 0 0, .int .i64 0, .int .i64 0] := by kernel_rfl
@[go_sem] theorem tpl_72 : tpl Try.prog 72 = true := by kernel_rfl
@[go_sem] theorem tfl_72_0 : tfl Try.prog 72 0 = some (0, 1, false) := by kernel_rfl
@[go_sem] theorem tfl_72_1 : tfl Try.prog 72 1 = some (1, 1, false) := by kernel_rfl
@[go_sem] theorem tfl_72_2 : tfl Try.prog 72 2 = some (2, 1, false) := by kernel_rfl
@[go_sem] theorem tagg_73 : tagg Try.prog 73 = some true := by kernel_rfl
@[go_sem] theorem tsz_73 : tsz Try.prog 73 = some 3 := by kernel_rfl
@[go_sem] theorem tby_73 : tby Try.prog 73 = some 40 := by kernel_rfl
@[go_sem] theorem zac_73 : zeroAC Try.prog 73 = some [.nil, .d (.sc (.int .i64 0)), .d (.sc (.int .i64 0))] := by kernel_rfl
@[go_sem] theorem tzero_73 : tzero Try.prog 73 = some [.slice none 0 0, .int .i64 0, .int .i64 0] := by kernel_rfl
@[go_sem] theorem tpl_73 : tpl Try.prog 73 = true := by kernel_rfl
@[go_sem] theorem tfl_73_0 : tfl Try.prog 73 0 = some (0, 1, false) := by kernel_rfl
@[go_sem] theorem tfl_73_1 : tfl Try.prog 73 1 = some (1, 1, false) := by kernel_rfl
@[go_sem] theorem tfl_73_2 : tfl Try.prog 73 2 = some (2, 1, false) := by kernel_rfl
@[go_sem] theorem tagg_80 : tagg Try.prog 80 = some false := by kernel_rfl
@[go_sem] theorem tsz_80 : tsz Try.prog 80 = some 1 := by kernel_rfl
@[go_sem] theorem tby_80 : tby Try.prog 80 = some 8 := by kernel_rfl
@[go_sem] theorem und_80 : Try.prog.underlying 80 = some (.int .u64) := by kernel_rfl
@[go_sem] theorem zac_80 : zeroAC Try.prog 80 = some [.d (.sc (.int .u64 0))] := by kernel_rfl
@[go_sem] theorem tzero_80 : tzero Try.prog 80 = some [.int .u64 0] := by kernel_rfl
@[go_sem] theorem tagg_85 : tagg Try.prog 85 = some true := by kernel_rfl
@[go_sem] theorem tsz_85 : tsz Try.prog 85 = some 4 := by kernel_rfl
@[go_sem] theorem tby_85 : tby Try.prog 85 = some 40 := by kernel_rfl
@[go_sem] theorem tagg_86 : tagg Try.prog 86 = some true := by kernel_rfl
@[go_sem] theorem tsz_86 : tsz Try.prog 86 = some 4 := by kernel_rfl
@[go_sem] theorem tby_86 : tby Try.prog 86 = some 40 := by kernel_rfl
@[go_sem] theorem tagg_88 : tagg Try.prog 88 = some true := by kernel_rfl
@[go_sem] theorem tsz_88 : tsz Try.prog 88 = some 0 := by kernel_rfl
@[go_sem] theorem tby_88 : tby Try.prog 88 = some 0 := by kernel_rfl
@[go_sem] theorem zac_88 : zeroAC Try.prog 88 = some [] := by kernel_rfl
@[go_sem] theorem tzero_88 : tzero Try.prog 88 = some [] := by kernel_rfl
@[go_sem] theorem tagg_89 : tagg Try.prog 89 = some true := by kernel_rfl
@[go_sem] theorem tsz_89 : tsz Try.prog 89 = some 0 := by kernel_rfl
@[go_sem] theorem tby_89 : tby Try.prog 89 = some 0 := by kernel_rfl
@[go_sem] theorem zac_89 : zeroAC Try.prog 89 = some [] := by kernel_rfl
@[go_sem] theorem tzero_89 : tzero Try.prog 89 = some [] := by kernel_rfl
@[go_sem] theorem tagg_91 : tagg Try.prog 91 = some false := by kernel_rfl
@[go_sem] theorem tsz_91 : tsz Try.prog 91 = some 1 := by kernel_rfl
@[go_sem] theorem tby_91 : tby Try.prog 91 = some 4 := by kernel_rfl
@[go_sem] theorem und_91 : Try.prog.underlying 91 = some (.int .u32) := by kernel_rfl
@[go_sem] theorem zac_91 : zeroAC Try.prog 91 = some [.d (.sc (.int .u32 0))] := by kernel_rfl
@[go_sem] theorem tzero_91 : tzero Try.prog 91 = some [.int .u32 0] := by kernel_rfl
@[go_sem] theorem tagg_92 : tagg Try.prog 92 = some false := by kernel_rfl
@[go_sem] theorem tsz_92 : tsz Try.prog 92 = some 1 := by kernel_rfl
@[go_sem] theorem tby_92 : tby Try.prog 92 = some 1 := by kernel_rfl
@[go_sem] theorem und_92 : Try.prog.underlying 92 = some (.int .u8) := by kernel_rfl
@[go_sem] theorem zac_92 : zeroAC Try.prog 92 = some [.d (.sc (.int .u8 0))] := by kernel_rfl
@[go_sem] theorem tzero_92 : tzero Try.prog 92 = some [.int .u8 0] := by kernel_rfl
@[go_sem] theorem tagg_93 : tagg Try.prog 93 = some false := by kernel_rfl
@[go_sem] theorem tsz_93 : tsz Try.prog 93 = some 1 := by kernel_rfl
@[go_sem] theorem tby_93 : tby Try.prog 93 = some 1 := by kernel_rfl
@[go_sem] theorem und_93 : Try.prog.underlying 93 = some (.int .u8) := by kernel_rfl
@[go_sem] theorem zac_93 : zeroAC Try.prog 93 = some [.d (.sc (.int .u8 0))] := by kernel_rfl
@[go_sem] theorem tzero_93 : tzero Try.prog 93 = some [.int .u8 0] := by kernel_rfl
@[go_sem] theorem tagg_96 : tagg Try.prog 96 = some false := by kernel_rfl
@[go_sem] theorem tsz_96 : tsz Try.prog 96 = some 1 := by kernel_rfl
@[go_sem] theorem tby_96 : tby Try.prog 96 = some 4 := by kernel_rfl
@[go_sem] theorem und_96 : Try.prog.underlying 96 = some (.int .i32) := by kernel_rfl
@[go_sem] theorem zac_96 : zeroAC Try.prog 96 = some [.d (.sc (.int .i32 0))] := by kernel_rfl
@[go_sem] theorem tzero_96 : tzero Try.prog 96 = some [.int .i32 0] := by kernel_rfl
@[go_sem] theorem tagg_97 : tagg Try.prog 97 = some false := by kernel_rfl
@[go_sem] theorem tsz_97 : tsz Try.prog 97 = some 1 := by kernel_rfl
@[go_sem] theorem tby_97 : tby Try.prog 97 = some 4 := by kernel_rfl
@[go_sem] theorem und_97 : Try.prog.underlying 97 = some (.int .i32) := by kernel_rfl
@[go_sem] theorem zac_97 : zeroAC Try.prog 97 = some [.d (.sc (.int .i32 0))] := by kernel_rfl
@[go_sem] theorem tzero_97 : tzero Try.prog 97 = some [.int .i32 0] := by kernel_rfl
@[go_sem] theorem tagg_98 : tagg Try.prog 98 = some true := by kernel_rfl
@[go_sem] theorem tsz_98 : tsz Try.prog 98 = some 11 := by kernel_rfl
@[go_sem] theorem tby_98 : tby Try.prog 98 = some 48 := by kernel_rfl
@[go_sem] theorem tagg_99 : tagg Try.prog 99 = some true := by kernel_rfl
@[go_sem] theorem tsz_99 : tsz Try.prog 99 = some 11 := by kernel_rfl
@[go_sem] theorem tby_99 : tby Try.prog 99 = some 48 := by kernel_rfl
end Go.Proofs.Ytolkglnkdfcceaa
