/- Facts about the program's types. -/
import Derived.Test.YtlcnokbhoekpkaaProg
import Derived.Test.YtlcnokbhoekpkaaGA
namespace Go.Proofs.Ytlcnokbhoekpkaa
open Go.RowKit
@[go_sem] theorem tagg_2 : tagg Try.prog 2 = some false := by kernel_rfl
@[go_sem] theorem tsz_2 : tsz Try.prog 2 = some 1 := by kernel_rfl
@[go_sem] theorem tby_2 : tby Try.prog 2 = some 8 := by kernel_rfl
@[go_sem] theorem und_2 : Try.prog.underlying 2 = some (.int .i64) := by kernel_rfl
@[go_sem] theorem zac_2 : zeroAC Try.prog 2 = some [.d (.sc (.int .i64 0))] := by kernel_rfl
@[go_sem] theorem tzero_2 : tzero Try.prog 2 = some [.int .i64 0] := by kernel_rfl
@[go_sem] theorem tagg_3 : tagg Try.prog 3 = some false := by kernel_rfl
@[go_sem] theorem tsz_3 : tsz Try.prog 3 = some 1 := by kernel_rfl
@[go_sem] theorem tby_3 : tby Try.prog 3 = some 8 := by kernel_rfl
@[go_sem] theorem und_3 : Try.prog.underlying 3 = some (.int .i64) := by kernel_rfl
@[go_sem] theorem zac_3 : zeroAC Try.prog 3 = some [.d (.sc (.int .i64 0))] := by kernel_rfl
@[go_sem] theorem tzero_3 : tzero Try.prog 3 = some [.int .i64 0] := by kernel_rfl
@[go_sem] theorem tagg_4 : tagg Try.prog 4 = some false := by kernel_rfl
@[go_sem] theorem tsz_4 : tsz Try.prog 4 = some 1 := by kernel_rfl
@[go_sem] theorem tby_4 : tby Try.prog 4 = some 1 := by kernel_rfl
@[go_sem] theorem und_4 : Try.prog.underlying 4 = some .bool := by kernel_rfl
@[go_sem] theorem zac_4 : zeroAC Try.prog 4 = some [.d (.sc (.bool false))] := by kernel_rfl
@[go_sem] theorem tzero_4 : tzero Try.prog 4 = some [.bool false] := by kernel_rfl
@[go_sem] theorem tagg_5 : tagg Try.prog 5 = some false := by kernel_rfl
@[go_sem] theorem tsz_5 : tsz Try.prog 5 = some 1 := by kernel_rfl
@[go_sem] theorem tby_5 : tby Try.prog 5 = some 1 := by kernel_rfl
@[go_sem] theorem und_5 : Try.prog.underlying 5 = some (.int .u8) := by kernel_rfl
@[go_sem] theorem zac_5 : zeroAC Try.prog 5 = some [.d (.sc (.int .u8 0))] := by kernel_rfl
@[go_sem] theorem tzero_5 : tzero Try.prog 5 = some [.int .u8 0] := by kernel_rfl
@[go_sem] theorem tagg_6 : tagg Try.prog 6 = some false := by kernel_rfl
@[go_sem] theorem tsz_6 : tsz Try.prog 6 = some 1 := by kernel_rfl
@[go_sem] theorem tby_6 : tby Try.prog 6 = some 1 := by kernel_rfl
@[go_sem] theorem und_6 : Try.prog.underlying 6 = some (.int .u8) := by kernel_rfl
@[go_sem] theorem zac_6 : zeroAC Try.prog 6 = some [.d (.sc (.int .u8 0))] := by kernel_rfl
@[go_sem] theorem tzero_6 : tzero Try.prog 6 = some [.int .u8 0] := by kernel_rfl
@[go_sem] theorem tagg_7 : tagg Try.prog 7 = some true := by kernel_rfl
@[go_sem] theorem tsz_7 : tsz Try.prog 7 = some 4 := by kernel_rfl
@[go_sem] theorem tby_7 : tby Try.prog 7 = some 24 := by kernel_rfl
@[go_sem] theorem zac_7 : zeroAC Try.prog 7 = some [.d (.sc (.int .i64 0)), .d (.sc (.int .i64 0)), .d (.sc (.bool false)), .d (.sc (.int .u8 0))] := by kernel_rfl
@[go_sem] theorem tzero_7 : tzero Try.prog 7 = some [.int .i64 0, .int .i64 0, .bool false, .int .u8 0] := by kernel_rfl
@[go_sem] theorem tpl_7 : tpl Try.prog 7 = true := by kernel_rfl
@[go_sem] theorem tfl_7_0 : tfl Try.prog 7 0 = some (0, 1, false) := by kernel_rfl
@[go_sem] theorem tfl_7_1 : tfl Try.prog 7 1 = some (1, 1, false) := by kernel_rfl
@[go_sem] theorem tfl_7_2 : tfl Try.prog 7 2 = some (2, 1, false) := by kernel_rfl
@[go_sem] theorem tfl_7_3 : tfl Try.prog 7 3 = some (3, 1, false) := by kernel_rfl
@[go_sem] theorem tagg_8 : tagg Try.prog 8 = some true := by kernel_rfl
@[go_sem] theorem tsz_8 : tsz Try.prog 8 = some 4 := by kernel_rfl
@[go_sem] theorem tby_8 : tby Try.prog 8 = some 24 := by kernel_rfl
@[go_sem] theorem zac_8 : zeroAC Try.prog 8 = some [.d (.sc (.int .i64 0)), .d (.sc (.int .i64 0)), .d (.sc (.bool false)), .d (.sc (.int .u8 0))] := by kernel_rfl
@[go_sem] theorem tzero_8 : tzero Try.prog 8 = some [.int .i64 0, .int .i64 0, .bool false, .int .u8 0] := by kernel_rfl
@[go_sem] theorem tpl_8 : tpl Try.prog 8 = true := by kernel_rfl
@[go_sem] theorem tfl_8_0 : tfl Try.prog 8 0 = some (0, 1, false) := by kernel_rfl
@[go_sem] theorem tfl_8_1 : tfl Try.prog 8 1 = some (1, 1, false) := by kernel_rfl
@[go_sem] theorem tfl_8_2 : tfl Try.prog 8 2 = some (2, 1, false) := by kernel_rfl
@[go_sem] theorem tfl_8_3 : tfl Try.prog 8 3 = some (3, 1, false) := by kernel_rfl
@[go_sem] theorem tagg_9 : tagg Try.prog 9 = some false := by kernel_rfl
@[go_sem] theorem tsz_9 : tsz Try.prog 9 = some 1 := by kernel_rfl
@[go_sem] theorem tby_9 : tby Try.prog 9 = some 16 := by kernel_rfl
@[go_sem] theorem und_9 : Try.prog.underlying 9 = some .string := by kernel_rfl
@[go_sem] theorem zac_9 : zeroAC Try.prog 9 = some [.d (.sc (.string ByteArray.empty))] := by kernel_rfl
@[go_sem] theorem tzero_9 : tzero Try.prog 9 = some [.string ByteArray.empty] := by kernel_rfl
@[go_sem] theorem tagg_10 : tagg Try.prog 10 = some false := by kernel_rfl
@[go_sem] theorem tsz_10 : tsz Try.prog 10 = some 1 := by kernel_rfl
@[go_sem] theorem tby_10 : tby Try.prog 10 = some 16 := by kernel_rfl
@[go_sem] theorem und_10 : Try.prog.underlying 10 = some .string := by kernel_rfl
@[go_sem] theorem zac_10 : zeroAC Try.prog 10 = some [.d (.sc (.string ByteArray.empty))] := by kernel_rfl
@[go_sem] theorem tzero_10 : tzero Try.prog 10 = some [.string ByteArray.empty] := by kernel_rfl
@[go_sem] theorem tagg_11 : tagg Try.prog 11 = some false := by kernel_rfl
@[go_sem] theorem tsz_11 : tsz Try.prog 11 = some 1 := by kernel_rfl
@[go_sem] theorem tby_11 : tby Try.prog 11 = some 16 := by kernel_rfl
@[go_sem] theorem und_11 : Try.prog.underlying 11 = some .string := by kernel_rfl
@[go_sem] theorem zac_11 : zeroAC Try.prog 11 = some [.d (.sc (.string ByteArray.empty))] := by kernel_rfl
@[go_sem] theorem tzero_11 : tzero Try.prog 11 = some [.string ByteArray.empty] := by kernel_rfl
@[go_sem] theorem tagg_12 : tagg Try.prog 12 = some false := by kernel_rfl
@[go_sem] theorem tsz_12 : tsz Try.prog 12 = some 1 := by kernel_rfl
@[go_sem] theorem tby_12 : tby Try.prog 12 = some 8 := by kernel_rfl
@[go_sem] theorem und_12 : Try.prog.underlying 12 = some (.int .u64) := by kernel_rfl
@[go_sem] theorem zac_12 : zeroAC Try.prog 12 = some [.d (.sc (.int .u64 0))] := by kernel_rfl
@[go_sem] theorem tzero_12 : tzero Try.prog 12 = some [.int .u64 0] := by kernel_rfl
@[go_sem] theorem tagg_13 : tagg Try.prog 13 = some true := by kernel_rfl
@[go_sem] theorem tsz_13 : tsz Try.prog 13 = some 2 := by kernel_rfl
@[go_sem] theorem tby_13 : tby Try.prog 13 = some 24 := by kernel_rfl
@[go_sem] theorem zac_13 : zeroAC Try.prog 13 = some [.d (.sc (.string ByteArray.empty)), .d (.sc (.int .u64 0))] := by kernel_rfl
@[go_sem] theorem tzero_13 : tzero Try.prog 13 = some [.string ByteArray.empty, .int .u64 0] := by kernel_rfl
@[go_sem] theorem tpl_13 : tpl Try.prog 13 = true := by kernel_rfl
@[go_sem] theorem tfl_13_0 : tfl Try.prog 13 0 = some (0, 1, false) := by kernel_rfl
@[go_sem] theorem tfl_13_1 : tfl Try.prog 13 1 = some (1, 1, false) := by kernel_rfl
@[go_sem] theorem tagg_14 : tagg Try.prog 14 = some true := by kernel_rfl
@[go_sem] theorem tsz_14 : tsz Try.prog 14 = some 2 := by kernel_rfl
@[go_sem] theorem tby_14 : tby Try.prog 14 = some 24 := by kernel_rfl
@[go_sem] theorem zac_14 : zeroAC Try.prog 14 = some [.d (.sc (.string ByteArray.empty)), .d (.sc (.int .u64 0))] := by kernel_rfl
@[go_sem] theorem tzero_14 : tzero Try.prog 14 = some [.string ByteArray.empty, .int .u64 0] := by kernel_rfl
@[go_sem] theorem tpl_14 : tpl Try.prog 14 = true := by kernel_rfl
@[go_sem] theorem tfl_14_0 : tfl Try.prog 14 0 = some (0, 1, false) := by kernel_rfl
@[go_sem] theorem tfl_14_1 : tfl Try.prog 14 1 = some (1, 1, false) := by kernel_rfl
@[go_sem] theorem tagg_18 : tagg Try.prog 18 = some true := by kernel_rfl
@[go_sem] theorem tsz_18 : tsz Try.prog 18 = some 1 := by kernel_rfl
@[go_sem] theorem tby_18 : tby Try.prog 18 = some 8 := by kernel_rfl
@[go_sem] theorem tagg_19 : tagg Try.prog 19 = some true := by kernel_rfl
@[go_sem] theorem tsz_19 : tsz Try.prog 19 = some 1 := by kernel_rfl
@[go_sem] theorem tby_19 : tby Try.prog 19 = some 8 := by kernel_rfl
@[go_sem] theorem tagg_21 : tagg Try.prog 21 = some false := by kernel_rfl
@[go_sem] theorem tsz_21 : tsz Try.prog 21 = some 1 := by kernel_rfl
@[go_sem] theorem tby_21 : tby Try.prog 21 = some 4 := by kernel_rfl
@[go_sem] theorem und_21 : Try.prog.underlying 21 = some (.int .i32) := by kernel_rfl
@[go_sem] theorem zac_21 : zeroAC Try.prog 21 = some [.d (.sc (.int .i32 0))] := by kernel_rfl
@[go_sem] theorem tzero_21 : tzero Try.prog 21 = some [.int .i32 0] := by kernel_rfl
@[go_sem] theorem tagg_22 : tagg Try.prog 22 = some false := by kernel_rfl
@[go_sem] theorem tsz_22 : tsz Try.prog 22 = some 1 := by kernel_rfl
@[go_sem] theorem tby_22 : tby Try.prog 22 = some 24 := by kernel_rfl
@[go_sem] theorem zac_22 : zeroAC Try.prog 22 = some [.nil] := by kernel_rfl
@[go_sem] theorem tzero_22 : tzero Try.prog 22 = some [.slice none 0 0] := by kernel_rfl
@[go_sem] theorem tel_22 : tel Try.prog 22 = some (70, 3) := by kernel_rfl
@[go_sem] theorem tagg_24 : tagg Try.prog 24 = some true := by kernel_rfl
@[go_sem] theorem tsz_24 : tsz Try.prog 24 = some 3 := by kernel_rfl
@[go_sem] theorem tby_24 : tby Try.prog 24 = some 32 := by kernel_rfl
@[go_sem] theorem zac_24 : zeroAC Try.prog 24 = some [.d (.sc (.int .i64 0)), .d (.sc (.int .i64 0)), .d (.sc (.string ByteArray.empty))] := by kernel_rfl
@[go_sem] theorem tzero_24 : tzero Try.prog 24 = some [.int .i64 0, .int .i64 0, .string ByteArray.empty] := by kernel_rfl
@[go_sem] theorem tpl_24 : tpl Try.prog 24 = true := by kernel_rfl
@[go_sem] theorem tfl_24_0 : tfl Try.prog 24 0 = some (0, 1, false) := by kernel_rfl
@[go_sem] theorem tfl_24_1 : tfl Try.prog 24 1 = some (1, 1, false) := by kernel_rfl
@[go_sem] theorem tfl_24_2 : tfl Try.prog 24 2 = some (2, 1, false) := by kernel_rfl
@[go_sem] theorem tagg_25 : tagg Try.prog 25 = some true := by kernel_rfl
@[go_sem] theorem tsz_25 : tsz Try.prog 25 = some 3 := by kernel_rfl
@[go_sem] theorem tby_25 : tby Try.prog 25 = some 32 := by kernel_rfl
@[go_sem] theorem zac_25 : zeroAC Try.prog 25 = some [.d (.sc (.int .i64 0)), .d (.sc (.int .i64 0)), .d (.sc (.string ByteArray.empty))] := by kernel_rfl
@[go_sem] theorem tzero_25 : tzero Try.prog 25 = some [.int .i64 0, .int .i64 0, .string ByteArray.empty] := by kernel_rfl
@[go_sem] theorem tpl_25 : tpl Try.prog 25 = true := by kernel_rfl
@[go_sem] theorem tfl_25_0 : tfl Try.prog 25 0 = some (0, 1, false) := by kernel_rfl
@[go_sem] theorem tfl_25_1 : tfl Try.prog 25 1 = some (1, 1, false) := by kernel_rfl
@[go_sem] theorem tfl_25_2 : tfl Try.prog 25 2 = some (2, 1, false) := by kernel_rfl
@[go_sem] theorem tagg_27 : tagg Try.prog 27 = some false := by kernel_rfl
@[go_sem] theorem tsz_27 : tsz Try.prog 27 = some 1 := by kernel_rfl
@[go_sem] theorem tby_27 : tby Try.prog 27 = some 24 := by kernel_rfl
@[go_sem] theorem zac_27 : zeroAC Try.prog 27 = some [.nil] := by kernel_rfl
@[go_sem] theorem tzero_27 : tzero Try.prog 27 = some [.slice none 0 0] := by kernel_rfl
@[go_sem] theorem tel_27 : tel Try.prog 27 = some (25, 3) := by kernel_rfl
@[go_sem] theorem tagg_32 : tagg Try.prog 32 = some true := by kernel_rfl
@[go_sem] theorem tsz_32 : tsz Try.prog 32 = some 3 := by kernel_rfl
@[go_sem] theorem tby_32 : tby Try.prog 32 = some 40 := by kernel_rfl
@[go_sem] theorem zac_32 : zeroAC Try.prog 32 = some [.d (.sc (.int .i64 0)), .d (.sc (.int .i64 0)), .nil] := by kernel_rfl
@[go_sem] theorem tzero_32 : tzero Try.prog 32 = some [.int .i64 0, .int .i64 0, .slice none 0 0] := by kernel_rfl
@[go_sem] theorem tpl_32 : tpl Try.prog 32 = true := by kernel_rfl
@[go_sem] theorem tfl_32_0 : tfl Try.prog 32 0 = some (0, 1, false) := by kernel_rfl
@[go_sem] theorem tfl_32_1 : tfl Try.prog 32 1 = some (1, 1, false) := by kernel_rfl
@[go_sem] theorem tfl_32_2 : tfl Try.prog 32 2 = some (2, 1, false) := by kernel_rfl
@[go_sem] theorem tagg_33 : tagg Try.prog 33 = some true := by kernel_rfl
@[go_sem] theorem tsz_33 : tsz Try.prog 33 = some 3 := by kernel_rfl
@[go_sem] theorem tby_33 : tby Try.prog 33 = some 40 := by kernel_rfl
@[go_sem] theorem zac_33 : zeroAC Try.prog 33 = some [.d (.sc (.int .i64 0)), .d (.sc (.int .i64 0)), .nil] := by kernel_rfl
@[go_sem] theorem tzero_33 : tzero Try.prog 33 = some [.int .i64 0, .int .i64 0, .slice none 0 0] := by kernel_rfl
@[go_sem] theorem tpl_33 : tpl Try.prog 33 = true := by kernel_rfl
@[go_sem] theorem tfl_33_0 : tfl Try.prog 33 0 = some (0, 1, false) := by kernel_rfl
@[go_sem] theorem tfl_33_1 : tfl Try.prog 33 1 = some (1, 1, false) := by kernel_rfl
@[go_sem] theorem tfl_33_2 : tfl Try.prog 33 2 = some (2, 1, false) := by kernel_rfl
@[go_sem] theorem tagg_39 : tagg Try.prog 39 = some true := by kernel_rfl
@[go_sem] theorem tsz_39 : tsz Try.prog 39 = some 3 := by kernel_rfl
@[go_sem] theorem tby_39 : tby Try.prog 39 = some 40 := by kernel_rfl
@[go_sem] theorem zac_39 : zeroAC Try.prog 39 = some [.d (.sc (.int .i64 0)), .d (.sc (.int .i64 0)), .nil] := by kernel_rfl
@[go_sem] theorem tzero_39 : tzero Try.prog 39 = some [.int .i64 0, .int .i64 0, .slice none 0 0] := by kernel_rfl
@[go_sem] theorem tpl_39 : tpl Try.prog 39 = true := by kernel_rfl
@[go_sem] theorem tfl_39_0 : tfl Try.prog 39 0 = some (0, 1, false) := by kernel_rfl
@[go_sem] theorem tfl_39_1 : tfl Try.prog 39 1 = some (1, 1, false) := by kernel_rfl
@[go_sem] theorem tfl_39_2 : tfl Try.prog 39 2 = some (2, 1, false) := by kernel_rfl
@[go_sem] theorem tagg_40 : tagg Try.prog 40 = some true := by kernel_rfl
@[go_sem] theorem tsz_40 : tsz Try.prog 40 = some 3 := by kernel_rfl
@[go_sem] theorem tby_40 : tby Try.prog 40 = some 40 := by kernel_rfl
@[go_sem] theorem zac_40 : zeroAC Try.prog 40 = some [.d (.sc (.int .i64 0)), .d (.sc (.int .i64 0)), .nil] := by kernel_rfl
@[go_sem] theorem tzero_40 : tzero Try.prog 40 = some [.int .i64 0, .int .i64 0, .slice none 0 0] := by kernel_rfl
@[go_sem] theorem tpl_40 : tpl Try.prog 40 = true := by kernel_rfl
@[go_sem] theorem tfl_40_0 : tfl Try.prog 40 0 = some (0, 1, false) := by kernel_rfl
@[go_sem] theorem tfl_40_1 : tfl Try.prog 40 1 = some (1, 1, false) := by kernel_rfl
@[go_sem] theorem tfl_40_2 : tfl Try.prog 40 2 = some (2, 1, false) := by kernel_rfl
@[go_sem] theorem tagg_45 : tagg Try.prog 45 = some false := by kernel_rfl
@[go_sem] theorem tsz_45 : tsz Try.prog 45 = some 1 := by kernel_rfl
@[go_sem] theorem tby_45 : tby Try.prog 45 = some 24 := by kernel_rfl
@[go_sem] theorem zac_45 : zeroAC Try.prog 45 = some [.nil] := by kernel_rfl
@[go_sem] theorem tzero_45 : tzero Try.prog 45 = some [.slice none 0 0] := by kernel_rfl
@[go_sem] theorem tel_45 : tel Try.prog 45 = some (5, 1) := by kernel_rfl
@[go_sem] theorem tagg_64 : tagg Try.prog 64 = some false := by kernel_rfl
@[go_sem] theorem tsz_64 : tsz Try.prog 64 = some 1 := by kernel_rfl
@[go_sem] theorem tby_64 : tby Try.prog 64 = some 24 := by kernel_rfl
@[go_sem] theorem zac_64 : zeroAC Try.prog 64 = some [.nil] := by kernel_rfl
@[go_sem] theorem tzero_64 : tzero Try.prog 64 = some [.slice none 0 0] := by kernel_rfl
@[go_sem] theorem tel_64 : tel Try.prog 64 = some (3, 1) := by kernel_rfl
@[go_sem] theorem tagg_70 : tagg Try.prog 70 = some true := by kernel_rfl
@[go_sem] theorem tsz_70 : tsz Try.prog 70 = some 3 := by kernel_rfl
@[go_sem] theorem tby_70 : tby Try.prog 70 = some 32 := by kernel_rfl
@[go_sem] theorem zac_70 : zeroAC Try.prog 70 = some [.d (.sc (.int .i64 0)), .d (.sc (.int .i64 0)), .d (.sc (.string ByteArray.empty))] := by kernel_rfl
@[go_sem] theorem tzero_70 : tzero Try.prog 70 = some [.int .i64 0, .int .i64 0, .string ByteArray.empty] := by kernel_rfl
@[go_sem] theorem tpl_70 : tpl Try.prog 70 = true := by kernel_rfl
@[go_sem] theorem tfl_70_0 : tfl Try.prog 70 0 = some (0, 1, false) := by kernel_rfl
@[go_sem] theorem tfl_70_1 : tfl Try.prog 70 1 = some (1, 1, false) := by kernel_rfl
@[go_sem] theorem tfl_70_2 : tfl Try.prog 70 2 = some (2, 1, false) := by kernel_rfl
@[go_sem] theorem tagg_91 : tagg Try.prog 91 = some false := by kernel_rfl
@[go_sem] theorem tsz_91 : tsz Try.prog 91 = some 1 := by kernel_rfl
@[go_sem] theorem tby_91 : tby Try.prog 91 = some 24 := by kernel_rfl
@[go_sem] theorem zac_91 : zeroAC Try.prog 91 = some [.nil] := by kernel_rfl
@[go_sem] theorem tzero_91 : tzero Try.prog 91 = some [.slice none 0 0] := by kernel_rfl
@[go_sem] theorem tel_91 : tel Try.prog 91 = some (95, 5) := by kernel_rfl
@[go_sem] theorem tagg_94 : tagg Try.prog 94 = some true := by kernel_rfl
@[go_sem] theorem tsz_94 : tsz Try.prog 94 = some 5 := by kernel_rfl
@[go_sem] theorem tby_94 : tby Try.prog 94 = some 48 := by kernel_rfl
@[go_sem] theorem zac_94 : zeroAC Try.prog 94 = some [.d (.sc (.int .i64 0)), .d (.sc (.int .i64 0)), .d (.sc (.int .i64 0)), .d (.sc (.string ByteArray.empty)), .d (.sc (.bool false))] := by kernel_rfl
@[go_sem] theorem tzero_94 : tzero Try.prog 94 = some [.int .i64 0, .int .i64 0, .int .i64 0, .string ByteArray.empty, .bool false] := by kernel_rfl
@[go_sem] theorem tpl_94 : tpl Try.prog 94 = true := by kernel_rfl
@[go_sem] theorem tfl_94_0 : tfl Try.prog 94 0 = some (0, 1, false) := by kernel_rfl
@[go_sem] theorem tfl_94_1 : tfl Try.prog 94 1 = some (1, 3, true) := by kernel_rfl
@[go_sem] theorem tfl_94_2 : tfl Try.prog 94 2 = some (4, 1, false) := by kernel_rfl
@[go_sem] theorem tagg_95 : tagg Try.prog 95 = some true := by kernel_rfl
@[go_sem] theorem tsz_95 : tsz Try.prog 95 = some 5 := by kernel_rfl
@[go_sem] theorem tby_95 : tby Try.prog 95 = some 48 := by kernel_rfl
@[go_sem] theorem zac_95 : zeroAC Try.prog 95 = some [.d (.sc (.int .i64 0)), .d (.sc (.int .i64 0)), .d (.sc (.int .i64 0)), .d (.sc (.string ByteArray.empty)), .d (.sc (.bool false))] := by kernel_rfl
@[go_sem] theorem tzero_95 : tzero Try.prog 95 = some [.int .i64 0, .int .i64 0, .int .i64 0, .string ByteArray.empty, .bool false] := by kernel_rfl
@[go_sem] theorem tpl_95 : tpl Try.prog 95 = true := by kernel_rfl
@[go_sem] theorem tfl_95_0 : tfl Try.prog 95 0 = some (0, 1, false) := by kernel_rfl
@[go_sem] theorem tfl_95_1 : tfl Try.prog 95 1 = some (1, 3, true) := by kernel_rfl
@[go_sem] theorem tfl_95_2 : tfl Try.prog 95 2 = some (4, 1, false) := by kernel_rfl
@[go_sem] theorem tagg_101 : tagg Try.prog 101 = some true := by kernel_rfl
@[go_sem] theorem tsz_101 : tsz Try.prog 101 = some 3 := by kernel_rfl
@[go_sem] theorem tby_101 : tby Try.prog 101 = some 40 := by kernel_rfl
@[go_sem] theorem zac_101 : zeroAC Try.prog 101 = some [.nil, .d (.sc (.int .i64 0)), .d (.sc (.int .i64 0))] := by kernel_rfl
@[go_sem] theorem tzero_101 : tzero Try.prog 101 = some [.slice none 0 0, .int .i64 0, .int .i64 0] := by kernel_rfl
@[go_sem] theorem tpl_101 : tpl Try.prog 101 = true := by kernel_rfl
@[go_sem] theorem tfl_101_0 : tfl Try.prog 101 0 = some (0, 1, false) := by kernel_rfl
@[go_sem] theorem tfl_101_1 : tfl Try.prog 101 1 = some (1, 1, false) := by kernel_rfl
@[go_sem] theorem tfl_101_2 : tfl Try.prog 101 2 = some (2, 1, false) := by kernel_rfl
@[go_sem] theorem tagg_102 : tagg Try.prog 102 = some true := by kernel_rfl
@[go_sem] theorem tsz_102 : tsz Try.prog 102 = some 3 := by kernel_rfl
@[go_sem] theorem tby_102 : tby Try.prog 102 = some 40 := by kernel_rfl
@[go_sem] theorem zac_102 : zeroAC Try.prog 102 = some [.nil, .d (.sc (.int .i64 0)), .d (.sc (.int .i64 0))] := by kernel_rfl
@[go_sem] theorem tzero_102 : tzero Try.prog 102 = some [.slice none 0 0, .int .i64 0, .int .i64 0] := by kernel_rfl
@[go_sem] theorem tpl_102 : tpl Try.prog 102 = true := by kernel_rfl
@[go_sem] theorem tfl_102_0 : tfl Try.prog 102 0 = some (0, 1, false) := by kernel_rfl
@[go_sem] theorem tfl_102_1 : tfl Try.prog 102 1 = some (1, 1, false) := by kernel_rfl
@[go_sem] theorem tfl_102_2 : tfl Try.prog 102 2 = some (2, 1, false) := by kernel_rfl
@[go_sem] theorem tagg_107 : tagg Try.prog 107 = some false := by kernel_rfl
@[go_sem] theorem tsz_107 : tsz Try.prog 107 = some 1 := by kernel_rfl
@[go_sem] theorem tby_107 : tby Try.prog 107 = some 8 := by kernel_rfl
@[go_sem] theorem und_107 : Try.prog.underlying 107 = some (.int .u64) := by kernel_rfl
@[go_sem] theorem zac_107 : zeroAC Try.prog 107 = some [.d (.sc (.int .u64 0))] := by kernel_rfl
@[go_sem] theorem tzero_107 : tzero Try.prog 107 = some [.int .u64 0] := by kernel_rfl
@[go_sem] theorem tagg_111 : tagg Try.prog 111 = some true := by kernel_rfl
@[go_sem] theorem tsz_111 : tsz Try.prog 111 = some 4 := by kernel_rfl
@[go_sem] theorem tby_111 : tby Try.prog 111 = some 40 := by kernel_rfl
@[go_sem] theorem tagg_112 : tagg Try.prog 112 = some true := by kernel_rfl
@[go_sem] theorem tsz_112 : tsz Try.prog 112 = some 4 := by kernel_rfl
@[go_sem] theorem tby_112 : tby Try.prog 112 = some 40 := by kernel_rfl
@[go_sem] theorem tagg_114 : tagg Try.prog 114 = some true := by kernel_rfl
@[go_sem] theorem tsz_114 : tsz Try.prog 114 = some 0 := by kernel_rfl
@[go_sem] theorem tby_114 : tby Try.prog 114 = some 0 := by kernel_rfl
@[go_sem] theorem zac_114 : zeroAC Try.prog 114 = some [] := by kernel_rfl
@[go_sem] theorem tzero_114 : tzero Try.prog 114 = some [] := by kernel_rfl
@[go_sem] theorem tagg_115 : tagg Try.prog 115 = some true := by kernel_rfl
@[go_sem] theorem tsz_115 : tsz Try.prog 115 = some 0 := by kernel_rfl
@[go_sem] theorem tby_115 : tby Try.prog 115 = some 0 := by kernel_rfl
@[go_sem] theorem zac_115 : zeroAC Try.prog 115 = some [] := by kernel_rfl
@[go_sem] theorem tzero_115 : tzero Try.prog 115 = some [] := by kernel_rfl
@[go_sem] theorem tagg_117 : tagg Try.prog 117 = some false := by kernel_rfl
@[go_sem] theorem tsz_117 : tsz Try.prog 117 = some 1 := by kernel_rfl
@[go_sem] theorem tby_117 : tby Try.prog 117 = some 4 := by kernel_rfl
@[go_sem] theorem und_117 : Try.prog.underlying 117 = some (.int .u32) := by kernel_rfl
@[go_sem] theorem zac_117 : zeroAC Try.prog 117 = some [.d (.sc (.int .u32 0))] := by kernel_rfl
@[go_sem] theorem tzero_117 : tzero Try.prog 117 = some [.int .u32 0] := by kernel_rfl
@[go_sem] theorem tagg_118 : tagg Try.prog 118 = some false := by kernel_rfl
@[go_sem] theorem tsz_118 : tsz Try.prog 118 = some 1 := by kernel_rfl
@[go_sem] theorem tby_118 : tby Try.prog 118 = some 1 := by kernel_rfl
@[go_sem] theorem und_118 : Try.prog.underlying 118 = some (.int .u8) := by kernel_rfl
@[go_sem] theorem zac_118 : zeroAC Try.prog 118 = some [.d (.sc (.int .u8 0))] := by kernel_rfl
@[go_sem] theorem tzero_118 : tzero Try.prog 118 = some [.int .u8 0] := by kernel_rfl
@[go_sem] theorem tagg_119 : tagg Try.prog 119 = some false := by kernel_rfl
@[go_sem] theorem tsz_119 : tsz Try.prog 119 = some 1 := by kernel_rfl
@[go_sem] theorem tby_119 : tby Try.prog 119 = some 1 := by kernel_rfl
@[go_sem] theorem und_119 : Try.prog.underlying 119 = some (.int .u8) := by kernel_rfl
@[go_sem] theorem zac_119 : zeroAC Try.prog 119 = some [.d (.sc (.int .u8 0))] := by kernel_rfl
@[go_sem] theorem tzero_119 : tzero Try.prog 119 = some [.int .u8 0] := by kernel_rfl
@[go_sem] theorem tagg_122 : tagg Try.prog 122 = some false := by kernel_rfl
@[go_sem] theorem tsz_122 : tsz Try.prog 122 = some 1 := by kernel_rfl
@[go_sem] theorem tby_122 : tby Try.prog 122 = some 4 := by kernel_rfl
@[go_sem] theorem und_122 : Try.prog.underlying 122 = some (.int .i32) := by kernel_rfl
@[go_sem] theorem zac_122 : zeroAC Try.prog 122 = some [.d (.sc (.int .i32 0))] := by kernel_rfl
@[go_sem] theorem tzero_122 : tzero Try.prog 122 = some [.int .i32 0] := by kernel_rfl
@[go_sem] theorem tagg_123 : tagg Try.prog 123 = some false := by kernel_rfl
@[go_sem] theorem tsz_123 : tsz Try.prog 123 = some 1 := by kernel_rfl
@[go_sem] theorem tby_123 : tby Try.prog 123 = some 4 := by kernel_rfl
@[go_sem] theorem und_123 : Try.prog.underlying 123 = some (.int .i32) := by kernel_rfl
@[go_sem] theorem zac_123 : zeroAC Try.prog 123 = some [.d (.sc (.int .i32 0))] := by kernel_rfl
@[go_sem] theorem tzero_123 : tzero Try.prog 123 = some [.int .i32 0] := by kernel_rfl
@[go_sem] theorem tagg_124 : tagg Try.prog 124 = some true := by kernel_rfl
@[go_sem] theorem tsz_124 : tsz Try.prog 124 = some 11 := by kernel_rfl
@[go_sem] theorem tby_124 : tby Try.prog 124 = some 48 := by kernel_rfl
@[go_sem] theorem tagg_125 : tagg Try.prog 125 = some true := by kernel_rfl
@[go_sem] theorem tsz_125 : tsz Try.prog 125 = some 11 := by kernel_rfl
@[go_sem] theorem tby_125 : tby Try.prog 125 = some 48 := by kernel_rfl
end Go.Proofs.Ytlcnokbhoekpkaa
