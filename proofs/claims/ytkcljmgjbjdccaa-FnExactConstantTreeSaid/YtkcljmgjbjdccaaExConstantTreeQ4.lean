/- Proved: for every input the law 'FnExactConstantTree' returns true and its arguments read behind the call as before: part 4 of its proof. No condition. -/
import Derived.WalkKit
import Derived.Lib.Hide
import Derived.WalkSpells
import Derived.Laws.OwnMore
import Derived.Deep.AppendLies
import Derived.Deep.Draws
import Derived.Maps.AppendAt
import Derived.RegionTactic
import Derived.OwnWalk
import Derived.Below
import Derived.Laws.AppendOwnNone
import Derived.Deep.QuietTactic
import Derived.BigQuiet
import Derived.StillTailTactics
import Derived.Laws.Cells
import Derived.Laws.IdiomCopy
import Derived.ChangeKeysEq
import Derived.Laws.BytesArg
import Derived.Laws.StructEq
import Derived.Laws.Tables
import Derived.Great.BuildSlice
import Derived.StillTail
import Derived.OrdersHeld
import Derived.Test.YtkcljmgjbjdccaaProg
import Derived.Deep.Slices
import Derived.Deep.Fields
import Derived.ChangeSame
import Derived.OpenShut
import Derived.Laws.ResultCell
import Derived.Deep.RegionWith
import Derived.Laws.IdiomStrings
import Derived.Test.YtkcljmgjbjdccaaExConstantTreeQ3
set_option linter.unusedVariables false
set_option linter.unusedSimpArgs false
namespace Go.Proofs.Ytkcljmgjbjdccaa
open Go.RowKit
@[go_sem] theorem tagg_2 : tagg Try.prog 2 = some false := by kernel_rfl
@[go_sem] theorem tsz_2 : tsz Try.prog 2 = some 1 := by kernel_rfl
@[go_sem] theorem tby_2 : tby Try.prog 2 = some 8 := by kernel_rfl
@[go_sem] theorem und_2 : Try.prog.underlying 2 = some (.int .i64) := by kernel_rfl
@[go_sem] theorem zac_2 : zeroAC Try.prog 2 = some [.d (.sc (.int .i64 0))] := by kernel_rfl
@[go_sem] theorem tzero_2 : tzero Try.prog 2 = some [.int .i64 0] := by kernel_rfl
@[go_sem] theorem tagg_3 : tagg Try.prog 3 = some false := by kernel_rfl
@[go_sem] theorem tsz_3 : tsz Try.prog 3 = some 1 := by kernel_rfl
@[go_sem] theorem tby_3 : tby Try.prog 3 = some 8 := by kernel_rfl
@[go_sem] theorem und_3 : Try.prog.underlying 3 = some (.int .i64) := by kernel_rfl
@[go_sem] theorem zac_3 : zeroAC Try.prog 3 = some [.d (.sc (.int .i64 0))] := by kernel_rfl
@[go_sem] theorem tzero_3 : tzero Try.prog 3 = some [.int .i64 0] := by kernel_rfl
@[go_sem] theorem tagg_4 : tagg Try.prog 4 = some false := by kernel_rfl
@[go_sem] theorem tsz_4 : tsz Try.prog 4 = some 1 := by kernel_rfl
@[go_sem] theorem tby_4 : tby Try.prog 4 = some 1 := by kernel_rfl
@[go_sem] theorem und_4 : Try.prog.underlying 4 = some .bool := by kernel_rfl
@[go_sem] theorem zac_4 : zeroAC Try.prog 4 = some [.d (.sc (.bool false))] := by kernel_rfl
@[go_sem] theorem tzero_4 : tzero Try.prog 4 = some [.bool false] := by kernel_rfl
@[go_sem] theorem tagg_5 : tagg Try.prog 5 = some false := by kernel_rfl
@[go_sem] theorem tsz_5 : tsz Try.prog 5 = some 1 := by kernel_rfl
@[go_sem] theorem tby_5 : tby Try.prog 5 = some 1 := by kernel_rfl
@[go_sem] theorem und_5 : Try.prog.underlying 5 = some (.int .u8) := by kernel_rfl
@[go_sem] theorem zac_5 : zeroAC Try.prog 5 = some [.d (.sc (.int .u8 0))] := by kernel_rfl
@[go_sem] theorem tzero_5 : tzero Try.prog 5 = some [.int .u8 0] := by kernel_rfl
@[go_sem] theorem tagg_6 : tagg Try.prog 6 = some false := by kernel_rfl
@[go_sem] theorem tsz_6 : tsz Try.prog 6 = some 1 := by kernel_rfl
@[go_sem] theorem tby_6 : tby Try.prog 6 = some 1 := by kernel_rfl
@[go_sem] theorem und_6 : Try.prog.underlying 6 = some (.int .u8) := by kernel_rfl
@[go_sem] theorem zac_6 : zeroAC Try.prog 6 = some [.d (.sc (.int .u8 0))] := by kernel_rfl
@[go_sem] theorem tzero_6 : tzero Try.prog 6 = some [.int .u8 0] := by kernel_rfl
@[go_sem] theorem tagg_7 : tagg Try.prog 7 = some true := by kernel_rfl
@[go_sem] theorem tsz_7 : tsz Try.prog 7 = some 4 := by kernel_rfl
@[go_sem] theorem tby_7 : tby Try.prog 7 = some 24 := by kernel_rfl
@[go_sem] theorem zac_7 : zeroAC Try.prog 7 = some [.d (.sc (.int .i64 0)), .d (.sc (.int .i64 0)), .d (.sc (.bool false)), .d (.sc (.int .u8 0))] := by kernel_rfl
@[go_sem] theorem tzero_7 : tzero Try.prog 7 = some [.int .i64 0, .int .i64 0, .bool false, .int .u8 0] := by kernel_rfl
@[go_sem] theorem tpl_7 : tpl Try.prog 7 = true := by kernel_rfl
@[go_sem] theorem tfl_7_0 : tfl Try.prog 7 0 = some (0, 1, false) := by kernel_rfl
@[go_sem] theorem tfl_7_1 : tfl Try.prog 7 1 = some (1, 1, false) := by kernel_rfl
@[go_sem] theorem tfl_7_2 : tfl Try.prog 7 2 = some (2, 1, false) := by kernel_rfl
@[go_sem] theorem tfl_7_3 : tfl Try.prog 7 3 = some (3, 1, false) := by kernel_rfl
@[go_sem] theorem tagg_8 : tagg Try.prog 8 = some true := by kernel_rfl
@[go_sem] theorem tsz_8 : tsz Try.prog 8 = some 4 := by kernel_rfl
@[go_sem] theorem tby_8 : tby Try.prog 8 = some 24 := by kernel_rfl
@[go_sem] theorem zac_8 : zeroAC Try.prog 8 = some [.d (.sc (.int .i64 0)), .d (.sc (.int .i64 0)), .d (.sc (.bool false)), .d (.sc (.int .u8 0))] := by kernel_rfl
@[go_sem] theorem tzero_8 : tzero Try.prog 8 = some [.int .i64 0, .int .i64 0, .bool false, .int .u8 0] := by kernel_rfl
@[go_sem] theorem tpl_8 : tpl Try.prog 8 = true := by kernel_rfl
@[go_sem] theorem tfl_8_0 : tfl Try.prog 8 0 = some (0, 1, false) := by kernel_rfl
@[go_sem] theorem tfl_8_1 : tfl Try.prog 8 1 = some (1, 1, false) := by kernel_rfl
@[go_sem] theorem tfl_8_2 : tfl Try.prog 8 2 = some (2, 1, false) := by kernel_rfl
@[go_sem] theorem tfl_8_3 : tfl Try.prog 8 3 = some (3, 1, false) := by kernel_rfl
@[go_sem] theorem tagg_9 : tagg Try.prog 9 = some false := by kernel_rfl
@[go_sem] theorem tsz_9 : tsz Try.prog 9 = some 1 := by kernel_rfl
@[go_sem] theorem tby_9 : tby Try.prog 9 = some 16 := by kernel_rfl
@[go_sem] theorem und_9 : Try.prog.underlying 9 = some .string := by kernel_rfl
@[go_sem] theorem zac_9 : zeroAC Try.prog 9 = some [.d (.sc (.string ByteArray.empty))] := by kernel_rfl
@[go_sem] theorem tzero_9 : tzero Try.prog 9 = some [.string ByteArray.empty] := by kernel_rfl
@[go_sem] theorem tagg_10 : tagg Try.prog 10 = some false := by kernel_rfl
@[go_sem] theorem tsz_10 : tsz Try.prog 10 = some 1 := by kernel_rfl
@[go_sem] theorem tby_10 : tby Try.prog 10 = some 16 := by kernel_rfl
@[go_sem] theorem und_10 : Try.prog.underlying 10 = some .string := by kernel_rfl
@[go_sem] theorem zac_10 : zeroAC Try.prog 10 = some [.d (.sc (.string ByteArray.empty))] := by kernel_rfl
@[go_sem] theorem tzero_10 : tzero Try.prog 10 = some [.string ByteArray.empty] := by kernel_rfl
@[go_sem] theorem tagg_11 : tagg Try.prog 11 = some false := by kernel_rfl
@[go_sem] theorem tsz_11 : tsz Try.prog 11 = some 1 := by kernel_rfl
@[go_sem] theorem tby_11 : tby Try.prog 11 = some 16 := by kernel_rfl
@[go_sem] theorem und_11 : Try.prog.underlying 11 = some .string := by kernel_rfl
@[go_sem] theorem zac_11 : zeroAC Try.prog 11 = some [.d (.sc (.string ByteArray.empty))] := by kernel_rfl
@[go_sem] theorem tzero_11 : tzero Try.prog 11 = some [.string ByteArray.empty] := by kernel_rfl
@[go_sem] theorem tagg_12 : tagg Try.prog 12 = some false := by kernel_rfl
@[go_sem] theorem tsz_12 : tsz Try.prog 12 = some 1 := by kernel_rfl
@[go_sem] theorem tby_12 : tby Try.prog 12 = some 8 := by kernel_rfl
@[go_sem] theorem und_12 : Try.prog.underlying 12 = some (.int .u64) := by kernel_rfl
@[go_sem] theorem zac_12 : zeroAC Try.prog 12 = some [.d (.sc (.int .u64 0))] := by kernel_rfl
@[go_sem] theorem tzero_12 : tzero Try.prog 12 = some [.int .u64 0] := by kernel_rfl
@[go_sem] theorem tagg_13 : tagg Try.prog 13 = some true := by kernel_rfl
@[go_sem] theorem tsz_13 : tsz Try.prog 13 = some 2 := by kernel_rfl
@[go_sem] theorem tby_13 : tby Try.prog 13 = some 24 := by kernel_rfl
@[go_sem] theorem zac_13 : zeroAC Try.prog 13 = some [.d (.sc (.string ByteArray.empty)), .d (.sc (.int .u64 0))] := by kernel_rfl
@[go_sem] theorem tzero_13 : tzero Try.prog 13 = some [.string ByteArray.empty, .int .u64 0] := by kernel_rfl
@[go_sem] theorem tpl_13 : tpl Try.prog 13 = true := by kernel_rfl
@[go_sem] theorem tfl_13_0 : tfl Try.prog 13 0 = some (0, 1, false) := by kernel_rfl
@[go_sem] theorem tfl_13_1 : tfl Try.prog 13 1 = some (1, 1, false) := by kernel_rfl
@[go_sem] theorem tagg_14 : tagg Try.prog 14 = some true := by kernel_rfl
@[go_sem] theorem tsz_14 : tsz Try.prog 14 = some 2 := by kernel_rfl
@[go_sem] theorem tby_14 : tby Try.prog 14 = some 24 := by kernel_rfl
@[go_sem] theorem zac_14 : zeroAC Try.prog 14 = some [.d (.sc (.string ByteArray.empty)), .d (.sc (.int .u64 0))] := by kernel_rfl
@[go_sem] theorem tzero_14 : tzero Try.prog 14 = some [.string ByteArray.empty, .int .u64 0] := by kernel_rfl
@[go_sem] theorem tpl_14 : tpl Try.prog 14 = true := by kernel_rfl
@[go_sem] theorem tfl_14_0 : tfl Try.prog 14 0 = some (0, 1, false) := by kernel_rfl
@[go_sem] theorem tfl_14_1 : tfl Try.prog 14 1 = some (1, 1, false) := by kernel_rfl
@[go_sem] theorem tagg_18 : tagg Try.prog 18 = some true := by kernel_rfl
@[go_sem] theorem tsz_18 : tsz Try.prog 18 = some 1 := by kernel_rfl
@[go_sem] theorem tby_18 : tby Try.prog 18 = some 8 := by kernel_rfl
@[go_sem] theorem tagg_19 : tagg Try.prog 19 = some true := by kernel_rfl
@[go_sem] theorem tsz_19 : tsz Try.prog 19 = some 1 := by kernel_rfl
@[go_sem] theorem tby_19 : tby Try.prog 19 = some 8 := by kernel_rfl
@[go_sem] theorem tagg_21 : tagg Try.prog 21 = some false := by kernel_rfl
@[go_sem] theorem tsz_21 : tsz Try.prog 21 = some 1 := by kernel_rfl
@[go_sem] theorem tby_21 : tby Try.prog 21 = some 4 := by kernel_rfl
@[go_sem] theorem und_21 : Try.prog.underlying 21 = some (.int .i32) := by kernel_rfl
@[go_sem] theorem zac_21 : zeroAC Try.prog 21 = some [.d (.sc (.int .i32 0))] := by kernel_rfl
@[go_sem] theorem tzero_21 : tzero Try.prog 21 = some [.int .i32 0] := by kernel_rfl
@[go_sem] theorem tagg_22 : tagg Try.prog 22 = some false := by kernel_rfl
@[go_sem] theorem tsz_22 : tsz Try.prog 22 = some 1 := by kernel_rfl
@[go_sem] theorem tby_22 : tby Try.prog 22 = some 24 := by kernel_rfl
@[go_sem] theorem zac_22 : zeroAC Try.prog 22 = some [.nil] := by kernel_rfl
@[go_sem] theorem tzero_22 : tzero Try.prog 22 = some [.slice none 0 0] := by kernel_rfl
@[go_sem] theorem tel_22 : tel Try.prog 22 = some (71, 3) := by kernel_rfl
@[go_sem] theorem tagg_23 : tagg Try.prog 23 = some false := by kernel_rfl
@[go_sem] theorem tsz_23 : tsz Try.prog 23 = some 1 := by kernel_rfl
@[go_sem] theorem tby_23 : tby Try.prog 23 = some 24 := by kernel_rfl
@[go_sem] theorem zac_23 : zeroAC Try.prog 23 = some [.nil] := by kernel_rfl
@[go_sem] theorem tzero_23 : tzero Try.prog 23 = some [.slice none 0 0] := by kernel_rfl
@[go_sem] theorem tel_23 : tel Try.prog 23 = some (26, 8) := by kernel_rfl
@[go_sem] theorem tagg_24 : tagg Try.prog 24 = some false := by kernel_rfl
@[go_sem] theorem tsz_24 : tsz Try.prog 24 = some 1 := by kernel_rfl
@[go_sem] theorem tby_24 : tby Try.prog 24 = some 24 := by kernel_rfl
@[go_sem] theorem zac_24 : zeroAC Try.prog 24 = some [.nil] := by kernel_rfl
@[go_sem] theorem tzero_24 : tzero Try.prog 24 = some [.slice none 0 0] := by kernel_rfl
@[go_sem] theorem tel_24 : tel Try.prog 24 = some (9, 1) := by kernel_rfl
@[go_sem] theorem tagg_25 : tagg Try.prog 25 = some true := by kernel_rfl
@[go_sem] theorem tsz_25 : tsz Try.prog 25 = some 8 := by kernel_rfl
@[go_sem] theorem tby_25 : tby Try.prog 25 = some 144 := by kernel_rfl
@[go_sem] theorem zac_25 : zeroAC Try.prog 25 = some [.d (.sc (.int .i64 0)), .nil, .nil, .nil, .nil, .nil, .d (.sc (.int .i64 0)), .d (.sc (.int .i64 0))] := by kernel_rfl
@[go_sem] theorem tzero_25 : tzero Try.prog 25 = some [.int .i64 0, .slice none 0 0, .slice none 0 0, .slice none 0 0, .slice none 0 0, .slice none 0 0, .int .i64 0, .int .i64 0] := by kernel_rfl
@[go_sem] theorem tpl_25 : tpl Try.prog 25 = true := by kernel_rfl
@[go_sem] theorem tfl_25_0 : tfl Try.prog 25 0 = some (0, 1, false) := by kernel_rfl
@[go_sem] theorem tfl_25_1 : tfl Try.prog 25 1 = some (1, 1, false) := by kernel_rfl
@[go_sem] theorem tfl_25_2 : tfl Try.prog 25 2 = some (2, 1, false) := by kernel_rfl
@[go_sem] theorem tfl_25_3 : tfl Try.prog 25 3 = some (3, 1, false) := by kernel_rfl
@[go_sem] theorem tfl_25_4 : tfl Try.prog 25 4 = some (4, 1, false) := by kernel_rfl
@[go_sem] theorem tfl_25_5 : tfl Try.prog 25 5 = some (5, 1, false) := by kernel_rfl
@[go_sem] theorem tfl_25_6 : tfl Try.prog 25 6 = some (6, 1, false) := by kernel_rfl
@[go_sem] theorem tfl_25_7 : tfl Try.prog 25 7 = some (7, 1, false) := by kernel_rfl
@[go_sem] theorem tagg_26 : tagg Try.prog 26 = some true := by kernel_rfl
@[go_sem] theorem tsz_26 : tsz Try.prog 26 = some 8 := by kernel_rfl
@[go_sem] theorem tby_26 : tby Try.prog 26 = some 144 := by kernel_rfl
@[go_sem] theorem zac_26 : zeroAC Try.prog 26 = some [.d (.sc (.int .i64 0)), .nil, .nil, .nil, .nil, .nil, .d (.sc (.int .i64 0)), .d (.sc (.int .i64 0))] := by kernel_rfl
@[go_sem] theorem tzero_26 : tzero Try.prog 26 = some [.int .i64 0, .slice none 0 0, .slice none 0 0, .slice none 0 0, .slice none 0 0, .slice none 0 0, .int .i64 0, .int .i64 0] := by kernel_rfl
@[go_sem] theorem tpl_26 : tpl Try.prog 26 = true := by kernel_rfl
@[go_sem] theorem tfl_26_0 : tfl Try.prog 26 0 = some (0, 1, false) := by kernel_rfl
@[go_sem] theorem tfl_26_1 : tfl Try.prog 26 1 = some (1, 1, false) := by kernel_rfl
@[go_sem] theorem tfl_26_2 : tfl Try.prog 26 2 = some (2, 1, false) := by kernel_rfl
@[go_sem] theorem tfl_26_3 : tfl Try.prog 26 3 = some (3, 1, false) := by kernel_rfl
@[go_sem] theorem tfl_26_4 : tfl Try.prog 26 4 = some (4, 1, false) := by kernel_rfl
@[go_sem] theorem tfl_26_5 : tfl Try.prog 26 5 = some (5, 1, false) := by kernel_rfl
@[go_sem] theorem tfl_26_6 : tfl Try.prog 26 6 = some (6, 1, false) := by kernel_rfl
@[go_sem] theorem tfl_26_7 : tfl Try.prog 26 7 = some (7, 1, false) := by kernel_rfl
@[go_sem] theorem tagg_28 : tagg Try.prog 28 = some false := by kernel_rfl
@[go_sem] theorem tsz_28 : tsz Try.prog 28 = some 1 := by kernel_rfl
@[go_sem] theorem tby_28 : tby Try.prog 28 = some 24 := by kernel_rfl
@[go_sem] theorem zac_28 : zeroAC Try.prog 28 = some [.nil] := by kernel_rfl
@[go_sem] theorem tzero_28 : tzero Try.prog 28 = some [.slice none 0 0] := by kernel_rfl
@[go_sem] theorem tel_28 : tel Try.prog 28 = some (52, 5) := by kernel_rfl
@[go_sem] theorem tagg_31 : tagg Try.prog 31 = some false := by kernel_rfl
@[go_sem] theorem tsz_31 : tsz Try.prog 31 = some 1 := by kernel_rfl
@[go_sem] theorem tby_31 : tby Try.prog 31 = some 24 := by kernel_rfl
@[go_sem] theorem zac_31 : zeroAC Try.prog 31 = some [.nil] := by kernel_rfl
@[go_sem] theorem tzero_31 : tzero Try.prog 31 = some [.slice none 0 0] := by kernel_rfl
@[go_sem] theorem tel_31 : tel Try.prog 31 = some (54, 3) := by kernel_rfl
@[go_sem] theorem tagg_32 : tagg Try.prog 32 = some false := by kernel_rfl
@[go_sem] theorem tsz_32 : tsz Try.prog 32 = some 1 := by kernel_rfl
@[go_sem] theorem tby_32 : tby Try.prog 32 = some 24 := by kernel_rfl
@[go_sem] theorem zac_32 : zeroAC Try.prog 32 = some [.nil] := by kernel_rfl
@[go_sem] theorem tzero_32 : tzero Try.prog 32 = some [.slice none 0 0] := by kernel_rfl
@[go_sem] theorem tel_32 : tel Try.prog 32 = some (34, 8) := by kernel_rfl
@[go_sem] theorem tagg_33 : tagg Try.prog 33 = some true := by kernel_rfl
@[go_sem] theorem tsz_33 : tsz Try.prog 33 = some 8 := by kernel_rfl
@[go_sem] theorem tby_33 : tby Try.prog 33 = some 144 := by kernel_rfl
@[go_sem] theorem zac_33 : zeroAC Try.prog 33 = some [.d (.sc (.int .i64 0)), .nil, .nil, .nil, .nil, .nil, .d (.sc (.int .i64 0)), .d (.sc (.int .i64 0))] := by kernel_rfl
@[go_sem] theorem tzero_33 : tzero Try.prog 33 = some [.int .i64 0, .slice none 0 0, .slice none 0 0, .slice none 0 0, .slice none 0 0, .slice none 0 0, .int .i64 0, .int .i64 0] := by kernel_rfl
@[go_sem] theorem tpl_33 : tpl Try.prog 33 = true := by kernel_rfl
@[go_sem] theorem tfl_33_0 : tfl Try.prog 33 0 = some (0, 1, false) := by kernel_rfl
@[go_sem] theorem tfl_33_1 : tfl Try.prog 33 1 = some (1, 1, false) := by kernel_rfl
@[go_sem] theorem tfl_33_2 : tfl Try.prog 33 2 = some (2, 1, false) := by kernel_rfl
@[go_sem] theorem tfl_33_3 : tfl Try.prog 33 3 = some (3, 1, false) := by kernel_rfl
@[go_sem] theorem tfl_33_4 : tfl Try.prog 33 4 = some (4, 1, false) := by kernel_rfl
@[go_sem] theorem tfl_33_5 : tfl Try.prog 33 5 = some (5, 1, false) := by kernel_rfl
@[go_sem] theorem tfl_33_6 : tfl Try.prog 33 6 = some (6, 1, false) := by kernel_rfl
@[go_sem] theorem tfl_33_7 : tfl Try.prog 33 7 = some (7, 1, false) := by kernel_rfl
@[go_sem] theorem tagg_34 : tagg Try.prog 34 = some true := by kernel_rfl
@[go_sem] theorem tsz_34 : tsz Try.prog 34 = some 8 := by kernel_rfl
@[go_sem] theorem tby_34 : tby Try.prog 34 = some 144 := by kernel_rfl
@[go_sem] theorem zac_34 : zeroAC Try.prog 34 = some [.d (.sc (.int .i64 0)), .nil, .nil, .nil, .nil, .nil, .d (.sc (.int .i64 0)), .d (.sc (.int .i64 0))] := by kernel_rfl
@[go_sem] theorem tzero_34 : tzero Try.prog 34 = some [.int .i64 0, .slice none 0 0, .slice none 0 0, .slice none 0 0, .slice none 0 0, .slice none 0 0, .int .i64 0, .int .i64 0] := by kernel_rfl
@[go_sem] theorem tpl_34 : tpl Try.prog 34 = true := by kernel_rfl
@[go_sem] theorem tfl_34_0 : tfl Try.prog 34 0 = some (0, 1, false) := by kernel_rfl
@[go_sem] theorem tfl_34_1 : tfl Try.prog 34 1 = some (1, 1, false) := by kernel_rfl
@[go_sem] theorem tfl_34_2 : tfl Try.prog 34 2 = some (2, 1, false) := by kernel_rfl
@[go_sem] theorem tfl_34_3 : tfl Try.prog 34 3 = some (3, 1, false) := by kernel_rfl
@[go_sem] theorem tfl_34_4 : tfl Try.prog 34 4 = some (4, 1, false) := by kernel_rfl
@[go_sem] theorem tfl_34_5 : tfl Try.prog 34 5 = some (5, 1, false) := by kernel_rfl
@[go_sem] theorem tfl_34_6 : tfl Try.prog 34 6 = some (6, 1, false) := by kernel_rfl
@[go_sem] theorem tfl_34_7 : tfl Try.prog 34 7 = some (7, 1, false) := by kernel_rfl
@[go_sem] theorem tagg_41 : tagg Try.prog 41 = some false := by kernel_rfl
@[go_sem] theorem tsz_41 : tsz Try.prog 41 = some 1 := by kernel_rfl
@[go_sem] theorem tby_41 : tby Try.prog 41 = some 24 := by kernel_rfl
@[go_sem] theorem zac_41 : zeroAC Try.prog 41 = some [.nil] := by kernel_rfl
@[go_sem] theorem tzero_41 : tzero Try.prog 41 = some [.slice none 0 0] := by kernel_rfl
@[go_sem] theorem tel_41 : tel Try.prog 41 = some (67, 5) := by kernel_rfl
@[go_sem] theorem tagg_51 : tagg Try.prog 51 = some true := by kernel_rfl
@[go_sem] theorem tsz_51 : tsz Try.prog 51 = some 5 := by kernel_rfl
@[go_sem] theorem tby_51 : tby Try.prog 51 = some 64 := by kernel_rfl
@[go_sem] theorem zac_51 : zeroAC Try.prog 51 = some [.d (.sc (.int .i64 0)), .d (.sc (.int .i64 0)), .d (.sc (.string ByteArray.empty)), .nil, .d (.sc (.int .i64 0))] := by kernel_rfl
@[go_sem] theorem tzero_51 : tzero Try.prog 51 = some [.int .i64 0, .int .i64 0, .string ByteArray.empty, .slice none 0 0, .int .i64 0] := by kernel_rfl
@[go_sem] theorem tpl_51 : tpl Try.prog 51 = true := by kernel_rfl
@[go_sem] theorem tfl_51_0 : tfl Try.prog 51 0 = some (0, 1, false) := by kernel_rfl
@[go_sem] theorem tfl_51_1 : tfl Try.prog 51 1 = some (1, 1, false) := by kernel_rfl
@[go_sem] theorem tfl_51_2 : tfl Try.prog 51 2 = some (2, 1, false) := by kernel_rfl
@[go_sem] theorem tfl_51_3 : tfl Try.prog 51 3 = some (3, 1, false) := by kernel_rfl
@[go_sem] theorem tfl_51_4 : tfl Try.prog 51 4 = some (4, 1, false) := by kernel_rfl
@[go_sem] theorem tagg_52 : tagg Try.prog 52 = some true := by kernel_rfl
@[go_sem] theorem tsz_52 : tsz Try.prog 52 = some 5 := by kernel_rfl
@[go_sem] theorem tby_52 : tby Try.prog 52 = some 64 := by kernel_rfl
@[go_sem] theorem zac_52 : zeroAC Try.prog 52 = some [.d (.sc (.int .i64 0)), .d (.sc (.int .i64 0)), .d (.sc (.string ByteArray.empty)), .nil, .d (.sc (.int .i64 0))] := by kernel_rfl
@[go_sem] theorem tzero_52 : tzero Try.prog 52 = some [.int .i64 0, .int .i64 0, .string ByteArray.empty, .slice none 0 0, .int .i64 0] := by kernel_rfl
@[go_sem] theorem tpl_52 : tpl Try.prog 52 = true := by kernel_rfl
@[go_sem] theorem tfl_52_0 : tfl Try.prog 52 0 = some (0, 1, false) := by kernel_rfl
@[go_sem] theorem tfl_52_1 : tfl Try.prog 52 1 = some (1, 1, false) := by kernel_rfl
@[go_sem] theorem tfl_52_2 : tfl Try.prog 52 2 = some (2, 1, false) := by kernel_rfl
@[go_sem] theorem tfl_52_3 : tfl Try.prog 52 3 = some (3, 1, false) := by kernel_rfl
@[go_sem] theorem tfl_52_4 : tfl Try.prog 52 4 = some (4, 1, false) := by kernel_rfl
@[go_sem] theorem tagg_53 : tagg Try.prog 53 = some true := by kernel_rfl
@[go_sem] theorem tsz_53 : tsz Try.prog 53 = some 3 := by kernel_rfl
@[go_sem] theorem tby_53 : tby Try.prog 53 = some 32 := by kernel_rfl
@[go_sem] theorem zac_53 : zeroAC Try.prog 53 = some [.d (.sc (.int .i64 0)), .d (.sc (.int .i64 0)), .d (.sc (.string ByteArray.empty))] := by kernel_rfl
@[go_sem] theorem tzero_53 : tzero Try.prog 53 = some [.int .i64 0, .int .i64 0, .string ByteArray.empty] := by kernel_rfl
@[go_sem] theorem tpl_53 : tpl Try.prog 53 = true := by kernel_rfl
@[go_sem] theorem tfl_53_0 : tfl Try.prog 53 0 = some (0, 1, false) := by kernel_rfl
@[go_sem] theorem tfl_53_1 : tfl Try.prog 53 1 = some (1, 1, false) := by kernel_rfl
@[go_sem] theorem tfl_53_2 : tfl Try.prog 53 2 = some (2, 1, false) := by kernel_rfl
@[go_sem] theorem tagg_54 : tagg Try.prog 54 = some true := by kernel_rfl
@[go_sem] theorem tsz_54 : tsz Try.prog 54 = some 3 := by kernel_rfl
@[go_sem] theorem tby_54 : tby Try.prog 54 = some 32 := by kernel_rfl
@[go_sem] theorem zac_54 : zeroAC Try.prog 54 = some [.d (.sc (.int .i64 0)), .d (.sc (.int .i64 0)), .d (.sc (.string ByteArray.empty))] := by kernel_rfl
@[go_sem] theorem tzero_54 : tzero Try.prog 54 = some [.int .i64 0, .int .i64 0, .string ByteArray.empty] := by kernel_rfl
@[go_sem] theorem tpl_54 : tpl Try.prog 54 = true := by kernel_rfl
@[go_sem] theorem tfl_54_0 : tfl Try.prog 54 0 = some (0, 1, false) := by kernel_rfl
@[go_sem] theorem tfl_54_1 : tfl Try.prog 54 1 = some (1, 1, false) := by kernel_rfl
@[go_sem] theorem tfl_54_2 : tfl Try.prog 54 2 = some (2, 1, false) := by kernel_rfl
@[go_sem] theorem tagg_67 : tagg Try.prog 67 = some true := by kernel_rfl
@[go_sem] theorem tsz_67 : tsz Try.prog 67 = some 5 := by kernel_rfl
@[go_sem] theorem tby_67 : tby Try.prog 67 = some 64 := by kernel_rfl
@[go_sem] theorem zac_67 : zeroAC Try.prog 67 = some [.d (.sc (.int .i64 0)), .d (.sc (.int .i64 0)), .d (.sc (.string ByteArray.empty)), .nil, .d (.sc (.int .i64 0))] := by kernel_rfl
@[go_sem] theorem tzero_67 : tzero Try.prog 67 = some [.int .i64 0, .int .i64 0, .string ByteArray.empty, .slice none 0 0, .int .i64 0] := by kernel_rfl
@[go_sem] theorem tpl_67 : tpl Try.prog 67 = true := by kernel_rfl
@[go_sem] theorem tfl_67_0 : tfl Try.prog 67 0 = some (0, 1, false) := by kernel_rfl
@[go_sem] theorem tfl_67_1 : tfl Try.prog 67 1 = some (1, 1, false) := by kernel_rfl
@[go_sem] theorem tfl_67_2 : tfl Try.prog 67 2 = some (2, 1, false) := by kernel_rfl
@[go_sem] theorem tfl_67_3 : tfl Try.prog 67 3 = some (3, 1, false) := by kernel_rfl
@[go_sem] theorem tfl_67_4 : tfl Try.prog 67 4 = some (4, 1, false) := by kernel_rfl
@[go_sem] theorem tagg_71 : tagg Try.prog 71 = some true := by kernel_rfl
@[go_sem] theorem tsz_71 : tsz Try.prog 71 = some 3 := by kernel_rfl
@[go_sem] theorem tby_71 : tby Try.prog 71 = some 32 := by kernel_rfl
@[go_sem] theorem zac_71 : zeroAC Try.prog 71 = some [.d (.sc (.int .i64 0)), .d (.sc (.int .i64 0)), .d (.sc (.string ByteArray.empty))] := by kernel_rfl
@[go_sem] theorem tzero_71 : tzero Try.prog 71 = some [.int .i64 0, .int .i64 0, .string ByteArray.empty] := by kernel_rfl
@[go_sem] theorem tpl_71 : tpl Try.prog 71 = true := by kernel_rfl
@[go_sem] theorem tfl_71_0 : tfl Try.prog 71 0 = some (0, 1, false) := by kernel_rfl
@[go_sem] theorem tfl_71_1 : tfl Try.prog 71 1 = some (1, 1, false) := by kernel_rfl
@[go_sem] theorem tfl_71_2 : tfl Try.prog 71 2 = some (2, 1, false) := by kernel_rfl
@[go_sem] theorem tagg_76 : tagg Try.prog 76 = some false := by kernel_rfl
@[go_sem] theorem tsz_76 : tsz Try.prog 76 = some 1 := by kernel_rfl
@[go_sem] theorem tby_76 : tby Try.prog 76 = some 24 := by kernel_rfl
@[go_sem] theorem zac_76 : zeroAC Try.prog 76 = some [.nil] := by kernel_rfl
@[go_sem] theorem tzero_76 : tzero Try.prog 76 = some [.slice none 0 0] := by kernel_rfl
@[go_sem] theorem tel_76 : tel Try.prog 76 = some (5, 1) := by kernel_rfl
@[go_sem] theorem tagg_77 : tagg Try.prog 77 = some false := by kernel_rfl
@[go_sem] theorem tsz_77 : tsz Try.prog 77 = some 1 := by kernel_rfl
@[go_sem] theorem tby_77 : tby Try.prog 77 = some 24 := by kernel_rfl
@[go_sem] theorem zac_77 : zeroAC Try.prog 77 = some [.nil] := by kernel_rfl
@[go_sem] theorem tzero_77 : tzero Try.prog 77 = some [.slice none 0 0] := by kernel_rfl
@[go_sem] theorem tel_77 : tel Try.prog 77 = some (3, 1) := by kernel_rfl
@[go_sem] theorem tagg_97 : tagg Try.prog 97 = some true := by kernel_rfl
@[go_sem] theorem tsz_97 : tsz Try.prog 97 = some 4 := by kernel_rfl
@[go_sem] theorem tby_97 : tby Try.prog 97 = some 40 := by kernel_rfl
@[go_sem] theorem tagg_98 : tagg Try.prog 98 = some true := by kernel_rfl
@[go_sem] theorem tsz_98 : tsz Try.prog 98 = some 4 := by kernel_rfl
@[go_sem] theorem tby_98 : tby Try.prog 98 = some 40 := by kernel_rfl
@[go_sem] theorem tagg_100 : tagg Try.prog 100 = some true := by kernel_rfl
@[go_sem] theorem tsz_100 : tsz Try.prog 100 = some 0 := by kernel_rfl
@[go_sem] theorem tby_100 : tby Try.prog 100 = some 0 := by kernel_rfl
@[go_sem] theorem zac_100 : zeroAC Try.prog 100 = some [] := by kernel_rfl
@[go_sem] theorem tzero_100 : tzero Try.prog 100 = some [] := by kernel_rfl
@[go_sem] theorem tagg_101 : tagg Try.prog 101 = some true := by kernel_rfl
@[go_sem] theorem tsz_101 : tsz Try.prog 101 = some 0 := by kernel_rfl
@[go_sem] theorem tby_101 : tby Try.prog 101 = some 0 := by kernel_rfl
@[go_sem] theorem zac_101 : zeroAC Try.prog 101 = some [] := by kernel_rfl
@[go_sem] theorem tzero_101 : tzero Try.prog 101 = some [] := by kernel_rfl
@[go_sem] theorem tagg_103 : tagg Try.prog 103 = some false := by kernel_rfl
@[go_sem] theorem tsz_103 : tsz Try.prog 103 = some 1 := by kernel_rfl
@[go_sem] theorem tby_103 : tby Try.prog 103 = some 4 := by kernel_rfl
@[go_sem] theorem und_103 : Try.prog.underlying 103 = some (.int .u32) := by kernel_rfl
@[go_sem] theorem zac_103 : zeroAC Try.prog 103 = some [.d (.sc (.int .u32 0))] := by kernel_rfl
@[go_sem] theorem tzero_103 : tzero Try.prog 103 = some [.int .u32 0] := by kernel_rfl
@[go_sem] theorem tagg_104 : tagg Try.prog 104 = some false := by kernel_rfl
@[go_sem] theorem tsz_104 : tsz Try.prog 104 = some 1 := by kernel_rfl
@[go_sem] theorem tby_104 : tby Try.prog 104 = some 1 := by kernel_rfl
@[go_sem] theorem und_104 : Try.prog.underlying 104 = some (.int .u8) := by kernel_rfl
@[go_sem] theorem zac_104 : zeroAC Try.prog 104 = some [.d (.sc (.int .u8 0))] := by kernel_rfl
@[go_sem] theorem tzero_104 : tzero Try.prog 104 = some [.int .u8 0] := by kernel_rfl
@[go_sem] theorem tagg_105 : tagg Try.prog 105 = some false := by kernel_rfl
@[go_sem] theorem tsz_105 : tsz Try.prog 105 = some 1 := by kernel_rfl
@[go_sem] theorem tby_105 : tby Try.prog 105 = some 1 := by kernel_rfl
@[go_sem] theorem und_105 : Try.prog.underlying 105 = some (.int .u8) := by kernel_rfl
@[go_sem] theorem zac_105 : zeroAC Try.prog 105 = some [.d (.sc (.int .u8 0))] := by kernel_rfl
@[go_sem] theorem tzero_105 : tzero Try.prog 105 = some [.int .u8 0] := by kernel_rfl
@[go_sem] theorem tagg_108 : tagg Try.prog 108 = some false := by kernel_rfl
@[go_sem] theorem tsz_108 : tsz Try.prog 108 = some 1 := by kernel_rfl
@[go_sem] theorem tby_108 : tby Try.prog 108 = some 4 := by kernel_rfl
@[go_sem] theorem und_108 : Try.prog.underlying 108 = some (.int .i32) := by kernel_rfl
@[go_sem] theorem zac_108 : zeroAC Try.prog 108 = some [.d (.sc (.int .i32 0))] := by kernel_rfl
@[go_sem] theorem tzero_108 : tzero Try.prog 108 = some [.int .i32 0] := by kernel_rfl
@[go_sem] theorem tagg_109 : tagg Try.prog 109 = some false := by kernel_rfl
@[go_sem] theorem tsz_109 : tsz Try.prog 109 = some 1 := by kernel_rfl
@[go_sem] theorem tby_109 : tby Try.prog 109 = some 4 := by kernel_rfl
@[go_sem] theorem und_109 : Try.prog.underlying 109 = some (.int .i32) := by kernel_rfl
@[go_sem] theorem zac_109 : zeroAC Try.prog 109 = some [.d (.sc (.int .i32 0))] := by kernel_rfl
@[go_sem] theorem tzero_109 : tzero Try.prog 109 = some [.int .i32 0] := by kernel_rfl
@[go_sem] theorem tagg_110 : tagg Try.prog 110 = some true := by kernel_rfl
@[go_sem] theorem tsz_110 : tsz Try.prog 110 = some 11 := by kernel_rfl
@[go_sem] theorem tby_110 : tby Try.prog 110 = some 48 := by kernel_rfl
@[go_sem] theorem tagg_111 : tagg Try.prog 111 = some true := by kernel_rfl
@[go_sem] theorem tsz_111 : tsz Try.prog 111 = some 11 := by kernel_rfl
@[go_sem] theorem tby_111 : tby Try.prog 111 = some 48 := by kernel_rfl
end Go.Proofs.Ytkcljmgjbjdccaa

namespace Go.Proofs.Ytkcljmgjbjdccaa
open Go.RowKit
set_option maxRecDepth 100000
def u_laws_markText_h : List Hint := [⟨3000004, 2, ⟨[(3, .p false [.d 5]), (5, .p false [.d 3]), (2, .p false [.d 1]), (0, .p false [.d 6])], [], 0, 0, 7, [(3, false)]⟩, []⟩]
def u_laws_markText_d : List (Nat × Nat × Bool × List Nat) := []
def u_laws_markText_l0 : UP := .po (.k (.int .i64 0)) <| .po (.bin .gtr false 1 0) <| .ite 0 (.po (.k (.int .i64 10)) <| .po (.bin .rem false 3 0) <| .po (.k (.int .i64 48)) <| .po (.bin .add false 0 1) <| .po (.cvI .u8 0) <| .po (.sc 0) <| .po (.mk 5 1 [[0]]) <| .po (.cvB 0) <| .po (.bin .add false 0 10) <| .po (.k (.int .i64 10)) <| .po (.bin .quo false 11 0) <| .jump 0 [2, 0]) <| .po (.k (.string ⟨#[109]⟩)) <| .po (.bin .add false 0 4) <| .po (.sc 0) <| .ret [(false, [0])]
def u_laws_markText_u : UP := .po (.k (.string ⟨#[]⟩)) <| .po (.k (.int .i64 0)) <| .po (.bin .leq false 2 0) <| .ite 0 (.po (.k (.string ⟨#[109, 48]⟩)) <| .po (.sc 0) <| .ret [(false, [0])]) <| .po (.k (.string ⟨#[]⟩)) <| .loop [0, 4] u_laws_markText_l0
theorem u_laws_markText_g : toUPf Try.prog 36 Try.f36 owA u_laws_markText_h u_laws_markText_d = some ([(false, 1)], u_laws_markText_u) := by kernel_rfl
end Go.Proofs.Ytkcljmgjbjdccaa

namespace Go.Proofs.Ytkcljmgjbjdccaa
open Go.RowKit
set_option maxRecDepth 100000
def encU (n : Nat) : List DV := [.sc (.int .u8 (n : Int))]
def ofN (l : List Nat) : ByteArray := strOfNums (l.map fun n : Nat => (n : Int))
theorem ofN_data (l : List Nat) : (ofN l).data.toList = l.map UInt8.ofNat := by
  unfold ofN; rw [strOfNums_data, List.map_map]; rfl
theorem ofN_app (l m : List Nat) : ofN (l ++ m) = ofN l ++ ofN m := by
  apply ByteArray.ext
  apply Array.ext'
  rw [ByteArray.data_append, Array.toList_append, ofN_data, ofN_data, ofN_data, List.map_append]
theorem ofN_size (l : List Nat) : (ofN l).size = l.length := by
  unfold ofN; rw [strOfNums_size, List.length_map]
theorem nums_encU (l : List Nat) : numsOf (l.map encU) = some (l.map fun n : Nat => (n : Int)) := by
  induction l with
  | nil => rfl
  | cons n l ih => simp only [List.map_cons, encU, numsOf]; rw [ih]
theorem cvB_u {t : Nat} {l : List Nat} : eCvB (some (.sl t 1 (l.map encU))) = some [.sc (.string (ofN l))] := e_cvB (nums_encU l)
def dgs (m : Nat) : List Nat := if h : m = 0 then [] else dgs (m / 10) ++ [48 + m % 10]
termination_by m
decreasing_by omega
theorem dgs_zero : dgs 0 = [] := by rw [dgs]; simp
theorem dgs_pos {m : Nat} (h : m ≠ 0) : dgs m = dgs (m / 10) ++ [48 + m % 10] := by rw [dgs, dif_neg h]
theorem dgs_len (k : Nat) : ∀ m, m < 10 ^ k → (dgs m).length ≤ k := by
  induction k with
  | zero => intro m h; have : m = 0 := by simpa using h
            subst this; rw [dgs_zero]; exact Nat.zero_le _
  | succ k ih =>
    intro m h
    by_cases h0 : m = 0
    · subst h0; rw [dgs_zero]; exact Nat.zero_le _
    · rw [dgs_pos h0, List.length_append, List.length_singleton]
      have := ih (m / 10) (by rw [Nat.pow_succ] at h; omega)
      omega
theorem dgs_len19 {m : Nat} (h : m ≤ 9223372036854775808) : (dgs m).length ≤ 19 := dgs_len 19 m (Nat.lt_of_le_of_lt h (by decide))
end Go.Proofs.Ytkcljmgjbjdccaa

namespace Go.Proofs.Ytkcljmgjbjdccaa
open Go.RowKit
set_option maxRecDepth 100000
def markT (k : Nat) : ByteArray := ofN (109 :: dgs k)
theorem markText_m (k : Nat) (h0 : 0 < k) (h1 : k ≤ 4611686018427387904) : Meets Try.prog 36 [(false, [.sc (.int .i64 k)])] [(false, [.sc (.string (markT k))], true)] := by
  have hlen := dgs_len19 (m := k) (by omega)
  refine meets_upf Try.func36 u_laws_markText_g rfl ?_; simp only [u_laws_markText_u]
  simp (disch := first | omega | (simp only [List.length_take, List.length_drop, List.length_append, List.map_cons, List.map_nil, List.length_map, List.length_cons, List.length_nil, List.length_set, List.length_replicate]; omega) | (simp only [List.length_cons, List.length_nil, Nat.zero_add, Nat.reduceAdd])) only [go_sem, ↓reduceIte, Nat.reduceAdd, Int.reduceNeg, Int.reduceAdd, Int.reduceSub, Int.reduceMul, Int.reduceLT, Int.reduceLE, Int.reduceEq, Int.reduceToNat, Nat.reduceBEq, e_sle, e_sge, e_shl1, e_orI, e_andI, e_shr, wrapu, wrap8, tn1, nat1, ix_s, ix_z, st_s, st_z, fl_s, fl_z, fl1_s, fl1_z, map_s, map_z, true_and]
  refine br_if (fun h => absurd h (by omega)) (fun h => ?_)
  simp (disch := first | omega | (simp only [List.length_take, List.length_drop, List.length_append, List.map_cons, List.map_nil, List.length_map, List.length_cons, List.length_nil, List.length_set, List.length_replicate]; omega) | (simp only [List.length_cons, List.length_nil, Nat.zero_add, Nat.reduceAdd])) only [go_sem, ↓reduceIte, Nat.reduceAdd, Int.reduceNeg, Int.reduceAdd, Int.reduceSub, Int.reduceMul, Int.reduceLT, Int.reduceLE, Int.reduceEq, Int.reduceToNat, Nat.reduceBEq, e_sle, e_sge, e_shl1, e_orI, e_andI, e_shr, wrapu, wrap8, tn1, nat1, ix_s, ix_z, st_s, st_z, fl_s, fl_z, fl1_s, fl1_z, map_s, map_z, true_and]
  refine lp (fun s : Nat × List Nat => [.sc (.string (ofN s.2)), .sc (.int .i64 (s.1 : Nat))]) (fun s => s.1 ≤ k ∧ dgs s.1 ++ s.2 = dgs k) (fun s => s.1) (k, []) rfl ⟨Nat.le_refl _, by simp⟩ ?_
  rintro ⟨x, acc⟩ ⟨g1, g2⟩
  simp only at g1 g2 ⊢
  simp only [u_laws_markText_l0]
  have hal : acc.length ≤ 19 := by have := congrArg List.length g2; rw [List.length_append] at this; omega
  by_cases hx : x = 0
  · subst hx
    rw [dgs_zero, List.nil_append] at g2
    have e1 : (⟨#[109]⟩ : ByteArray).size + (ofN acc).size ≤ maxLen := by
      have e : (⟨#[109]⟩ : ByteArray).size = 1 := rfl
      rw [ofN_size]; unfold maxLen; omega
    repeat' (first | (with_reducible refine jn_in ?_) | (with_reducible refine cl_ok (by assumption) rfl ?_) | (with_reducible refine cl_okP (by assumption) rfl ?_) | (with_reducible refine br_if (fun hbr => ?_) (fun hbr => ?_)) | (with_reducible refine br_ifn (fun hbr => ?_) (fun hbr => ?_)) | (with_reducible refine br_nb (fun hbr => ?_) (fun hbr => ?_)) | (with_reducible refine br_b (fun hbr => ?_) (fun hbr => ?_)) | simp (disch := first | omega | (simp only [List.length_take, List.length_drop, List.length_append, List.map_cons, List.map_nil, List.length_map, List.length_cons, List.length_nil, List.length_set, List.length_replicate]; omega) | (simp only [List.length_cons, List.length_nil, Nat.zero_add, Nat.reduceAdd])) only [go_sem, ↓reduceIte, Nat.reduceAdd, Int.reduceNeg, Int.reduceAdd, Int.reduceSub, Int.reduceMul, Int.reduceLT, Int.reduceLE, Int.reduceEq, Int.reduceToNat, Nat.reduceBEq, e_sle, e_sge, e_shl1, e_orI, e_andI, e_shr, wrapu, wrap8, tn1, nat1, ix_s, ix_z, st_s, st_z, fl_s, fl_z, fl1_s, fl1_z, map_s, map_z, e_cat e1])
    refine ret_s ?_
    unfold markT; rw [g2]; exact ofN_app [109] _
  · have hd := dgs_pos hx
    have d1 : (x : Int).tmod 10 = ((x % 10 : Nat) : Int) := rfl
    have d2 : (x : Int).tdiv 10 = ((x / 10 : Nat) : Int) := rfl
    have d3 : (48 : Int) + ((x % 10 : Nat) : Int) = ((48 + x % 10 : Nat) : Int) := rfl
    have d4 : IntKind.u8.wrap ((48 + x % 10 : Nat) : Int) = ((48 + x % 10 : Nat) : Int) := wrap8 (by omega) (by omega)
    have d5 : eCvB (some (.sl 5 1 [[.sc (.int .u8 ((48 + x % 10 : Nat) : Int))]])) = some [.sc (.string (ofN [48 + x % 10]))] := cvB_u (l := [48 + x % 10])
    have e1 : (ofN [48 + x % 10]).size + (ofN acc).size ≤ maxLen := by rw [ofN_size, ofN_size]; unfold maxLen; simp; omega
    have happ : ofN [48 + x % 10] ++ ofN acc = ofN ((48 + x % 10) :: acc) := (ofN_app [48 + x % 10] acc).symm
    repeat' (first | (with_reducible refine jn_in ?_) | (with_reducible refine cl_ok (by assumption) rfl ?_) | (with_reducible refine cl_okP (by assumption) rfl ?_) | (with_reducible refine br_if (fun hbr => ?_) (fun hbr => ?_)) | (with_reducible refine br_ifn (fun hbr => ?_) (fun hbr => ?_)) | (with_reducible refine br_nb (fun hbr => ?_) (fun hbr => ?_)) | (with_reducible refine br_b (fun hbr => ?_) (fun hbr => ?_)) | simp (disch := first | omega | (simp only [List.length_take, List.length_drop, List.length_append, List.map_cons, List.map_nil, List.length_map, List.length_cons, List.length_nil, List.length_set, List.length_replicate]; omega) | (simp only [List.length_cons, List.length_nil, Nat.zero_add, Nat.reduceAdd])) only [go_sem, ↓reduceIte, Nat.reduceAdd, Int.reduceNeg, Int.reduceAdd, Int.reduceSub, Int.reduceMul, Int.reduceLT, Int.reduceLE, Int.reduceEq, Int.reduceToNat, Nat.reduceBEq, e_sle, e_sge, e_shl1, e_orI, e_andI, e_shr, wrapu, wrap8, tn1, nat1, ix_s, ix_z, st_s, st_z, fl_s, fl_z, fl1_s, fl1_z, map_s, map_z, d1, d2, d3, d4, d5, e_cat e1, happ])
    all_goals first | omega | exact ⟨(x / 10, (48 + x % 10) :: acc), rfl, ⟨by simp only; omega, by rw [← g2, hd]; simp⟩, by simp only; omega⟩
theorem argR_i {w : World} {B : Nat → Prop} {k : Int} : ArgR w B (.int .i64 k) (false, [.sc (.int .i64 k)]) := .sc trivial .nil
theorem markText_x (x : Int) (K : Nat) (w : World) (hx : x = K) (h0 : 0 < K) (h1 : K ≤ 4611686018427387904) :
    Calls Try.prog 36 #[.int .i64 x] w fun e w' => e = .returned (.string (markT K)) ∧ Below w.heap.size w w' := by
  subst hx
  exact run_law (markText_m K h0 h1) (ArgsR.cons argR_i ArgsR.nil)
theorem own_flat_nil {w : World} {base : Nat} {vals : List Value} {ds : List DV} {g : List Nat} (h : OwnL w base vals ds g) (hf : Flat ds) : g = [] := by
  induction h with
  | nil => rfl
  | sc _ _ ih => exact ih (fun d hd => hf d (List.mem_cons_of_mem _ hd))
  | sl => obtain ⟨v, hv⟩ := hf _ (List.mem_cons_self ..); cases hv
theorem wrote_grown {w w' : World} {v : Value} (h : w.grownBy w' v.ownBlock) : Wrote w w' ([v.ownBlock.toList] : List (List Nat)).flatten :=
  ⟨h.os, h.tape, h.output, h.size, fun b hb hn => h.block b hb (fun e => hn (by simp [← e]))⟩
end Go.Proofs.Ytkcljmgjbjdccaa

namespace Go.Proofs.Ytkcljmgjbjdccaa
open Go.RowKit
def itFlat (l : List It) : List Value := l.flatMap itCells
def itEnts (l : List It) : List (Ent It) := l.map fun x => ⟨x, [], itCells x⟩
theorem itEnts_c (l : List It) : (itEnts l).flatMap Ent.c = itFlat l := by simp [itEnts, itFlat, List.flatMap_map]
theorem itEnts_f (l : List It) : (itEnts l).flatMap Ent.f = [] := by simp [itEnts, List.flatMap_map]
theorem itEnts_x (l : List It) : (itEnts l).map Ent.x = l := by simp [itEnts, Function.comp_def]
theorem itFlat_len (l : List It) : (itFlat l).length = l.length * 3 := by
  rw [← itEnts_c, flat_len (size := 3) (by intro e he; simp [itEnts] at he; obtain ⟨x, _, rfl⟩ := he; rfl)]; simp [itEnts]
def OwI (w : World) (base : Nat) (v : Value) (l : List It) : Prop := w.ownsRow base 54 3 v l.length (itFlat l) ∧ ∀ x ∈ l, ItOk x
theorem OwI.ownN {w : World} {base : Nat} {v : Value} {l : List It} (h : OwI w base v l) : OwnN Lay.item w base 54 v (itEnts l) := by
  refine ⟨by rw [itEnts_c, show (itEnts l).length = l.length from by simp [itEnts]]; exact h.1, ?_, by rw [itEnts_f]; exact Ow.nil _ _, by rw [itEnts_f]; intro b hb; cases hb⟩
  intro x hx
  simp [itEnts] at hx
  obtain ⟨y, hy, rfl⟩ := hx
  exact ⟨rfl, rfl, h.2 y hy⟩
theorem OwI.read {w : World} {base : Nat} {v : Value} {l : List It} (h : OwI w base v l) : ∃ A c fp, v = .slice A l.length c ∧ SlR Lay.item w fp l A l.length c ∧ Ow w base fp := by
  have := h.ownN.read
  rw [itEnts_x] at this
  simpa [itEnts] using this
theorem OwI.keep {w w' : World} {base : Nat} {v : Value} {l : List It} (h : OwI w base v l) (hb : Below w.heap.size w w') : OwI w' base v l := ⟨own_below h.1 hb (Nat.le_refl _), h.2⟩
theorem OwI.mono {w : World} {base base' : Nat} {v : Value} {l : List It} (h : OwI w base v l) (hb : base' ≤ base) : OwI w base' v l := ⟨own_mono h.1 hb, h.2⟩
theorem itFlat_set (l : List It) (k : Nat) (x : It) (hk : k < l.length) : (((itFlat l).set (k * 3) (.int .i64 x.num)).set (k * 3 + 1) (.int .i64 x.den)).set (k * 3 + 2) (.string x.text) = itFlat (l.set k x) := by
  have h1 : putAt (itFlat l) (k * 3) (itCells x) = itFlat (l.set k x) := by
    rw [putAt_eq _ _ _ (by rw [itFlat_len]; simp [itCells]; omega), ← itEnts_c, ← itEnts_c]
    have := flat_set (size := 3) (⟨x, [], itCells x⟩ : Ent It) (itEnts l) k (by intro e he; simp [itEnts] at he; obtain ⟨x, _, rfl⟩ := he; rfl) rfl (by simpa [itEnts] using hk)
    rw [show itEnts (l.set k x) = (itEnts l).set k ⟨x, [], itCells x⟩ from by simp [itEnts, List.map_set], this]
    rfl
  rw [← h1]; rfl
def markIt (k : Nat) : It := ⟨k, k + 1, markT (k + 2)⟩
def marksIt (k n : Nat) : List It := (List.range n).map fun i => markIt (k + 3 * i)
theorem marksIt_len (k n : Nat) : (marksIt k n).length = n := by simp [marksIt]
theorem marksIt_step (l : List It) (k0 k : Nat) (hk : k < l.length) : (marksIt k0 k ++ l.drop k).set k (markIt (k0 + 3 * k)) = marksIt k0 (k + 1) ++ l.drop (k + 1) := by
  have hl := marksIt_len k0 k
  rw [List.set_append_right _ _ (by omega), hl, Nat.sub_self, List.drop_eq_getElem_cons hk, List.set_cons_zero]
  have : marksIt k0 (k + 1) = marksIt k0 k ++ [markIt (k0 + 3 * k)] := by simp [marksIt, List.range_succ]
  rw [this, List.append_assoc]; rfl
def MarkIRel (k0 n : Nat) (w : World) (base : Nat) (A : Option Addr) (c : Nat) (l : List It) (v1 v5 : Value) (wr : World) : Prop :=
  ∃ k : Nat, k ≤ n ∧ v5 = .int .i64 k ∧ v1 = .int .i64 ((k0 + 3 * k : Nat) : Int) ∧ wr.ownsRow base 54 3 (.slice A n c) n (itFlat (marksIt k0 k ++ l.drop k)) ∧ w.grownBy wr (Value.slice A n c).ownBlock
theorem markI_step {k0 n : Nat} {w wr w2 : World} {base g c : Nat} {l : List It} {k : Nat} (hk : k < n) (hl : l.length = n)
    (hown : wr.ownsRow base 54 3 (.slice (some ⟨g, 0, none⟩) n c) n (itFlat (marksIt k0 k ++ l.drop k))) (hg : w.grownBy wr (Value.slice (some ⟨g, 0, none⟩) n c).ownBlock)
    (hb : Below ((wr.setCell ⟨g, k * 3, none⟩ (.int .i64 ((k0 + 3 * k : Nat) : Int))).setCell ⟨g, k * 3 + 1, none⟩ (.int .i64 ((k0 + 3 * k + 1 : Nat) : Int))).heap.size ((wr.setCell ⟨g, k * 3, none⟩ (.int .i64 ((k0 + 3 * k : Nat) : Int))).setCell ⟨g, k * 3 + 1, none⟩ (.int .i64 ((k0 + 3 * k + 1 : Nat) : Int))) w2) :
    MarkIRel k0 n w base (some ⟨g, 0, none⟩) c l (.int .i64 ((k0 + 3 * k + 3 : Nat) : Int)) (.int .i64 ((k : Int) + 1)) (w2.setCell ⟨g, k * 3 + 2, none⟩ (.string (markT (k0 + 3 * k + 2)))) := by
  have h1 := hown.stored (k * 3) (.int .i64 ((k0 + 3 * k : Nat) : Int))
  have h2 := h1.1.stored (k * 3 + 1) (.int .i64 ((k0 + 3 * k + 1 : Nat) : Int))
  have h3 := own_below h2.1 hb (Nat.le_refl _)
  have h4 := h3.stored (k * 3 + 2) (.string (markT (k0 + 3 * k + 2)))
  have hgb : (wr.setCell ⟨g, k * 3, none⟩ (.int .i64 ((k0 + 3 * k : Nat) : Int))).setCell ⟨g, k * 3 + 1, none⟩ (.int .i64 ((k0 + 3 * k + 1 : Nat) : Int)) |>.grownBy w2 (some g) := ⟨hb.os, hb.tape, hb.output, hb.size, fun i hi _ => hb.block i hi⟩
  refine ⟨k + 1, hk, rfl, by congr 2, ?_, ((hg.trans h1.2).trans h2.2).trans (hgb.trans h4.2)⟩
  have h5 := h4.1
  have e := itFlat_set (marksIt k0 k ++ l.drop k) k (markIt (k0 + 3 * k)) (by simp [marksIt_len]; omega)
  rw [marksIt_step l k0 k (by omega)] at e
  rw [← e]
  exact h5
theorem markItemS_any (A : Option Addr) (n c base k0 : Nat) (l : List It) (w : World) (ha : w.ownsRow base 54 3 (.slice A n c) n (itFlat l)) (hl : l.length = n) (h0 : 0 < k0) (h1 : k0 + 3 * n ≤ 4611686018427387904) :
    Calls Try.prog 33 #[.slice A n c, .int .i64 k0] w fun e w' => e = .returned (.int .i64 ((k0 + 3 * n : Nat) : Int)) ∧ w'.ownsRow base 54 3 (.slice A n c) n (itFlat (marksIt k0 n)) ∧ w.grownBy w' (Value.slice A n c).ownBlock := by
  have HL := Lib.hid hl; clear hl
  go_enter Try.func33, Try.ntmps33
  go_wp2
  go_loopw [1, 5] (MarkIRel k0 n w base A c l) (fun _ i _ => n - (intOf i).toNat)
  case atStart => exact ⟨0, Nat.zero_le _, rfl, rfl, by simpa [marksIt] using ha, World.grownBy.refl w _⟩
  case round =>
    obtain ⟨k, hk, rfl, rfl, hown, hg⟩ := hrel
    by_cases hlt : k < n
    · obtain ⟨g, cap, hv, -, -⟩ := hown.form (by omega)
      injection hv with e1 e2 e3
      subst e1 e3
      have R := fun w2 => markI_step (w2 := w2) hlt HL.out hown hg
      have hfl : (itFlat (marksIt k0 k ++ l.drop k)).length = n * 3 := by have := HL.out; rw [itFlat_len]; simp [marksIt_len]; omega
      obtain ⟨z0, c0⟩ : ∃ z, wr.cell? ⟨g, k * 3, none⟩ = some z := ⟨_, (hown.cellAt (k * 3) (by omega)).trans (List.getElem?_eq_getElem (by omega))⟩
      obtain ⟨z1, c1⟩ : ∃ z, wr.cell? ⟨g, k * 3 + 1, none⟩ = some z := ⟨_, (hown.cellAt (k * 3 + 1) (by omega)).trans (List.getElem?_eq_getElem (by omega))⟩
      obtain ⟨z2, c2⟩ : ∃ z, wr.cell? ⟨g, k * 3 + 2, none⟩ = some z := ⟨_, (hown.cellAt (k * 3 + 2) (by omega)).trans (List.getElem?_eq_getElem (by omega))⟩
      have f0 := hown.frozenAt (k * 3)
      have f1 := hown.frozenAt (k * 3 + 1)
      have f2 := hown.frozenAt (k * 3 + 2)
      have hgl := (own_blk hown rfl).2
      have HR := Lib.hid R
      clear hown hg ha hfl R
      generalize hK : k0 + 3 * k = K at HR ⊢
      have hKb : K + 3 ≤ 4611686018427387904 := by omega
      have HKK := Lib.hid hK; clear hK
      go_wp2_with fail
      refine (markText_x _ (K + 2) _ (by omega) (by omega) (by omega)).mono ?_
      rintro e w2 ⟨rfl, hb⟩
      have R := HR.out w2 hb
      obtain ⟨hc, hf⟩ := bcell hb
      have hz : g < w2.heap.size := by have := hb.size; simp at this; omega
      clear hb HR
      go_wp2
      go_roundw
      case rel => exact R
      case measure => simp [intOf]; omega
    · go_wp2
      go_ret
      obtain rfl : k = n := by omega
      rw [List.drop_of_length_le (by rw [HL.out]; omega), List.append_nil] at hown
      exact ⟨ret_i rfl, hown, hg⟩
end Go.Proofs.Ytkcljmgjbjdccaa

namespace Go.Proofs.Ytkcljmgjbjdccaa
open Go.RowKit
set_option maxRecDepth 100000
def encIts (l : List It) : DV := .sl 54 3 (l.map encIt)
theorem szItem_m (x : It) (left : Int) (ht : x.text.size ≤ 9223372036854775807) (h0 : 0 ≤ left) (h1 : left ≤ 1048576) : Meets Try.prog 46 [(true, encIt x), (false, [.sc (.int .i64 left)])] [(false, [.sc (.int .i64 (szF left (wtItem x)))], true)] := by
  have hw : IntKind.i64.wrap (left - (x.text.size : Int)) = left - x.text.size := wrapI _ (by omega)
  refine meets_of Try.func46 rfl (by kernel_rfl) (by simp) Try.ntmps46 (congrArg Array.toList Try.results46) ?_
  by_cases hc : left - (x.text.size : Int) < 0
  · have hs : szF left (wtItem x) = -1 := szF_gt (by unfold wtItem; omega)
    simp only [go_sem, ↓reduceIte, Nat.reduceAdd, Nat.reduceSub, Nat.reduceMul, Nat.reduceLT, Nat.reduceLeDiff, Nat.reduceEqDiff, Int.reduceLT, Int.reduceLE, Int.reduceEq, Nat.reduceBEq, reduceCtorEq, reduceCtorEq, encIt, hw, decide_eq_true hc, hs]
    refine Or.inl ?_; repeat' (first | exact gives_nil | exact trivial | with_reducible apply gives_sc | with_reducible apply gives_nilS (by decide) | with_reducible apply gives_own | with_reducible apply Exists.intro | with_reducible apply And.intro | (show (_ : Option Ob) = _; simp only [go_sem, ↓reduceIte, Nat.reduceAdd, Nat.reduceSub, Nat.reduceMul, Nat.reduceLT, Nat.reduceLeDiff, Nat.reduceEqDiff, Int.reduceLT, Int.reduceLE, Int.reduceEq, Nat.reduceBEq, reduceCtorEq, reduceCtorEq, true_and]))
  · have hs : szF left (wtItem x) = left - x.text.size := szF_le (by unfold wtItem; omega)
    simp only [go_sem, ↓reduceIte, Nat.reduceAdd, Nat.reduceSub, Nat.reduceMul, Nat.reduceLT, Nat.reduceLeDiff, Nat.reduceEqDiff, Int.reduceLT, Int.reduceLE, Int.reduceEq, Nat.reduceBEq, reduceCtorEq, reduceCtorEq, encIt, hw, decide_eq_false hc, hs]
    refine Or.inl ?_; repeat' (first | exact gives_nil | exact trivial | with_reducible apply gives_sc | with_reducible apply gives_nilS (by decide) | with_reducible apply gives_own | with_reducible apply Exists.intro | with_reducible apply And.intro | (show (_ : Option Ob) = _; simp only [go_sem, ↓reduceIte, Nat.reduceAdd, Nat.reduceSub, Nat.reduceMul, Nat.reduceLT, Nat.reduceLeDiff, Nat.reduceEqDiff, Int.reduceLT, Int.reduceLE, Int.reduceEq, Nat.reduceBEq, reduceCtorEq, reduceCtorEq, true_and]))
theorem szItemS_m (t : Nat) (l : List It) (left : Int) (hn : l.length ≤ 9223372036854775807) (ht : ∀ x ∈ l, x.text.size ≤ 9223372036854775807) (h0 : 0 ≤ left) (h1 : left ≤ 1048576) :
    Meets Try.prog 19 [(false, [.sl t 3 (l.map encIt)]), (false, [.sc (.int .i64 left)])] [(false, [.sc (.int .i64 (szF left (wtItems l)))], true)] := by
  have hw : IntKind.i64.wrap (left - (l.length : Int)) = left - l.length := wrapI _ (by omega)
  refine meets_of Try.func19 rfl (by kernel_rfl) (by simp) Try.ntmps19 (congrArg Array.toList Try.results19) ?_
  by_cases hc : left - (l.length : Int) < 0
  · have hs : szF left (wtItems l) = -1 := szF_gt (by unfold wtItems; omega)
    simp only [go_sem, ↓reduceIte, Nat.reduceAdd, Nat.reduceSub, Nat.reduceMul, Nat.reduceLT, Nat.reduceLeDiff, Nat.reduceEqDiff, Int.reduceLT, Int.reduceLE, Int.reduceEq, Nat.reduceBEq, reduceCtorEq, reduceCtorEq, List.length_map, hw, decide_eq_true hc, hs]
    refine Or.inl ?_; repeat' (first | exact gives_nil | exact trivial | with_reducible apply gives_sc | with_reducible apply gives_nilS (by decide) | with_reducible apply gives_own | with_reducible apply Exists.intro | with_reducible apply And.intro | (show (_ : Option Ob) = _; simp only [go_sem, ↓reduceIte, Nat.reduceAdd, Nat.reduceSub, Nat.reduceMul, Nat.reduceLT, Nat.reduceLeDiff, Nat.reduceEqDiff, Int.reduceLT, Int.reduceLE, Int.reduceEq, Nat.reduceBEq, reduceCtorEq, reduceCtorEq, true_and]))
  · simp only [go_sem, ↓reduceIte, Nat.reduceAdd, Nat.reduceSub, Nat.reduceMul, Nat.reduceLT, Nat.reduceLeDiff, Nat.reduceEqDiff, Int.reduceLT, Int.reduceLE, Int.reduceEq, Nat.reduceBEq, reduceCtorEq, reduceCtorEq, List.length_map, hw, decide_eq_false hc]
    refine awp_loop (fun s m => ∃ (k : Nat) (r : Int), k ≤ l.length ∧ m = l.length - k ∧ 0 ≤ r ∧ r = left - l.length - (sumBy wtItem (l.take k) : Nat) ∧ s.n = 0 ∧ s.sl 0 = .p false [.d (.sl t 3 (l.map encIt))] ∧ s.sl 1 = .p false [.d (.sc (.int .i64 r))] ∧ s.sl 5 = .p false [.d (.sc (.int .i64 k))]) l.length ?_ ?_
    · exact ⟨0, _, Nat.zero_le _, rfl, by omega, by simp [sumBy], rfl, rfl, rfl, rfl⟩
    · rintro s m ⟨k, r, hk, rfl, hr0, hr, hn0, g0, g1, g5⟩
      by_cases hlt : k < l.length
      · have hx := List.getElem?_eq_getElem hlt
        generalize l[k] = x at hx
        have hd : decide ((k : Int) < (l.length : Int)) = true := by simpa using hlt
        have hw2 : IntKind.i64.wrap ((k : Int) + 1) = (k + 1 : Nat) := wrapN (k + 1) (by omega)
        have hsu := sumBy_take wtItem l hx
        simp only [go_sem, ↓reduceIte, Nat.reduceAdd, Nat.reduceSub, Nat.reduceMul, Nat.reduceLT, Nat.reduceLeDiff, Nat.reduceEqDiff, Int.reduceLT, Int.reduceLE, Int.reduceEq, Nat.reduceBEq, reduceCtorEq, reduceCtorEq, g0, g1, g5, hn0, List.length_map, hd, List.getElem?_map, hx, Option.map_some, encIt]
        refine astep_call rfl (szItem_m x r (ht x (List.mem_of_getElem? hx)) hr0 (by omega)) rfl rfl (by simp only [go_sem, ↓reduceIte, Nat.reduceAdd, Nat.reduceSub, Nat.reduceMul, Nat.reduceLT, Nat.reduceLeDiff, Nat.reduceEqDiff, Int.reduceLT, Int.reduceLE, Int.reduceEq, Nat.reduceBEq, reduceCtorEq, reduceCtorEq, encIt]) ?_
        by_cases hc2 : r < wtItem x
        · have hs := szF_gt hc2
          have hs2 : szF left (wtItems l) = -1 := szF_gt (by
            have h3 : sumBy wtItem (l.take (k + 1)) ≤ sumBy wtItem l := by
              have : sumBy wtItem l = sumBy wtItem (l.take (k + 1)) + sumBy wtItem (l.drop (k + 1)) := by
                unfold sumBy; rw [← List.sum_append, ← List.map_append, List.take_append_drop]
              omega
            unfold wtItems; omega)
          simp only [go_sem, ↓reduceIte, Nat.reduceAdd, Nat.reduceSub, Nat.reduceMul, Nat.reduceLT, Nat.reduceLeDiff, Nat.reduceEqDiff, Int.reduceLT, Int.reduceLE, Int.reduceEq, Nat.reduceBEq, reduceCtorEq, reduceCtorEq, hs, hs2]
          refine Or.inl ?_; repeat' (first | exact gives_nil | exact trivial | with_reducible apply gives_sc | with_reducible apply gives_nilS (by decide) | with_reducible apply gives_own | with_reducible apply Exists.intro | with_reducible apply And.intro | (show (_ : Option Ob) = _; simp only [go_sem, ↓reduceIte, Nat.reduceAdd, Nat.reduceSub, Nat.reduceMul, Nat.reduceLT, Nat.reduceLeDiff, Nat.reduceEqDiff, Int.reduceLT, Int.reduceLE, Int.reduceEq, Nat.reduceBEq, reduceCtorEq, reduceCtorEq, true_and]))
        · have hs := szF_le (left := r) (wt := wtItem x) (by omega)
          have hd2 : decide (r - (wtItem x : Int) < 0) = false := decide_eq_false (by omega)
          simp only [go_sem, ↓reduceIte, Nat.reduceAdd, Nat.reduceSub, Nat.reduceMul, Nat.reduceLT, Nat.reduceLeDiff, Nat.reduceEqDiff, Int.reduceLT, Int.reduceLE, Int.reduceEq, Nat.reduceBEq, reduceCtorEq, reduceCtorEq, hs, hd2, g5, hw2, hn0]
          exact ⟨0, l.length - (k + 1), by omega, by omega, k + 1, r - wtItem x, by omega, rfl, by omega, by omega, rfl, g0, rfl, rfl⟩
      · have hd : decide ((k : Int) < (l.length : Int)) = false := by simpa using hlt
        have hs : szF left (wtItems l) = r := by
          rw [sumBy_all _ _ (by omega)] at hr
          rw [szF_le (by unfold wtItems; omega)]
          unfold wtItems; omega
        simp only [go_sem, ↓reduceIte, Nat.reduceAdd, Nat.reduceSub, Nat.reduceMul, Nat.reduceLT, Nat.reduceLeDiff, Nat.reduceEqDiff, Int.reduceLT, Int.reduceLE, Int.reduceEq, Nat.reduceBEq, reduceCtorEq, reduceCtorEq, g0, g1, g5, hn0, List.length_map, hd, hs]
        refine Or.inl ?_; repeat' (first | exact gives_nil | exact trivial | with_reducible apply gives_sc | with_reducible apply gives_nilS (by decide) | with_reducible apply gives_own | with_reducible apply Exists.intro | with_reducible apply And.intro | (show (_ : Option Ob) = _; simp only [go_sem, ↓reduceIte, Nat.reduceAdd, Nat.reduceSub, Nat.reduceMul, Nat.reduceLT, Nat.reduceLeDiff, Nat.reduceEqDiff, Int.reduceLT, Int.reduceLE, Int.reduceEq, Nat.reduceBEq, reduceCtorEq, reduceCtorEq, true_and]))
theorem toItem_m (x : It) : Meets Try.prog 49 [(true, encIt x)] [(true, encIt x, true)] := by
  refine meets_of Try.func49 rfl (by kernel_rfl) (by simp) Try.ntmps49 (congrArg Array.toList Try.results49) ?_
  simp only [go_sem, ↓reduceIte, Nat.reduceAdd, Nat.reduceSub, Nat.reduceMul, Nat.reduceLT, Nat.reduceLeDiff, Nat.reduceEqDiff, Int.reduceLT, Int.reduceLE, Int.reduceEq, Nat.reduceBEq, reduceCtorEq, reduceCtorEq, encIt]
  refine Or.inl ?_; repeat' (first | exact gives_nil | exact trivial | with_reducible apply gives_sc | with_reducible apply gives_nilS (by decide) | with_reducible apply gives_own | with_reducible apply Exists.intro | with_reducible apply And.intro | (show (_ : Option Ob) = _; simp only [go_sem, ↓reduceIte, Nat.reduceAdd, Nat.reduceSub, Nat.reduceMul, Nat.reduceLT, Nat.reduceLeDiff, Nat.reduceEqDiff, Int.reduceLT, Int.reduceLE, Int.reduceEq, Nat.reduceBEq, reduceCtorEq, reduceCtorEq, true_and]))
def it0c : List DV := [.sc (.int .i64 0), .sc (.int .i64 0), .sc (.string ByteArray.empty)]
theorem toItemS_m (t : Nat) (l : List It) (hn : l.length ≤ 1048576) : Meets Try.prog 23 [(false, [.sl t 3 (l.map encIt)])] [(false, [encIts l], true)] := by
  refine meets_of Try.func23 rfl (by kernel_rfl) (by simp) Try.ntmps23 (congrArg Array.toList Try.results23) ?_
  simp only [go_sem, ↓reduceIte, Nat.reduceAdd, Nat.reduceSub, Nat.reduceMul, Nat.reduceLT, Nat.reduceLeDiff, Nat.reduceEqDiff, Int.reduceLT, Int.reduceLE, Int.reduceEq, Nat.reduceBEq, reduceCtorEq, reduceCtorEq, List.length_map]
  refine astep_make (n := l.length) (zs := [.int .i64 0, .int .i64 0, .string ByteArray.empty]) (ds := it0c) rfl rfl rfl tel_31 (by decide) tzero_54 rfl rfl tby_54 (by omega) (by omega) rfl ?_
  simp only [go_sem, ↓reduceIte, Nat.reduceAdd, Nat.reduceSub, Nat.reduceMul, Nat.reduceLT, Nat.reduceLeDiff, Nat.reduceEqDiff, Int.reduceLT, Int.reduceLE, Int.reduceEq, Nat.reduceBEq, reduceCtorEq, reduceCtorEq, true_and]
  refine awp_loop (fun s m => ∃ k : Nat, k ≤ l.length ∧ m = l.length - k ∧ s.n = 1 ∧ s.sl 0 = .p false [.d (.sl t 3 (l.map encIt))] ∧ s.sl 4 = .p false [.d (.sc (.int .i64 k))] ∧ s.sl 3 = .p false [.own 0 0] ∧ s.ob 0 = .row 0 54 3 (fillL (l.map encIt) k it0c) true) l.length ?_ ?_
  · exact ⟨0, Nat.zero_le _, rfl, rfl, rfl, rfl, rfl, by rw [fillL_zero, List.length_map]; rfl⟩
  · rintro s m ⟨k, hk, rfl, hn0, g0, g4, g3, o0⟩
    by_cases hlt : k < l.length
    · have hx := List.getElem?_eq_getElem hlt
      generalize l[k] = x at hx
      have hd : decide ((k : Int) < (l.length : Int)) = true := by simpa using hlt
      have hw2 : IntKind.i64.wrap ((k : Int) + 1) = (k + 1 : Nat) := wrapN (k + 1) (by omega)
      have hst := fillL_set (z := it0c) (show (l.map encIt)[k]? = some (encIt x) from by rw [List.getElem?_map, hx]; rfl)
      have hlen : (fillL (l.map encIt) k it0c).length = l.length := by rw [fillL_len (by simpa using hk), List.length_map]
      have hget : (fillL (l.map encIt) k it0c)[k]? = some it0c := fillL_get (by simpa using hlt)
      simp only [go_sem, ↓reduceIte, Nat.reduceAdd, Nat.reduceSub, Nat.reduceMul, Nat.reduceLT, Nat.reduceLeDiff, Nat.reduceEqDiff, Int.reduceLT, Int.reduceLE, Int.reduceEq, Nat.reduceBEq, reduceCtorEq, reduceCtorEq, g0, g4, g3, hn0, List.length_map, hd, List.getElem?_map, hx, Option.map_some, encIt]
      refine astep_call rfl (toItem_m x) rfl rfl (by simp only [go_sem, ↓reduceIte, Nat.reduceAdd, Nat.reduceSub, Nat.reduceMul, Nat.reduceLT, Nat.reduceLeDiff, Nat.reduceEqDiff, Int.reduceLT, Int.reduceLE, Int.reduceEq, Nat.reduceBEq, reduceCtorEq, reduceCtorEq, encIt]) ?_
      simp only [go_sem, ↓reduceIte, Nat.reduceAdd, Nat.reduceSub, Nat.reduceMul, Nat.reduceLT, Nat.reduceLeDiff, Nat.reduceEqDiff, Int.reduceLT, Int.reduceLE, Int.reduceEq, Nat.reduceBEq, reduceCtorEq, reduceCtorEq, encIt, o0, g4, hlen, hlt]
      refine astep_row (i := 0) (st := 0) (k := 3) (j := k) (off := 0) (es := fillL (l.map encIt) k it0c) (e := it0c) (ds := encIt x) (t' := 54) (xs := (encIt x).map .d) rfl rfl rfl (by simp only [go_sem, ↓reduceIte, Nat.reduceAdd, Nat.reduceSub, Nat.reduceMul, Nat.reduceLT, Nat.reduceLeDiff, Nat.reduceEqDiff, Int.reduceLT, Int.reduceLE, Int.reduceEq, Nat.reduceBEq, reduceCtorEq, reduceCtorEq, o0]) hget (by simp only [go_sem, ↓reduceIte, Nat.reduceAdd, Nat.reduceSub, Nat.reduceMul, Nat.reduceLT, Nat.reduceLeDiff, Nat.reduceEqDiff, Int.reduceLT, Int.reduceLE, Int.reduceEq, Nat.reduceBEq, reduceCtorEq, reduceCtorEq, encIt]) tsz_54 (Nat.le_refl _) (Gives.ofFlat rfl (encIt_flat x)) (by simp only [go_sem, ↓reduceIte, Nat.reduceAdd, Nat.reduceSub, Nat.reduceMul, Nat.reduceLT, Nat.reduceLeDiff, Nat.reduceEqDiff, Int.reduceLT, Int.reduceLE, Int.reduceEq, Nat.reduceBEq, reduceCtorEq, reduceCtorEq, o0]) ?_
      rw [show plug 0 (encIt x) it0c = encIt x from rfl, hst]
      simp only [go_sem, ↓reduceIte, Nat.reduceAdd, Nat.reduceSub, Nat.reduceMul, Nat.reduceLT, Nat.reduceLeDiff, Nat.reduceEqDiff, Int.reduceLT, Int.reduceLE, Int.reduceEq, Nat.reduceBEq, reduceCtorEq, reduceCtorEq, g4, hw2]
      exact ⟨1, l.length - (k + 1), by omega, by omega, k + 1, by omega, rfl, rfl, g0, rfl, g3, rfl⟩
    · have hd : decide ((k : Int) < (l.length : Int)) = false := by simpa using hlt
      obtain rfl : k = l.length := by omega
      rw [show fillL (l.map encIt) l.length it0c = l.map encIt from by have := fillL_end (l.map encIt) it0c; rwa [List.length_map] at this] at o0
      simp only [go_sem, ↓reduceIte, Nat.reduceAdd, Nat.reduceSub, Nat.reduceMul, Nat.reduceLT, Nat.reduceLeDiff, Nat.reduceEqDiff, Int.reduceLT, Int.reduceLE, Int.reduceEq, Nat.reduceBEq, reduceCtorEq, reduceCtorEq, g0, g4, g3, hn0, List.length_map, hd, encIts]
      refine Or.inl ?_; repeat' (first | exact gives_nil | exact trivial | with_reducible apply gives_sc | with_reducible apply gives_nilS (by decide) | with_reducible apply gives_own | with_reducible apply Exists.intro | with_reducible apply And.intro | (show (_ : Option Ob) = _; simp only [go_sem, ↓reduceIte, Nat.reduceAdd, Nat.reduceSub, Nat.reduceMul, Nat.reduceLT, Nat.reduceLeDiff, Nat.reduceEqDiff, Int.reduceLT, Int.reduceLE, Int.reduceEq, Nat.reduceBEq, reduceCtorEq, reduceCtorEq, o0]))
theorem eqItem_m (x : It) : Meets Try.prog 53 [(true, encIt x), (true, encIt x)] [(false, [.sc (.bool true)], true)] := by
  refine meets_of Try.func53 rfl (by kernel_rfl) (by simp) Try.ntmps53 (congrArg Array.toList Try.results53) ?_
  simp only [go_sem, ↓reduceIte, Nat.reduceAdd, Nat.reduceSub, Nat.reduceMul, Nat.reduceLT, Nat.reduceLeDiff, Nat.reduceEqDiff, Int.reduceLT, Int.reduceLE, Int.reduceEq, Nat.reduceBEq, reduceCtorEq, reduceCtorEq, encIt]
  refine Or.inl ?_; repeat' (first | exact gives_nil | exact trivial | with_reducible apply gives_sc | with_reducible apply gives_nilS (by decide) | with_reducible apply gives_own | with_reducible apply Exists.intro | with_reducible apply And.intro | (show (_ : Option Ob) = _; simp only [go_sem, ↓reduceIte, Nat.reduceAdd, Nat.reduceSub, Nat.reduceMul, Nat.reduceLT, Nat.reduceLeDiff, Nat.reduceEqDiff, Int.reduceLT, Int.reduceLE, Int.reduceEq, Nat.reduceBEq, reduceCtorEq, reduceCtorEq, true_and]))
theorem eqItemS_m (l : List It) (hn : l.length ≤ 4611686018427387903) : Meets Try.prog 30 [(false, [encIts l]), (false, [encIts l])] [(false, [.sc (.bool true)], true)] := by
  refine meets_of Try.func30 rfl (by kernel_rfl) (by simp) Try.ntmps30 (congrArg Array.toList Try.results30) ?_
  simp only [go_sem, ↓reduceIte, Nat.reduceAdd, Nat.reduceSub, Nat.reduceMul, Nat.reduceLT, Nat.reduceLeDiff, Nat.reduceEqDiff, Int.reduceLT, Int.reduceLE, Int.reduceEq, Nat.reduceBEq, reduceCtorEq, reduceCtorEq, encIts, List.length_map]
  refine awp_loop (fun s m => ∃ k : Nat, k ≤ l.length ∧ m = l.length - k ∧ s.n = 0 ∧ s.sl 0 = .p false [.d (encIts l)] ∧ s.sl 1 = .p false [.d (encIts l)] ∧ s.sl 5 = .p false [.d (.sc (.int .i64 k))]) l.length ?_ ?_
  · exact ⟨0, Nat.zero_le _, rfl, rfl, rfl, rfl, rfl⟩
  · rintro s m ⟨k, hk, rfl, hn0, g0, g1, g5⟩
    by_cases hlt : k < l.length
    · have hx := List.getElem?_eq_getElem hlt
      generalize l[k] = x at hx
      have hd : decide ((k : Int) < (l.length : Int)) = true := by simpa using hlt
      have hw2 : IntKind.i64.wrap ((k : Int) + 1) = (k + 1 : Nat) := wrapN (k + 1) (by omega)
      simp only [go_sem, ↓reduceIte, Nat.reduceAdd, Nat.reduceSub, Nat.reduceMul, Nat.reduceLT, Nat.reduceLeDiff, Nat.reduceEqDiff, Int.reduceLT, Int.reduceLE, Int.reduceEq, Nat.reduceBEq, reduceCtorEq, reduceCtorEq, g0, g1, g5, hn0, encIts, List.length_map, hd]
      refine awp_drawn (n := 10) true (by kernel_rfl) (by kernel_rfl) ?_
      simp only [go_sem, ↓reduceIte, Nat.reduceAdd, Nat.reduceSub, Nat.reduceMul, Nat.reduceLT, Nat.reduceLeDiff, Nat.reduceEqDiff, Int.reduceLT, Int.reduceLE, Int.reduceEq, Nat.reduceBEq, reduceCtorEq, reduceCtorEq, g0, g1, g5, hn0, encIts, List.getElem?_map, hx, Option.map_some, encIt]
      refine hcall rfl (eqItem_m x) rfl (by simp only [go_sem, ↓reduceIte, Nat.reduceAdd, Nat.reduceSub, Nat.reduceMul, Nat.reduceLT, Nat.reduceLeDiff, Nat.reduceEqDiff, Int.reduceLT, Int.reduceLE, Int.reduceEq, Nat.reduceBEq, reduceCtorEq, reduceCtorEq, encIt]) (fun _ => rfl) ?_
      simp only [go_sem, ↓reduceIte, Nat.reduceAdd, Nat.reduceSub, Nat.reduceMul, Nat.reduceLT, Nat.reduceLeDiff, Nat.reduceEqDiff, Int.reduceLT, Int.reduceLE, Int.reduceEq, Nat.reduceBEq, reduceCtorEq, reduceCtorEq, g5, hw2, hn0]
      exact ⟨0, l.length - (k + 1), by omega, by omega, k + 1, by omega, rfl, rfl, g0, g1, rfl⟩
    · have hd : decide ((k : Int) < (l.length : Int)) = false := by simpa using hlt
      simp only [go_sem, ↓reduceIte, Nat.reduceAdd, Nat.reduceSub, Nat.reduceMul, Nat.reduceLT, Nat.reduceLeDiff, Nat.reduceEqDiff, Int.reduceLT, Int.reduceLE, Int.reduceEq, Nat.reduceBEq, reduceCtorEq, reduceCtorEq, g0, g1, g5, hn0, encIts, List.length_map, hd]
      refine Or.inl ?_; repeat' (first | exact gives_nil | exact trivial | with_reducible apply gives_sc | with_reducible apply gives_nilS (by decide) | with_reducible apply gives_own | with_reducible apply Exists.intro | with_reducible apply And.intro | (show (_ : Option Ob) = _; simp only [go_sem, ↓reduceIte, Nat.reduceAdd, Nat.reduceSub, Nat.reduceMul, Nat.reduceLT, Nat.reduceLeDiff, Nat.reduceEqDiff, Int.reduceLT, Int.reduceLE, Int.reduceEq, Nat.reduceBEq, reduceCtorEq, reduceCtorEq, true_and]))
end Go.Proofs.Ytkcljmgjbjdccaa

namespace Go.Proofs.Ytkcljmgjbjdccaa
open Go.RowKit Go.ChangeShapes Go.WideShapes Go.Deep
set_option maxRecDepth 100000
instance : Inhabited Vec := ⟨fV 0 []⟩
abbrev encVL : Vec → List DV := encVt 71 26
def OkIt (x : It) : Prop := In64 x.num ∧ In64 x.den ∧ x.text.size ≤ 9223372036854775807
inductive OkVec : Vec → Prop where
  | mk (k : Int) (its : List It) (ps : List Vec) (ns cl lv : List ByteArray) (c e : Int) (h1 : its.length ≤ 9223372036854775807) (h2 : ∀ x ∈ its, OkIt x) (h3 : ps.length ≤ 9223372036854775807) (h4 : ∀ p ∈ ps, OkVec p)
    (h5 : OkSs ns) (h6 : OkSs cl) (h7 : OkSs lv) : OkVec (.mk k its ps ns cl lv c e)
theorem encVt_len (ti tv : Nat) (v : Vec) : (encVt ti tv v).length = 8 := by cases v; rw [encV_mk]; rfl
theorem opD_It : OpD encIt OkIt Try.prog 71 := by
  intro H enc w base spare held fuel cs x h
  obtain ⟨hl, n, hf⟩ := open_flds Try.underlying71 h
  obtain ⟨y0, t0⟩ := hf 0 _ rfl
  obtain ⟨a0, r0, i0⟩ := opD_int Try.underlying3 H enc w base spare held n _ _ t0
  obtain ⟨y1, t1⟩ := hf 1 _ rfl
  obtain ⟨a1, r1, i1⟩ := opD_int Try.underlying3 H enc w base spare held n _ _ t1
  obtain ⟨y2, t2⟩ := hf 2 _ rfl
  obtain ⟨a2, r2, i2⟩ := opD_str Try.underlying9 H enc w base spare held n _ _ t2
  exact ⟨⟨a0, a1, a2⟩, repl_cut (o := 0) (k := 1) (repl_at r0 rfl (by kernel_rfl)) (repl_cut (o := 1) (k := 1) (repl_at r1 rfl (by kernel_rfl)) (repl_cut (o := 2) (k := 1) (repl_at r2 rfl (by kernel_rfl)) (repl_end hl (by kernel_rfl)))), i0, i1, i2⟩
theorem opD_Its : OpD (fun l : List It => [.sl 71 3 (l.map encIt)]) (fun l => l.length ≤ 9223372036854775807 ∧ ∀ x ∈ l, OkIt x) Try.prog 22 := opD_slice (e := encIt) (k := 3) 71 Try.underlying22 (by kernel_rfl) (by decide) (fun _ => rfl) opD_It
theorem opDb_Vec : ∀ F, OpDb F encVL OkVec Try.prog 26
  | 0 => fun H enc w base spare held fuel cs x hF => absurd hF (Nat.not_lt_zero _)
  | F + 1 => by
    have ih := opDb_Vec F
    intro H enc w base spare held fuel cs x hF h
    obtain ⟨hl, n, hn, hf⟩ := open_fldsF Try.underlying26 h
    obtain ⟨y0, t0⟩ := hf 0 _ rfl
    obtain ⟨a0, r0, i0⟩ := opD_int Try.underlying3 H enc w base spare held n _ _ t0
    obtain ⟨y1, t1⟩ := hf 1 _ rfl
    obtain ⟨a1, r1, i1⟩ := opD_Its H enc w base spare held n _ _ t1
    obtain ⟨y2, t2⟩ := hf 2 _ rfl
    obtain ⟨a2, r2, i2⟩ := opDb_slice (e := encVL) (k := 8) 26 Try.underlying23 (by kernel_rfl) (by decide) (encVt_len _ _) ih H enc w base spare held n _ _ (by omega) t2
    obtain ⟨y3, t3⟩ := hf 3 _ rfl
    obtain ⟨a3, r3, i3⟩ := opD_Ss H enc w base spare held n _ _ t3
    obtain ⟨y4, t4⟩ := hf 4 _ rfl
    obtain ⟨a4, r4, i4⟩ := opD_Ss H enc w base spare held n _ _ t4
    obtain ⟨y5, t5⟩ := hf 5 _ rfl
    obtain ⟨a5, r5, i5⟩ := opD_Ss H enc w base spare held n _ _ t5
    obtain ⟨y6, t6⟩ := hf 6 _ rfl
    obtain ⟨a6, r6, i6⟩ := opD_int Try.underlying3 H enc w base spare held n _ _ t6
    obtain ⟨y7, t7⟩ := hf 7 _ rfl
    obtain ⟨a7, r7, i7⟩ := opD_int Try.underlying3 H enc w base spare held n _ _ t7
    refine ⟨.mk a0 a1 a2 a3 a4 a5 a6 a7, ?_, .mk a0 a1 a2 a3 a4 a5 a6 a7 i1.1 i1.2 i2.1 i2.2 i3 i4 i5⟩
    have := repl_cut (o := 0) (k := 1) (repl_at r0 rfl (by kernel_rfl)) (repl_cut (o := 1) (k := 1) (repl_at r1 rfl (by kernel_rfl)) (repl_cut (o := 2) (k := 1) (repl_at r2 rfl (by kernel_rfl)) (repl_cut (o := 3) (k := 1) (repl_at r3 rfl (by kernel_rfl)) (repl_cut (o := 4) (k := 1) (repl_at r4 rfl (by kernel_rfl)) (repl_cut (o := 5) (k := 1) (repl_at r5 rfl (by kernel_rfl)) (repl_cut (o := 6) (k := 1) (repl_at r6 rfl (by kernel_rfl)) (repl_cut (o := 7) (k := 1) (repl_at r7 rfl (by kernel_rfl)) (repl_end hl (by kernel_rfl)))))))))
    show RepL _ _ _ (encVt _ _ _)
    rw [encV_mk]
    exact this
theorem opD_Vec : OpD encVL OkVec Try.prog 26 := fun H enc w base spare held fuel cs x h => opDb_Vec (fuel + 1) H enc w base spare held fuel cs x (Nat.lt_succ_self _) h
def wtV : Vec → Nat
  | .mk k its ps ns cl lv c e => wtItems its + (ps.length + (ps.map fun p => wtV p).sum) + wtSs ns + wtSs cl + wtSs lv
theorem wtV_mk (k : Int) (its : List It) (ps : List Vec) (ns cl lv : List ByteArray) (c e : Int) : wtV (.mk k its ps ns cl lv c e) = wtItems its + (ps.length + sumBy wtV ps) + wtSs ns + wtSs cl + wtSs lv := by rw [wtV]; rfl
theorem sumBy_succ {α : Type} [Inhabited α] (f : α → Nat) {l : List α} {i : Nat} (h : i < l.length) : sumBy f (l.take (i + 1)) = sumBy f (l.take i) + f (l.getD i default) := by
  rw [take_succD h]; unfold sumBy; simp
theorem sumBy_le {α : Type} (f : α → Nat) (l : List α) (i : Nat) : sumBy f (l.take i) ≤ sumBy f l := by
  have : sumBy f l = sumBy f (l.take i) + sumBy f (l.drop i) := by unfold sumBy; rw [← List.sum_append, ← List.map_append, List.take_append_drop]
  omega
theorem sumBy_mem {α : Type} (f : α → Nat) {l : List α} {x : α} (h : x ∈ l) : f x ≤ sumBy f l := by
  unfold sumBy
  induction l with
  | nil => cases h
  | cons y l ih =>
    rw [List.map_cons, List.sum_cons]
    rcases List.mem_cons.1 h with rfl | h
    · omega
    · have := ih h; omega
theorem ix_V {ti tv t : Nat} {l : List Vec} {kd : IntKind} {z : Int} (h : 0 ≤ z) (h1 : z < l.length) : eIdx 8 (some (.sl t 8 (l.map (encVt ti tv)))) (some (.sc (.int kd z))) = some (encVt ti tv (l.getD z.toNat default)) := e_idx_map (encVt_len ti tv) h h1
def SzV (v : Vec) : Prop := ∀ left : Int, OkVec v → 0 ≤ left → left ≤ 1048576 → Meets Try.prog 5 [(true, encVL v), (false, [.sc (.int .i64 left)])] [(false, [.sc (.int .i64 (szF left (wtV v)))], true)]
theorem szVecs_m (l : List Vec) (hall : ∀ p ∈ l, SzV p) (left : Int) (k1 : l.length ≤ 9223372036854775807) (k2 : ∀ p ∈ l, OkVec p) (h0 : 0 ≤ left) (h1 : left ≤ 1048576) :
    Meets Try.prog 20 [(false, [.sl 26 8 (l.map encVL)]), (false, [.sc (.int .i64 left)])] [(false, [.sc (.int .i64 (szF left (l.length + sumBy wtV l)))], true)] := by
  refine meets_upf Try.func20 u_laws_szVectorS_g rfl ?_; simp only [u_laws_szVectorS_u]
  simp (disch := first | omega | (simp only [List.length_take, List.length_drop, List.length_append, List.map_cons, List.map_nil, List.length_map, List.length_cons, List.length_nil, List.length_set, List.length_replicate]; omega) | (simp only [List.length_cons, List.length_nil, Nat.zero_add, Nat.reduceAdd])) only [go_sem, ↓reduceIte, Nat.reduceAdd, Int.reduceNeg, Int.reduceAdd, Int.reduceSub, Int.reduceMul, Int.reduceLT, Int.reduceLE, Int.reduceEq, Int.reduceToNat, Nat.reduceBEq, e_sle, e_sge, e_shl1, e_orI, e_andI, e_shr, wrapu, wrap8, tn1, nat1, ix_s, ix_z, st_s, st_z, fl_s, fl_z, fl1_s, fl1_z, map_s, map_z, true_and]
  refine br_if (fun hbr => ?_) (fun hbr => ?_)
  · simp (disch := first | omega | (simp only [List.length_take, List.length_drop, List.length_append, List.map_cons, List.map_nil, List.length_map, List.length_cons, List.length_nil, List.length_set, List.length_replicate]; omega) | (simp only [List.length_cons, List.length_nil, Nat.zero_add, Nat.reduceAdd])) only [go_sem, ↓reduceIte, Nat.reduceAdd, Int.reduceNeg, Int.reduceAdd, Int.reduceSub, Int.reduceMul, Int.reduceLT, Int.reduceLE, Int.reduceEq, Int.reduceToNat, Nat.reduceBEq, e_sle, e_sge, e_shl1, e_orI, e_andI, e_shr, wrapu, wrap8, tn1, nat1, ix_s, ix_z, st_s, st_z, fl_s, fl_z, fl1_s, fl1_z, map_s, map_z, true_and]
    exact ret_z (szF_gt (by omega))
  simp (disch := first | omega | (simp only [List.length_take, List.length_drop, List.length_append, List.map_cons, List.map_nil, List.length_map, List.length_cons, List.length_nil, List.length_set, List.length_replicate]; omega) | (simp only [List.length_cons, List.length_nil, Nat.zero_add, Nat.reduceAdd])) only [go_sem, ↓reduceIte, Nat.reduceAdd, Int.reduceNeg, Int.reduceAdd, Int.reduceSub, Int.reduceMul, Int.reduceLT, Int.reduceLE, Int.reduceEq, Int.reduceToNat, Nat.reduceBEq, e_sle, e_sge, e_shl1, e_orI, e_andI, e_shr, wrapu, wrap8, tn1, nat1, ix_s, ix_z, st_s, st_z, fl_s, fl_z, fl1_s, fl1_z, map_s, map_z, true_and]
  refine lp (fun i : Nat => [.sc (.int .i64 i), .sc (.int .i64 (left - (l.length : Int) - (sumBy wtV (l.take i) : Nat)))]) (fun i => i ≤ l.length ∧ (sumBy wtV (l.take i) : Nat) ≤ left - (l.length : Int)) (fun i => l.length - i) 0 (by simp [gL, sumBy]) ⟨by omega, by simp [sumBy]; omega⟩ ?_
  rintro i ⟨hi, hs⟩
  simp only [u_laws_szVectorS_l0]
  by_cases hlt : i < l.length
  · have h3 := sumBy_succ wtV hlt
    have h5 := sumBy_le wtV l (i + 1)
    have hm := getD_mem hlt
    have hix : eIdx 8 (some (.sl 26 8 (l.map encVL))) (some (.sc (.int .i64 (i : Int)))) = some (encVL (l.getD i default)) := by rw [ix_V (by omega) (by omega), Int.toNat_natCast]
    generalize l.getD i default = x at h3 hm hix
    have hc := hall x hm (left - (l.length : Int) - (sumBy wtV (l.take i) : Nat)) (k2 x hm) (by omega) (by omega)
    generalize wtV x = wx at *
    obtain ⟨x0, x1, x2, x3, x4, x5, x6, x7⟩ := x
    simp only [encVL, encV_mk, encSs] at hc hix
    by_cases hw : (wx : Int) ≤ left - (l.length : Int) - (sumBy wtV (l.take i) : Nat)
    · have hs1 := szF_le hw
      rw [hs1] at hc
      repeat' (first | (with_reducible refine jn_in ?_) | (with_reducible refine cl_ok (by assumption) rfl ?_) | (with_reducible refine cl_okP (by assumption) rfl ?_) | (with_reducible refine br_if (fun hbr => ?_) (fun hbr => ?_)) | (with_reducible refine br_ifn (fun hbr => ?_) (fun hbr => ?_)) | (with_reducible refine br_nb (fun hbr => ?_) (fun hbr => ?_)) | (with_reducible refine br_b (fun hbr => ?_) (fun hbr => ?_)) | simp (disch := first | omega | (simp only [List.length_take, List.length_drop, List.length_append, List.map_cons, List.map_nil, List.length_map, List.length_cons, List.length_nil, List.length_set, List.length_replicate]; omega) | (simp only [List.length_cons, List.length_nil, Nat.zero_add, Nat.reduceAdd])) only [go_sem, ↓reduceIte, Nat.reduceAdd, Int.reduceNeg, Int.reduceAdd, Int.reduceSub, Int.reduceMul, Int.reduceLT, Int.reduceLE, Int.reduceEq, Int.reduceToNat, Nat.reduceBEq, e_sle, e_sge, e_shl1, e_orI, e_andI, e_shr, wrapu, wrap8, tn1, nat1, ix_s, ix_z, st_s, st_z, fl_s, fl_z, fl1_s, fl1_z, map_s, map_z, hix])
      all_goals first | omega | exact ret_z (szF_gt (by omega)) | exact ⟨i + 1, by congr 4; omega, ⟨by omega, by omega⟩, by omega⟩
    · have hs1 := szF_gt (left := left - (l.length : Int) - (sumBy wtV (l.take i) : Nat)) (wt := wx) (by omega)
      rw [hs1] at hc
      repeat' (first | (with_reducible refine jn_in ?_) | (with_reducible refine cl_ok (by assumption) rfl ?_) | (with_reducible refine cl_okP (by assumption) rfl ?_) | (with_reducible refine br_if (fun hbr => ?_) (fun hbr => ?_)) | (with_reducible refine br_ifn (fun hbr => ?_) (fun hbr => ?_)) | (with_reducible refine br_nb (fun hbr => ?_) (fun hbr => ?_)) | (with_reducible refine br_b (fun hbr => ?_) (fun hbr => ?_)) | simp (disch := first | omega | (simp only [List.length_take, List.length_drop, List.length_append, List.map_cons, List.map_nil, List.length_map, List.length_cons, List.length_nil, List.length_set, List.length_replicate]; omega) | (simp only [List.length_cons, List.length_nil, Nat.zero_add, Nat.reduceAdd])) only [go_sem, ↓reduceIte, Nat.reduceAdd, Int.reduceNeg, Int.reduceAdd, Int.reduceSub, Int.reduceMul, Int.reduceLT, Int.reduceLE, Int.reduceEq, Int.reduceToNat, Nat.reduceBEq, e_sle, e_sge, e_shl1, e_orI, e_andI, e_shr, wrapu, wrap8, tn1, nat1, ix_s, ix_z, st_s, st_z, fl_s, fl_z, fl1_s, fl1_z, map_s, map_z, hix])
      all_goals first | omega | exact ret_z (szF_gt (by omega))
  · obtain rfl : i = l.length := by omega
    rw [List.take_length] at hs ⊢
    repeat' (first | (with_reducible refine jn_in ?_) | (with_reducible refine cl_ok (by assumption) rfl ?_) | (with_reducible refine cl_okP (by assumption) rfl ?_) | (with_reducible refine br_if (fun hbr => ?_) (fun hbr => ?_)) | (with_reducible refine br_ifn (fun hbr => ?_) (fun hbr => ?_)) | (with_reducible refine br_nb (fun hbr => ?_) (fun hbr => ?_)) | (with_reducible refine br_b (fun hbr => ?_) (fun hbr => ?_)) | simp (disch := first | omega | (simp only [List.length_take, List.length_drop, List.length_append, List.map_cons, List.map_nil, List.length_map, List.length_cons, List.length_nil, List.length_set, List.length_replicate]; omega) | (simp only [List.length_cons, List.length_nil, Nat.zero_add, Nat.reduceAdd])) only [go_sem, ↓reduceIte, Nat.reduceAdd, Int.reduceNeg, Int.reduceAdd, Int.reduceSub, Int.reduceMul, Int.reduceLT, Int.reduceLE, Int.reduceEq, Int.reduceToNat, Nat.reduceBEq, e_sle, e_sge, e_shl1, e_orI, e_andI, e_shr, wrapu, wrap8, tn1, nat1, ix_s, ix_z, st_s, st_z, fl_s, fl_z, fl1_s, fl1_z, map_s, map_z, true_and])
    all_goals first | omega | exact ret_z (by rw [szF_le (by omega)]; omega)
theorem szV_m : ∀ v : Vec, SzV v := Vec.ind fun k its ps ns cl lv c e ih left ok h0 h1 => by
  cases ok with
  | mk _ _ _ _ _ _ _ _ o1 o2 o3 o4 o5 o6 o7 =>
  have hit := szItemS_m 71 its left o1 (fun x hx => (o2 x hx).2.2) h0 h1
  rw [wtV_mk]
  simp only [encVL, encV_mk, encSs]
  refine meets_upf Try.func5 u_laws_szVector_g rfl ?_; simp only [u_laws_szVector_u]
  simp (disch := first | omega | (simp only [List.length_take, List.length_drop, List.length_append, List.map_cons, List.map_nil, List.length_map, List.length_cons, List.length_nil, List.length_set, List.length_replicate]; omega) | (simp only [List.length_cons, List.length_nil, Nat.zero_add, Nat.reduceAdd])) only [go_sem, ↓reduceIte, Nat.reduceAdd, Int.reduceNeg, Int.reduceAdd, Int.reduceSub, Int.reduceMul, Int.reduceLT, Int.reduceLE, Int.reduceEq, Int.reduceToNat, Nat.reduceBEq, e_sle, e_sge, e_shl1, e_orI, e_andI, e_shr, wrapu, wrap8, tn1, nat1, ix_s, ix_z, st_s, st_z, fl_s, fl_z, fl1_s, fl1_z, map_s, map_z, true_and]
  refine cl_ok hit rfl ?_
  by_cases hw1 : ((wtItems its : Nat) : Int) ≤ left
  rotate_left
  · have hs := szF_gt (left := left) (wt := wtItems its) (by omega)
    simp (disch := first | omega | (simp only [List.length_take, List.length_drop, List.length_append, List.map_cons, List.map_nil, List.length_map, List.length_cons, List.length_nil, List.length_set, List.length_replicate]; omega) | (simp only [List.length_cons, List.length_nil, Nat.zero_add, Nat.reduceAdd])) only [go_sem, ↓reduceIte, Nat.reduceAdd, Int.reduceNeg, Int.reduceAdd, Int.reduceSub, Int.reduceMul, Int.reduceLT, Int.reduceLE, Int.reduceEq, Int.reduceToNat, Nat.reduceBEq, e_sle, e_sge, e_shl1, e_orI, e_andI, e_shr, wrapu, wrap8, tn1, nat1, ix_s, ix_z, st_s, st_z, fl_s, fl_z, fl1_s, fl1_z, map_s, map_z, hs]
    exact ret_z (szF_gt (by omega))
  have e1 := szF_le hw1
  have d1 : decide (left - ((wtItems its : Nat) : Int) < 0) = false := decide_eq_false (by omega)
  simp (disch := first | omega | (simp only [List.length_take, List.length_drop, List.length_append, List.map_cons, List.map_nil, List.length_map, List.length_cons, List.length_nil, List.length_set, List.length_replicate]; omega) | (simp only [List.length_cons, List.length_nil, Nat.zero_add, Nat.reduceAdd])) only [go_sem, ↓reduceIte, Nat.reduceAdd, Int.reduceNeg, Int.reduceAdd, Int.reduceSub, Int.reduceMul, Int.reduceLT, Int.reduceLE, Int.reduceEq, Int.reduceToNat, Nat.reduceBEq, e_sle, e_sge, e_shl1, e_orI, e_andI, e_shr, wrapu, wrap8, tn1, nat1, ix_s, ix_z, st_s, st_z, fl_s, fl_z, fl1_s, fl1_z, map_s, map_z, e1, d1]
  generalize hL1 : left - ((wtItems its : Nat) : Int) = L1 at *
  refine cl_ok (szVecs_m ps ih L1 o3 o4 (by omega) (by omega)) rfl ?_
  by_cases hw2 : ((ps.length + sumBy wtV ps : Nat) : Int) ≤ L1
  rotate_left
  · have hs := szF_gt (left := L1) (wt := ps.length + sumBy wtV ps) (by omega)
    simp (disch := first | omega | (simp only [List.length_take, List.length_drop, List.length_append, List.map_cons, List.map_nil, List.length_map, List.length_cons, List.length_nil, List.length_set, List.length_replicate]; omega) | (simp only [List.length_cons, List.length_nil, Nat.zero_add, Nat.reduceAdd])) only [go_sem, ↓reduceIte, Nat.reduceAdd, Int.reduceNeg, Int.reduceAdd, Int.reduceSub, Int.reduceMul, Int.reduceLT, Int.reduceLE, Int.reduceEq, Int.reduceToNat, Nat.reduceBEq, e_sle, e_sge, e_shl1, e_orI, e_andI, e_shr, wrapu, wrap8, tn1, nat1, ix_s, ix_z, st_s, st_z, fl_s, fl_z, fl1_s, fl1_z, map_s, map_z, hs]
    exact ret_z (szF_gt (by omega))
  have e2 := szF_le hw2
  have d2 : decide (L1 - ((ps.length + sumBy wtV ps : Nat) : Int) < 0) = false := decide_eq_false (by omega)
  simp (disch := first | omega | (simp only [List.length_take, List.length_drop, List.length_append, List.map_cons, List.map_nil, List.length_map, List.length_cons, List.length_nil, List.length_set, List.length_replicate]; omega) | (simp only [List.length_cons, List.length_nil, Nat.zero_add, Nat.reduceAdd])) only [go_sem, ↓reduceIte, Nat.reduceAdd, Int.reduceNeg, Int.reduceAdd, Int.reduceSub, Int.reduceMul, Int.reduceLT, Int.reduceLE, Int.reduceEq, Int.reduceToNat, Nat.reduceBEq, e_sle, e_sge, e_shl1, e_orI, e_andI, e_shr, wrapu, wrap8, tn1, nat1, ix_s, ix_z, st_s, st_z, fl_s, fl_z, fl1_s, fl1_z, map_s, map_z, e2, d2]
  generalize hL2 : L1 - ((ps.length + sumBy wtV ps : Nat) : Int) = L2 at *
  refine cl_ok (szSs_m ns L2 o5 (by omega) (by omega)) rfl ?_
  by_cases hw3 : ((wtSs ns : Nat) : Int) ≤ L2
  rotate_left
  · have hs := szF_gt (left := L2) (wt := wtSs ns) (by omega)
    simp (disch := first | omega | (simp only [List.length_take, List.length_drop, List.length_append, List.map_cons, List.map_nil, List.length_map, List.length_cons, List.length_nil, List.length_set, List.length_replicate]; omega) | (simp only [List.length_cons, List.length_nil, Nat.zero_add, Nat.reduceAdd])) only [go_sem, ↓reduceIte, Nat.reduceAdd, Int.reduceNeg, Int.reduceAdd, Int.reduceSub, Int.reduceMul, Int.reduceLT, Int.reduceLE, Int.reduceEq, Int.reduceToNat, Nat.reduceBEq, e_sle, e_sge, e_shl1, e_orI, e_andI, e_shr, wrapu, wrap8, tn1, nat1, ix_s, ix_z, st_s, st_z, fl_s, fl_z, fl1_s, fl1_z, map_s, map_z, hs]
    exact ret_z (szF_gt (by omega))
  have e3 := szF_le hw3
  have d3 : decide (L2 - ((wtSs ns : Nat) : Int) < 0) = false := decide_eq_false (by omega)
  simp (disch := first | omega | (simp only [List.length_take, List.length_drop, List.length_append, List.map_cons, List.map_nil, List.length_map, List.length_cons, List.length_nil, List.length_set, List.length_replicate]; omega) | (simp only [List.length_cons, List.length_nil, Nat.zero_add, Nat.reduceAdd])) only [go_sem, ↓reduceIte, Nat.reduceAdd, Int.reduceNeg, Int.reduceAdd, Int.reduceSub, Int.reduceMul, Int.reduceLT, Int.reduceLE, Int.reduceEq, Int.reduceToNat, Nat.reduceBEq, e_sle, e_sge, e_shl1, e_orI, e_andI, e_shr, wrapu, wrap8, tn1, nat1, ix_s, ix_z, st_s, st_z, fl_s, fl_z, fl1_s, fl1_z, map_s, map_z, e3, d3]
  generalize hL3 : L2 - ((wtSs ns : Nat) : Int) = L3 at *
  refine cl_ok (szSs_m cl L3 o6 (by omega) (by omega)) rfl ?_
  by_cases hw4 : ((wtSs cl : Nat) : Int) ≤ L3
  rotate_left
  · have hs := szF_gt (left := L3) (wt := wtSs cl) (by omega)
    simp (disch := first | omega | (simp only [List.length_take, List.length_drop, List.length_append, List.map_cons, List.map_nil, List.length_map, List.length_cons, List.length_nil, List.length_set, List.length_replicate]; omega) | (simp only [List.length_cons, List.length_nil, Nat.zero_add, Nat.reduceAdd])) only [go_sem, ↓reduceIte, Nat.reduceAdd, Int.reduceNeg, Int.reduceAdd, Int.reduceSub, Int.reduceMul, Int.reduceLT, Int.reduceLE, Int.reduceEq, Int.reduceToNat, Nat.reduceBEq, e_sle, e_sge, e_shl1, e_orI, e_andI, e_shr, wrapu, wrap8, tn1, nat1, ix_s, ix_z, st_s, st_z, fl_s, fl_z, fl1_s, fl1_z, map_s, map_z, hs]
    exact ret_z (szF_gt (by omega))
  have e4 := szF_le hw4
  have d4 : decide (L3 - ((wtSs cl : Nat) : Int) < 0) = false := decide_eq_false (by omega)
  simp (disch := first | omega | (simp only [List.length_take, List.length_drop, List.length_append, List.map_cons, List.map_nil, List.length_map, List.length_cons, List.length_nil, List.length_set, List.length_replicate]; omega) | (simp only [List.length_cons, List.length_nil, Nat.zero_add, Nat.reduceAdd])) only [go_sem, ↓reduceIte, Nat.reduceAdd, Int.reduceNeg, Int.reduceAdd, Int.reduceSub, Int.reduceMul, Int.reduceLT, Int.reduceLE, Int.reduceEq, Int.reduceToNat, Nat.reduceBEq, e_sle, e_sge, e_shl1, e_orI, e_andI, e_shr, wrapu, wrap8, tn1, nat1, ix_s, ix_z, st_s, st_z, fl_s, fl_z, fl1_s, fl1_z, map_s, map_z, e4, d4]
  generalize hL4 : L3 - ((wtSs cl : Nat) : Int) = L4 at *
  refine cl_ok (szSs_m lv L4 o7 (by omega) (by omega)) rfl ?_
  by_cases hw5 : ((wtSs lv : Nat) : Int) ≤ L4
  rotate_left
  · have hs := szF_gt (left := L4) (wt := wtSs lv) (by omega)
    simp (disch := first | omega | (simp only [List.length_take, List.length_drop, List.length_append, List.map_cons, List.map_nil, List.length_map, List.length_cons, List.length_nil, List.length_set, List.length_replicate]; omega) | (simp only [List.length_cons, List.length_nil, Nat.zero_add, Nat.reduceAdd])) only [go_sem, ↓reduceIte, Nat.reduceAdd, Int.reduceNeg, Int.reduceAdd, Int.reduceSub, Int.reduceMul, Int.reduceLT, Int.reduceLE, Int.reduceEq, Int.reduceToNat, Nat.reduceBEq, e_sle, e_sge, e_shl1, e_orI, e_andI, e_shr, wrapu, wrap8, tn1, nat1, ix_s, ix_z, st_s, st_z, fl_s, fl_z, fl1_s, fl1_z, map_s, map_z, hs]
    exact ret_z (szF_gt (by omega))
  have e5 := szF_le hw5
  have d5 : decide (L4 - ((wtSs lv : Nat) : Int) < 0) = false := decide_eq_false (by omega)
  simp (disch := first | omega | (simp only [List.length_take, List.length_drop, List.length_append, List.map_cons, List.map_nil, List.length_map, List.length_cons, List.length_nil, List.length_set, List.length_replicate]; omega) | (simp only [List.length_cons, List.length_nil, Nat.zero_add, Nat.reduceAdd])) only [go_sem, ↓reduceIte, Nat.reduceAdd, Int.reduceNeg, Int.reduceAdd, Int.reduceSub, Int.reduceMul, Int.reduceLT, Int.reduceLE, Int.reduceEq, Int.reduceToNat, Nat.reduceBEq, e_sle, e_sge, e_shl1, e_orI, e_andI, e_shr, wrapu, wrap8, tn1, nat1, ix_s, ix_z, st_s, st_z, fl_s, fl_z, fl1_s, fl1_z, map_s, map_z, e5, d5]
  exact ret_z (by rw [szF_le (by omega)]; omega)
theorem e_make144 {el k : Nat} {zz : List DV} {z : Int} (h0 : 0 ≤ z) (h1 : z ≤ 1000000000) : eMake el k 144 zz (some (.sc (.int .i64 z))) = some [.sl el k (List.replicate z.toNat zz)] := by
  have h3 : 144 * z.toNat ≤ 281474976710656 := by omega
  have h4 : z.toNat ≤ 9223372036854775807 := by omega
  simp [eMake, h0, h3, h4]
def z8 : List DV := [.sc (.int .i64 0), .sl 0 1 [], .sl 0 1 [], .sl 0 1 [], .sl 0 1 [], .sl 0 1 [], .sc (.int .i64 0), .sc (.int .i64 0)]
def ToV (v : Vec) : Prop := wtV v ≤ 1048576 → Meets Try.prog 7 [(true, encVL v)] [(true, encV v, true)]
theorem toVecs_m (l : List Vec) (hall : ∀ p ∈ l, ToV p) (h : l.length + sumBy wtV l ≤ 1048576) : Meets Try.prog 24 [(false, [.sl 26 8 (l.map encVL)])] [(false, [.sl 34 8 (l.map encV)], true)] := by
  have hz : ∀ x ∈ l, wtV x ≤ 1048576 := fun x hx => by have := sumBy_mem wtV hx; omega
  refine meets_upf Try.func24 u_laws_toVectorS_g rfl ?_; simp only [u_laws_toVectorS_u]
  have hm1 : eMake 34 8 144 z8 (some (.sc (.int .i64 (l.length : Int)))) = some [.sl 34 8 (fillL (l.map encV) 0 z8)] := by
    rw [e_make144 (by omega) (by omega), ← fill0, Int.toNat_natCast]
  unfold z8 at hm1
  simp (disch := first | omega | (simp only [List.length_take, List.length_drop, List.length_append, List.map_cons, List.map_nil, List.length_map, List.length_cons, List.length_nil, List.length_set, List.length_replicate]; omega) | (simp only [List.length_cons, List.length_nil, Nat.zero_add, Nat.reduceAdd])) only [go_sem, ↓reduceIte, Nat.reduceAdd, Int.reduceNeg, Int.reduceAdd, Int.reduceSub, Int.reduceMul, Int.reduceLT, Int.reduceLE, Int.reduceEq, Int.reduceToNat, Nat.reduceBEq, e_sle, e_sge, e_shl1, e_orI, e_andI, e_shr, wrapu, wrap8, tn1, nat1, ix_s, ix_z, st_s, st_z, fl_s, fl_z, fl1_s, fl1_z, map_s, map_z, hm1]
  refine lp_n l.length (fun i => [.sc (.int .i64 i), .sl 34 8 (fillL (l.map encV) i z8)]) rfl fun i hi => ?_
  simp only [u_laws_toVectorS_l0]
  by_cases hlt : i < l.length
  · have e1 := e_chkF (e := encV) (t := 34) (k := 8) (kd := .i64) (z := z8) hlt
    have hc := hall _ (getD_mem hlt) (hz _ (getD_mem hlt))
    have hix : eIdx 8 (some (.sl 26 8 (l.map encVL))) (some (.sc (.int .i64 (i : Int)))) = some (encVL (l.getD i default)) := by rw [ix_V (by omega) (by omega), Int.toNat_natCast]
    have e2 : ∀ ds, ds = encV (l.getD i default) → eSet 8 0 (some (.sl 34 8 (fillL (l.map encV) i z8))) (some (.sc (.int .i64 (i : Int)))) (some ds) = some [.sl 34 8 (fillL (l.map encV) (i + 1) z8)] := fun ds hd => e_fill (e := encV) hd rfl (encVt_len _ _) hlt
    generalize l.getD i default = x at hc hix e2
    obtain ⟨x0, x1, x2, x3, x4, x5, x6, x7⟩ := x
    have e3 := e2 _ (encV_mk _ _ _ _ _ _ _ _ _ _).symm
    simp only [encVL, encV, encV_mk, encSs] at hc hix e3 e1
    repeat' (first | (with_reducible refine jn_in ?_) | (with_reducible refine cl_ok (by assumption) rfl ?_) | (with_reducible refine cl_okP (by assumption) rfl ?_) | (with_reducible refine br_if (fun hbr => ?_) (fun hbr => ?_)) | (with_reducible refine br_ifn (fun hbr => ?_) (fun hbr => ?_)) | (with_reducible refine br_nb (fun hbr => ?_) (fun hbr => ?_)) | (with_reducible refine br_b (fun hbr => ?_) (fun hbr => ?_)) | simp (disch := first | omega | (simp only [List.length_take, List.length_drop, List.length_append, List.map_cons, List.map_nil, List.length_map, List.length_cons, List.length_nil, List.length_set, List.length_replicate]; omega) | (simp only [List.length_cons, List.length_nil, Nat.zero_add, Nat.reduceAdd])) only [go_sem, ↓reduceIte, Nat.reduceAdd, Int.reduceNeg, Int.reduceAdd, Int.reduceSub, Int.reduceMul, Int.reduceLT, Int.reduceLE, Int.reduceEq, Int.reduceToNat, Nat.reduceBEq, e_sle, e_sge, e_shl1, e_orI, e_andI, e_shr, wrapu, wrap8, tn1, nat1, ix_s, ix_z, st_s, st_z, fl_s, fl_z, fl1_s, fl1_z, map_s, map_z, e1, e3, hix])
    all_goals first | omega | exact ⟨rfl, by omega⟩
  · obtain rfl : i = l.length := by omega
    repeat' (first | (with_reducible refine jn_in ?_) | (with_reducible refine cl_ok (by assumption) rfl ?_) | (with_reducible refine cl_okP (by assumption) rfl ?_) | (with_reducible refine br_if (fun hbr => ?_) (fun hbr => ?_)) | (with_reducible refine br_ifn (fun hbr => ?_) (fun hbr => ?_)) | (with_reducible refine br_nb (fun hbr => ?_) (fun hbr => ?_)) | (with_reducible refine br_b (fun hbr => ?_) (fun hbr => ?_)) | simp (disch := first | omega | (simp only [List.length_take, List.length_drop, List.length_append, List.map_cons, List.map_nil, List.length_map, List.length_cons, List.length_nil, List.length_set, List.length_replicate]; omega) | (simp only [List.length_cons, List.length_nil, Nat.zero_add, Nat.reduceAdd])) only [go_sem, ↓reduceIte, Nat.reduceAdd, Int.reduceNeg, Int.reduceAdd, Int.reduceSub, Int.reduceMul, Int.reduceLT, Int.reduceLE, Int.reduceEq, Int.reduceToNat, Nat.reduceBEq, e_sle, e_sge, e_shl1, e_orI, e_andI, e_shr, wrapu, wrap8, tn1, nat1, ix_s, ix_z, st_s, st_z, fl_s, fl_z, fl1_s, fl1_z, map_s, map_z, fillL_endm])
    all_goals first | omega | rfl
theorem toV_m : ∀ v : Vec, ToV v := Vec.ind fun k its ps ns cl lv c e ih h => by
  rw [wtV_mk] at h
  have h1 := toItemS_m 71 its (by unfold wtItems at h; omega)
  have h2 := toVecs_m ps ih (by omega)
  have h3 := toSs_m ns (wtSs_len (n := 1048576) (by omega))
  have h4 := toSs_m cl (wtSs_len (n := 1048576) (by omega))
  have h5 := toSs_m lv (wtSs_len (n := 1048576) (by omega))
  simp only [encVL, encV, encV_mk, encSs, encIts] at h1 h2 h3 h4 h5 ⊢
  refine meets_upf Try.func7 u_laws_toVector_g rfl ?_; simp only [u_laws_toVector_u]
  repeat' (first | (with_reducible refine jn_in ?_) | (with_reducible refine cl_ok (by assumption) rfl ?_) | (with_reducible refine cl_okP (by assumption) rfl ?_) | (with_reducible refine br_if (fun hbr => ?_) (fun hbr => ?_)) | (with_reducible refine br_ifn (fun hbr => ?_) (fun hbr => ?_)) | (with_reducible refine br_nb (fun hbr => ?_) (fun hbr => ?_)) | (with_reducible refine br_b (fun hbr => ?_) (fun hbr => ?_)) | simp (disch := first | omega | (simp only [List.length_take, List.length_drop, List.length_append, List.map_cons, List.map_nil, List.length_map, List.length_cons, List.length_nil, List.length_set, List.length_replicate]; omega) | (simp only [List.length_cons, List.length_nil, Nat.zero_add, Nat.reduceAdd])) only [go_sem, ↓reduceIte, Nat.reduceAdd, Int.reduceNeg, Int.reduceAdd, Int.reduceSub, Int.reduceMul, Int.reduceLT, Int.reduceLE, Int.reduceEq, Int.reduceToNat, Nat.reduceBEq, e_sle, e_sge, e_shl1, e_orI, e_andI, e_shr, wrapu, wrap8, tn1, nat1, ix_s, ix_z, st_s, st_z, fl_s, fl_z, fl1_s, fl1_z, map_s, map_z, true_and])
  all_goals rfl
def EqV (v : Vec) : Prop := wtV v ≤ 1000000000 → Meets Try.prog 10 [(true, encV v), (true, encV v)] [(false, [.sc (.bool true)], true)]
theorem eqVecs_m (l : List Vec) (hall : ∀ p ∈ l, EqV p) (h : l.length + sumBy wtV l ≤ 1000000000) : Meets Try.prog 31 [(false, [.sl 34 8 (l.map encV)]), (false, [.sl 34 8 (l.map encV)])] [(false, [.sc (.bool true)], true)] := by
  have hz : ∀ x ∈ l, wtV x ≤ 1000000000 := fun x hx => by have := sumBy_mem wtV hx; omega
  refine meets_upf Try.func31 u_laws_eqVectorS_g rfl ?_; simp only [u_laws_eqVectorS_u]
  simp (disch := first | omega | (simp only [List.length_take, List.length_drop, List.length_append, List.map_cons, List.map_nil, List.length_map, List.length_cons, List.length_nil, List.length_set, List.length_replicate]; omega) | (simp only [List.length_cons, List.length_nil, Nat.zero_add, Nat.reduceAdd])) only [go_sem, ↓reduceIte, Nat.reduceAdd, Int.reduceNeg, Int.reduceAdd, Int.reduceSub, Int.reduceMul, Int.reduceLT, Int.reduceLE, Int.reduceEq, Int.reduceToNat, Nat.reduceBEq, e_sle, e_sge, e_shl1, e_orI, e_andI, e_shr, wrapu, wrap8, tn1, nat1, ix_s, ix_z, st_s, st_z, fl_s, fl_z, fl1_s, fl1_z, map_s, map_z, eq_self]
  refine lp_n l.length (fun i => [.sc (.int .i64 i)]) rfl fun i hi => ?_
  simp only [u_laws_eqVectorS_l0]
  by_cases hlt : i < l.length
  · have hc := hall _ (getD_mem hlt) (hz _ (getD_mem hlt))
    have hix : eIdx 8 (some (.sl 34 8 (l.map encV))) (some (.sc (.int .i64 (i : Int)))) = some (encV (l.getD i default)) := by rw [ix_V (by omega) (by omega), Int.toNat_natCast]
    generalize l.getD i default = x at hc hix
    obtain ⟨x0, x1, x2, x3, x4, x5, x6, x7⟩ := x
    simp only [encV, encV_mk, encSs] at hc hix
    repeat' (first | (with_reducible refine jn_in ?_) | (with_reducible refine cl_ok (by assumption) rfl ?_) | (with_reducible refine cl_okP (by assumption) rfl ?_) | (with_reducible refine br_if (fun hbr => ?_) (fun hbr => ?_)) | (with_reducible refine br_ifn (fun hbr => ?_) (fun hbr => ?_)) | (with_reducible refine br_nb (fun hbr => ?_) (fun hbr => ?_)) | (with_reducible refine br_b (fun hbr => ?_) (fun hbr => ?_)) | simp (disch := first | omega | (simp only [List.length_take, List.length_drop, List.length_append, List.map_cons, List.map_nil, List.length_map, List.length_cons, List.length_nil, List.length_set, List.length_replicate]; omega) | (simp only [List.length_cons, List.length_nil, Nat.zero_add, Nat.reduceAdd])) only [go_sem, ↓reduceIte, Nat.reduceAdd, Int.reduceNeg, Int.reduceAdd, Int.reduceSub, Int.reduceMul, Int.reduceLT, Int.reduceLE, Int.reduceEq, Int.reduceToNat, Nat.reduceBEq, e_sle, e_sge, e_shl1, e_orI, e_andI, e_shr, wrapu, wrap8, tn1, nat1, ix_s, ix_z, st_s, st_z, fl_s, fl_z, fl1_s, fl1_z, map_s, map_z, hix])
    all_goals first | omega | exact ⟨rfl, by omega⟩
  · obtain rfl : i = l.length := by omega
    repeat' (first | (with_reducible refine jn_in ?_) | (with_reducible refine cl_ok (by assumption) rfl ?_) | (with_reducible refine cl_okP (by assumption) rfl ?_) | (with_reducible refine br_if (fun hbr => ?_) (fun hbr => ?_)) | (with_reducible refine br_ifn (fun hbr => ?_) (fun hbr => ?_)) | (with_reducible refine br_nb (fun hbr => ?_) (fun hbr => ?_)) | (with_reducible refine br_b (fun hbr => ?_) (fun hbr => ?_)) | simp (disch := first | omega | (simp only [List.length_take, List.length_drop, List.length_append, List.map_cons, List.map_nil, List.length_map, List.length_cons, List.length_nil, List.length_set, List.length_replicate]; omega) | (simp only [List.length_cons, List.length_nil, Nat.zero_add, Nat.reduceAdd])) only [go_sem, ↓reduceIte, Nat.reduceAdd, Int.reduceNeg, Int.reduceAdd, Int.reduceSub, Int.reduceMul, Int.reduceLT, Int.reduceLE, Int.reduceEq, Int.reduceToNat, Nat.reduceBEq, e_sle, e_sge, e_shl1, e_orI, e_andI, e_shr, wrapu, wrap8, tn1, nat1, ix_s, ix_z, st_s, st_z, fl_s, fl_z, fl1_s, fl1_z, map_s, map_z, true_and])
    all_goals first | omega | rfl
theorem eqV_m : ∀ v : Vec, EqV v := Vec.ind fun k its ps ns cl lv c e ih h => by
  rw [wtV_mk] at h
  have h1 := eqItemS_m its (by unfold wtItems at h; omega)
  have h2 := eqVecs_m ps ih (by omega)
  have h3 := eqSs_m ns (wtSs_len (n := 100000000000) (by omega))
  have h4 := eqSs_m cl (wtSs_len (n := 100000000000) (by omega))
  have h5 := eqSs_m lv (wtSs_len (n := 100000000000) (by omega))
  simp only [encV, encV_mk, encSs, encIts] at h1 h2 h3 h4 h5 ⊢
  refine meets_upf Try.func10 u_laws_eqVector_g rfl ?_; simp only [u_laws_eqVector_u]
  repeat' (first | (with_reducible refine jn_in ?_) | (with_reducible refine cl_ok (by assumption) rfl ?_) | (with_reducible refine cl_okP (by assumption) rfl ?_) | (with_reducible refine br_if (fun hbr => ?_) (fun hbr => ?_)) | (with_reducible refine br_ifn (fun hbr => ?_) (fun hbr => ?_)) | (with_reducible refine br_nb (fun hbr => ?_) (fun hbr => ?_)) | (with_reducible refine br_b (fun hbr => ?_) (fun hbr => ?_)) | simp (disch := first | omega | (simp only [List.length_take, List.length_drop, List.length_append, List.map_cons, List.map_nil, List.length_map, List.length_cons, List.length_nil, List.length_set, List.length_replicate]; omega) | (simp only [List.length_cons, List.length_nil, Nat.zero_add, Nat.reduceAdd])) only [go_sem, ↓reduceIte, Nat.reduceAdd, Int.reduceNeg, Int.reduceAdd, Int.reduceSub, Int.reduceMul, Int.reduceLT, Int.reduceLE, Int.reduceEq, Int.reduceToNat, Nat.reduceBEq, e_sle, e_sge, e_shl1, e_orI, e_andI, e_shr, wrapu, wrap8, tn1, nat1, ix_s, ix_z, st_s, st_z, fl_s, fl_z, fl1_s, fl1_z, map_s, map_z, eq_self])
  all_goals rfl
end Go.Proofs.Ytkcljmgjbjdccaa

namespace Go.Proofs.Ytkcljmgjbjdccaa
open Go.RowKit
set_option maxRecDepth 100000
theorem bb {a b : Bool} (h : a = b) : [DV.sc (.bool a)] = [.sc (.bool b)] := by rw [h]
def lnV (k : Int) (a b : Nat) : Int := if k = 5 then 1 else (a : Int) + (b : Int)
theorem lnV_bd {k : Int} {a b : Nat} (h1 : a ≤ 1048576) (h2 : b ≤ 1048576) : 0 ≤ lnV k a b ∧ lnV k a b ≤ 2097152 := by unfold lnV; split <;> omega
def labP (l : List ByteArray) (j : Nat) : Bool := !decide (l.getD j default = ⟨#[]⟩) && (decide (((l.getD j default).size : Int) ≤ 60) && !decide (find1 l (l.getD j default) < (j : Int)))
def labB (l : List ByteArray) (m : Int) : Bool := decide ((l.length : Int) ≤ m) && allB (labP l) l.length
def nmP (l : List ByteArray) (j : Nat) : Bool := decide (((l.getD j default).size : Int) ≤ 60)
def emP (l : List ByteArray) (j : Nat) : Bool := decide (l.getD j default = ⟨#[]⟩)
def nmB (l : List ByteArray) : Bool := (decide (l.length = 0) || !allB (emP l) l.length) && allB (nmP l) l.length
def ivB (k : Int) (x : It) : Bool := decide (x = it0) || (if k = 1 then decide (x.den = 1) && (decide (0 ≤ x.num ∧ x.num ≤ 1) && decide (x.text = ⟨#[]⟩)) else if k = 2 then numB x else decide (k = 3) && (decide (x.num = 0) && (decide (x.den = 1) && decide ((x.text.size : Int) ≤ 60))))
theorem eq_itV (x y : It) : eqKD [.i, .i, .s] (encIt x) (encIt y) = some (decide (x = y)) := by
  obtain ⟨a, b, c⟩ := x
  obtain ⟨a', b', c'⟩ := y
  simp only [encIt, eqKD, eqK, if_true, It.mk.injEq, Bool.and_true]
  congr 1
  rw [← Bool.decide_and, ← Bool.decide_and]
theorem eq0_itV (x : It) : eEqS false [.i, .i, .s] (some [.sc (.int .i64 x.num), .sc (.int .i64 x.den), .sc (.string x.text)]) (some [.sc (.int .i64 0), .sc (.int .i64 0), .sc (.string ⟨#[]⟩)]) = some [.sc (.bool (decide (x = it0)))] := e_eqS (eq_itV x it0)
theorem iMiss_m (x : It) : Meets Try.prog 28 [(true, encIt x)] [(false, [.sc (.bool (decide (x = it0)))], true)] := by
  refine meets_upf Try.func28 u_impl_isMissing_g rfl ?_; simp only [u_impl_isMissing_u]
  unfold encIt
  repeat' (first | (with_reducible refine jn_in ?_) | (with_reducible refine cl_ok (by assumption) rfl ?_) | (with_reducible refine cl_okP (by assumption) rfl ?_) | (with_reducible refine br_if (fun hbr => ?_) (fun hbr => ?_)) | (with_reducible refine br_ifn (fun hbr => ?_) (fun hbr => ?_)) | (with_reducible refine br_nb (fun hbr => ?_) (fun hbr => ?_)) | (with_reducible refine br_b (fun hbr => ?_) (fun hbr => ?_)) | simp (disch := first | omega | (simp only [List.length_take, List.length_drop, List.length_append, List.map_cons, List.map_nil, List.length_map, List.length_cons, List.length_nil, List.length_set, List.length_replicate]; omega) | (simp only [List.length_cons, List.length_nil, Nat.zero_add, Nat.reduceAdd])) only [go_sem, ↓reduceIte, Nat.reduceAdd, Int.reduceNeg, Int.reduceAdd, Int.reduceSub, Int.reduceMul, Int.reduceLT, Int.reduceLE, Int.reduceEq, Int.reduceToNat, Nat.reduceBEq, e_sle, e_sge, e_shl1, e_orI, e_andI, e_shr, wrapu, wrap8, tn1, nat1, ix_s, ix_z, st_s, st_z, fl_s, fl_z, fl1_s, fl1_z, map_s, map_z, eq0_itV])
  exact ret_b rfl
theorem iItem_m (k : Int) (x : It) : Meets Try.prog 86 [(false, [.sc (.int .i64 k)]), (true, encIt x)] [(false, [.sc (.bool (ivB k x))], true)] := by
  have h1 := iMiss_m x
  have h2 := mImplIsNum x
  refine meets_upf Try.func86 u_impl_itemValid_g rfl ?_; simp only [u_impl_itemValid_u]
  unfold encIt at *
  repeat' (first | (with_reducible refine jn_in ?_) | (with_reducible refine cl_ok (by assumption) rfl ?_) | (with_reducible refine cl_okP (by assumption) rfl ?_) | (with_reducible refine br_if (fun hbr => ?_) (fun hbr => ?_)) | (with_reducible refine br_ifn (fun hbr => ?_) (fun hbr => ?_)) | (with_reducible refine br_nb (fun hbr => ?_) (fun hbr => ?_)) | (with_reducible refine br_b (fun hbr => ?_) (fun hbr => ?_)) | simp (disch := first | omega | (simp only [List.length_take, List.length_drop, List.length_append, List.map_cons, List.map_nil, List.length_map, List.length_cons, List.length_nil, List.length_set, List.length_replicate]; omega) | (simp only [List.length_cons, List.length_nil, Nat.zero_add, Nat.reduceAdd])) only [go_sem, ↓reduceIte, Nat.reduceAdd, Int.reduceNeg, Int.reduceAdd, Int.reduceSub, Int.reduceMul, Int.reduceLT, Int.reduceLE, Int.reduceEq, Int.reduceToNat, Nat.reduceBEq, e_sle, e_sge, e_shl1, e_orI, e_andI, e_shr, wrapu, wrap8, tn1, nat1, ix_s, ix_z, st_s, st_z, fl_s, fl_z, fl1_s, fl1_z, map_s, map_z, true_and])
  all_goals refine ret_b ?_
  all_goals unfold ivB
  all_goals first
    | (simp [*]; done)
    | (simp_all; done)
    | (rw [Bool.eq_iff_iff]; simp [*]; omega)
theorem sItem_m (k : Int) (x : It) : Meets Try.prog 66 [(false, [.sc (.int .i64 k)]), (true, encIt x)] [(false, [.sc (.bool (ivB k x))], true)] := by
  have h1 := mIn x.num 0 1
  have h2 := mSpecIsNum x
  refine meets_upf Try.func66 u_spec_l4Item_g rfl ?_; simp only [u_spec_l4Item_u]
  unfold encIt at *
  repeat' (first | (with_reducible refine jn_in ?_) | (with_reducible refine cl_ok (by assumption) rfl ?_) | (with_reducible refine cl_okP (by assumption) rfl ?_) | (with_reducible refine br_if (fun hbr => ?_) (fun hbr => ?_)) | (with_reducible refine br_ifn (fun hbr => ?_) (fun hbr => ?_)) | (with_reducible refine br_nb (fun hbr => ?_) (fun hbr => ?_)) | (with_reducible refine br_b (fun hbr => ?_) (fun hbr => ?_)) | simp (disch := first | omega | (simp only [List.length_take, List.length_drop, List.length_append, List.map_cons, List.map_nil, List.length_map, List.length_cons, List.length_nil, List.length_set, List.length_replicate]; omega) | (simp only [List.length_cons, List.length_nil, Nat.zero_add, Nat.reduceAdd])) only [go_sem, ↓reduceIte, Nat.reduceAdd, Int.reduceNeg, Int.reduceAdd, Int.reduceSub, Int.reduceMul, Int.reduceLT, Int.reduceLE, Int.reduceEq, Int.reduceToNat, Nat.reduceBEq, e_sle, e_sge, e_shl1, e_orI, e_andI, e_shr, wrapu, wrap8, tn1, nat1, ix_s, ix_z, st_s, st_z, fl_s, fl_z, fl1_s, fl1_z, map_s, map_z, eq0_itV])
  all_goals refine ret_b ?_
  all_goals unfold ivB
  all_goals first
    | (simp [*]; done)
    | (simp_all; done)
    | (rw [Bool.eq_iff_iff]; simp [*]; omega)
set_option maxHeartbeats 1000000 in
theorem iLab_m (t : Nat) (l : List ByteArray) (m : Int) (hl : l.length ≤ 1048576) : Meets Try.prog 84 [(false, [.sl t 1 (l.map encS)]), (false, [.sc (.int .i64 m)])] [(false, [.sc (.bool (labB l m))], true)] := by
  have hH := fun i => hasText_m t (l.take i) (l.getD i default) (by rw [List.length_take]; omega)
  refine meets_upf Try.func84 u_impl_labelsValid_g rfl ?_; simp only [u_impl_labelsValid_u]
  unfold labB
  simp (disch := first | omega | (simp only [List.length_take, List.length_drop, List.length_append, List.map_cons, List.map_nil, List.length_map, List.length_cons, List.length_nil, List.length_set, List.length_replicate]; omega) | (simp only [List.length_cons, List.length_nil, Nat.zero_add, Nat.reduceAdd])) only [go_sem, ↓reduceIte, Nat.reduceAdd, Int.reduceNeg, Int.reduceAdd, Int.reduceSub, Int.reduceMul, Int.reduceLT, Int.reduceLE, Int.reduceEq, Int.reduceToNat, Nat.reduceBEq, e_sle, e_sge, e_shl1, e_orI, e_andI, e_shr, wrapu, wrap8, tn1, nat1, ix_s, ix_z, st_s, st_z, fl_s, fl_z, fl1_s, fl1_z, map_s, map_z, true_and]
  refine br_if (fun hbr => ?_) (fun hbr => ?_)
  · simp (disch := first | omega | (simp only [List.length_take, List.length_drop, List.length_append, List.map_cons, List.map_nil, List.length_map, List.length_cons, List.length_nil, List.length_set, List.length_replicate]; omega) | (simp only [List.length_cons, List.length_nil, Nat.zero_add, Nat.reduceAdd])) only [go_sem, ↓reduceIte, Nat.reduceAdd, Int.reduceNeg, Int.reduceAdd, Int.reduceSub, Int.reduceMul, Int.reduceLT, Int.reduceLE, Int.reduceEq, Int.reduceToNat, Nat.reduceBEq, e_sle, e_sge, e_shl1, e_orI, e_andI, e_shr, wrapu, wrap8, tn1, nat1, ix_s, ix_z, st_s, st_z, fl_s, fl_z, fl1_s, fl1_z, map_s, map_z, true_and]
    exact ret_b (by rw [decide_eq_false (by omega)]; rfl)
  rw [decide_eq_true (by omega), Bool.true_and]
  simp (disch := first | omega | (simp only [List.length_take, List.length_drop, List.length_append, List.map_cons, List.map_nil, List.length_map, List.length_cons, List.length_nil, List.length_set, List.length_replicate]; omega) | (simp only [List.length_cons, List.length_nil, Nat.zero_add, Nat.reduceAdd])) only [go_sem, ↓reduceIte, Nat.reduceAdd, Int.reduceNeg, Int.reduceAdd, Int.reduceSub, Int.reduceMul, Int.reduceLT, Int.reduceLE, Int.reduceEq, Int.reduceToNat, Nat.reduceBEq, e_sle, e_sge, e_shl1, e_orI, e_andI, e_shr, wrapu, wrap8, tn1, nat1, ix_s, ix_z, st_s, st_z, fl_s, fl_z, fl1_s, fl1_z, map_s, map_z, true_and]
  refine lp (fun i : Nat => [.sc (.int .i64 i)]) (fun i => i ≤ l.length ∧ allB (labP l) i = true) (fun i => l.length - i) 0 rfl ⟨by omega, rfl⟩ ?_
  rintro i ⟨hi, hb⟩
  simp only [u_impl_labelsValid_l0]
  by_cases hlt : i < l.length
  · have hHi := hH i
    rw [hasB_take hlt] at hHi
    repeat' (first | (with_reducible refine jn_in ?_) | (with_reducible refine cl_ok (by assumption) rfl ?_) | (with_reducible refine cl_okP (by assumption) rfl ?_) | (with_reducible refine br_if (fun hbr => ?_) (fun hbr => ?_)) | (with_reducible refine br_ifn (fun hbr => ?_) (fun hbr => ?_)) | (with_reducible refine br_nb (fun hbr => ?_) (fun hbr => ?_)) | (with_reducible refine br_b (fun hbr => ?_) (fun hbr => ?_)) | simp (disch := first | omega | (simp only [List.length_take, List.length_drop, List.length_append, List.map_cons, List.map_nil, List.length_map, List.length_cons, List.length_nil, List.length_set, List.length_replicate]; omega) | (simp only [List.length_cons, List.length_nil, Nat.zero_add, Nat.reduceAdd])) only [go_sem, ↓reduceIte, Nat.reduceAdd, Int.reduceNeg, Int.reduceAdd, Int.reduceSub, Int.reduceMul, Int.reduceLT, Int.reduceLE, Int.reduceEq, Int.reduceToNat, Nat.reduceBEq, e_sle, e_sge, e_shl1, e_orI, e_andI, e_shr, wrapu, wrap8, tn1, nat1, ix_s, ix_z, st_s, st_z, fl_s, fl_z, fl1_s, fl1_z, map_s, map_z, true_and])
    all_goals first
      | omega
      | exact ret_b (by rw [allB_no hlt (by (first | (simp [-List.getD_eq_getElem?_getD, labP, *]; done) | (simp_all [-List.getD_eq_getElem?_getD, labP]; done) | (simp [-List.getD_eq_getElem?_getD, labP, *]; omega) | (simp_all [-List.getD_eq_getElem?_getD, labP]; omega) | omega))])
      | exact ⟨i + 1, rfl, ⟨by omega, allB_step hb (by (first | (simp [-List.getD_eq_getElem?_getD, labP, *]; done) | (simp_all [-List.getD_eq_getElem?_getD, labP]; done) | (simp [-List.getD_eq_getElem?_getD, labP, *]; omega) | (simp_all [-List.getD_eq_getElem?_getD, labP]; omega) | omega))⟩, by omega⟩
      | skip
  · obtain rfl : i = l.length := by omega
    repeat' (first | (with_reducible refine jn_in ?_) | (with_reducible refine cl_ok (by assumption) rfl ?_) | (with_reducible refine cl_okP (by assumption) rfl ?_) | (with_reducible refine br_if (fun hbr => ?_) (fun hbr => ?_)) | (with_reducible refine br_ifn (fun hbr => ?_) (fun hbr => ?_)) | (with_reducible refine br_nb (fun hbr => ?_) (fun hbr => ?_)) | (with_reducible refine br_b (fun hbr => ?_) (fun hbr => ?_)) | simp (disch := first | omega | (simp only [List.length_take, List.length_drop, List.length_append, List.map_cons, List.map_nil, List.length_map, List.length_cons, List.length_nil, List.length_set, List.length_replicate]; omega) | (simp only [List.length_cons, List.length_nil, Nat.zero_add, Nat.reduceAdd])) only [go_sem, ↓reduceIte, Nat.reduceAdd, Int.reduceNeg, Int.reduceAdd, Int.reduceSub, Int.reduceMul, Int.reduceLT, Int.reduceLE, Int.reduceEq, Int.reduceToNat, Nat.reduceBEq, e_sle, e_sge, e_shl1, e_orI, e_andI, e_shr, wrapu, wrap8, tn1, nat1, ix_s, ix_z, st_s, st_z, fl_s, fl_z, fl1_s, fl1_z, map_s, map_z, true_and])
    all_goals first | omega | exact ret_b hb | skip
set_option maxHeartbeats 1000000 in
theorem sLab_m (t : Nat) (l : List ByteArray) (m : Int) (hl : l.length ≤ 1048576) : Meets Try.prog 65 [(false, [.sl t 1 (l.map encS)]), (false, [.sc (.int .i64 m)])] [(false, [.sc (.bool (labB l m))], true)] := by
  have hH := fun s => l1Find_m t l s (by omega)
  refine meets_upf Try.func65 u_spec_l4Labels_g rfl ?_; simp only [u_spec_l4Labels_u]
  unfold labB
  simp (disch := first | omega | (simp only [List.length_take, List.length_drop, List.length_append, List.map_cons, List.map_nil, List.length_map, List.length_cons, List.length_nil, List.length_set, List.length_replicate]; omega) | (simp only [List.length_cons, List.length_nil, Nat.zero_add, Nat.reduceAdd])) only [go_sem, ↓reduceIte, Nat.reduceAdd, Int.reduceNeg, Int.reduceAdd, Int.reduceSub, Int.reduceMul, Int.reduceLT, Int.reduceLE, Int.reduceEq, Int.reduceToNat, Nat.reduceBEq, e_sle, e_sge, e_shl1, e_orI, e_andI, e_shr, wrapu, wrap8, tn1, nat1, ix_s, ix_z, st_s, st_z, fl_s, fl_z, fl1_s, fl1_z, map_s, map_z, true_and]
  refine lp (fun i : Nat => [.sc (.int .i64 i)]) (fun i => i ≤ l.length ∧ allB (labP l) i = true) (fun i => l.length - i) 0 rfl ⟨by omega, rfl⟩ ?_
  rintro i ⟨hi, hb⟩
  simp only [u_spec_l4Labels_l0]
  by_cases hlt : i < l.length
  · have hHi := hH (l.getD i default)
    repeat' (first | (with_reducible refine jn_in ?_) | (with_reducible refine cl_ok (by assumption) rfl ?_) | (with_reducible refine cl_okP (by assumption) rfl ?_) | (with_reducible refine br_if (fun hbr => ?_) (fun hbr => ?_)) | (with_reducible refine br_ifn (fun hbr => ?_) (fun hbr => ?_)) | (with_reducible refine br_nb (fun hbr => ?_) (fun hbr => ?_)) | (with_reducible refine br_b (fun hbr => ?_) (fun hbr => ?_)) | simp (disch := first | omega | (simp only [List.length_take, List.length_drop, List.length_append, List.map_cons, List.map_nil, List.length_map, List.length_cons, List.length_nil, List.length_set, List.length_replicate]; omega) | (simp only [List.length_cons, List.length_nil, Nat.zero_add, Nat.reduceAdd])) only [go_sem, ↓reduceIte, Nat.reduceAdd, Int.reduceNeg, Int.reduceAdd, Int.reduceSub, Int.reduceMul, Int.reduceLT, Int.reduceLE, Int.reduceEq, Int.reduceToNat, Nat.reduceBEq, e_sle, e_sge, e_shl1, e_orI, e_andI, e_shr, wrapu, wrap8, tn1, nat1, ix_s, ix_z, st_s, st_z, fl_s, fl_z, fl1_s, fl1_z, map_s, map_z, true_and])
    all_goals first
      | omega
      | exact ret_b (by rw [allB_no hlt (by (first | (simp [-List.getD_eq_getElem?_getD, labP, *]; done) | (simp_all [-List.getD_eq_getElem?_getD, labP]; done) | (simp [-List.getD_eq_getElem?_getD, labP, *]; omega) | (simp_all [-List.getD_eq_getElem?_getD, labP]; omega) | omega)), Bool.and_false])
      | exact ret_b (by rw [decide_eq_false (show ¬ (l.length : Int) ≤ m by omega), Bool.false_and])
      | exact ⟨i + 1, rfl, ⟨by omega, allB_step hb (by (first | (simp [-List.getD_eq_getElem?_getD, labP, *]; done) | (simp_all [-List.getD_eq_getElem?_getD, labP]; done) | (simp [-List.getD_eq_getElem?_getD, labP, *]; omega) | (simp_all [-List.getD_eq_getElem?_getD, labP]; omega) | omega))⟩, by omega⟩
      | skip
  · obtain rfl : i = l.length := by omega
    repeat' (first | (with_reducible refine jn_in ?_) | (with_reducible refine cl_ok (by assumption) rfl ?_) | (with_reducible refine cl_okP (by assumption) rfl ?_) | (with_reducible refine br_if (fun hbr => ?_) (fun hbr => ?_)) | (with_reducible refine br_ifn (fun hbr => ?_) (fun hbr => ?_)) | (with_reducible refine br_nb (fun hbr => ?_) (fun hbr => ?_)) | (with_reducible refine br_b (fun hbr => ?_) (fun hbr => ?_)) | simp (disch := first | omega | (simp only [List.length_take, List.length_drop, List.length_append, List.map_cons, List.map_nil, List.length_map, List.length_cons, List.length_nil, List.length_set, List.length_replicate]; omega) | (simp only [List.length_cons, List.length_nil, Nat.zero_add, Nat.reduceAdd])) only [go_sem, ↓reduceIte, Nat.reduceAdd, Int.reduceNeg, Int.reduceAdd, Int.reduceSub, Int.reduceMul, Int.reduceLT, Int.reduceLE, Int.reduceEq, Int.reduceToNat, Nat.reduceBEq, e_sle, e_sge, e_shl1, e_orI, e_andI, e_shr, wrapu, wrap8, tn1, nat1, ix_s, ix_z, st_s, st_z, fl_s, fl_z, fl1_s, fl1_z, map_s, map_z, true_and])
    all_goals first | omega | exact ret_b (by rw [hb, Bool.and_true]) | skip
theorem iEmp_m (t : Nat) (l : List ByteArray) (hl : l.length ≤ 1048576) : Meets Try.prog 85 [(false, [.sl t 1 (l.map encS)])] [(false, [.sc (.bool (allB (emP l) l.length))], true)] := by
  refine meets_upf Try.func85 u_impl_allEmpty_g rfl ?_; simp only [u_impl_allEmpty_u]
  simp (disch := first | omega | (simp only [List.length_take, List.length_drop, List.length_append, List.map_cons, List.map_nil, List.length_map, List.length_cons, List.length_nil, List.length_set, List.length_replicate]; omega) | (simp only [List.length_cons, List.length_nil, Nat.zero_add, Nat.reduceAdd])) only [go_sem, ↓reduceIte, Nat.reduceAdd, Int.reduceNeg, Int.reduceAdd, Int.reduceSub, Int.reduceMul, Int.reduceLT, Int.reduceLE, Int.reduceEq, Int.reduceToNat, Nat.reduceBEq, e_sle, e_sge, e_shl1, e_orI, e_andI, e_shr, wrapu, wrap8, tn1, nat1, ix_s, ix_z, st_s, st_z, fl_s, fl_z, fl1_s, fl1_z, map_s, map_z, true_and]
  refine lp (fun i : Nat => [.sc (.int .i64 i)]) (fun i => i ≤ l.length ∧ allB (emP l) i = true) (fun i => l.length - i) 0 rfl ⟨by omega, rfl⟩ ?_
  rintro i ⟨hi, hb⟩
  simp only [u_impl_allEmpty_l0]
  by_cases hlt : i < l.length
  · repeat' (first | (with_reducible refine jn_in ?_) | (with_reducible refine cl_ok (by assumption) rfl ?_) | (with_reducible refine cl_okP (by assumption) rfl ?_) | (with_reducible refine br_if (fun hbr => ?_) (fun hbr => ?_)) | (with_reducible refine br_ifn (fun hbr => ?_) (fun hbr => ?_)) | (with_reducible refine br_nb (fun hbr => ?_) (fun hbr => ?_)) | (with_reducible refine br_b (fun hbr => ?_) (fun hbr => ?_)) | simp (disch := first | omega | (simp only [List.length_take, List.length_drop, List.length_append, List.map_cons, List.map_nil, List.length_map, List.length_cons, List.length_nil, List.length_set, List.length_replicate]; omega) | (simp only [List.length_cons, List.length_nil, Nat.zero_add, Nat.reduceAdd])) only [go_sem, ↓reduceIte, Nat.reduceAdd, Int.reduceNeg, Int.reduceAdd, Int.reduceSub, Int.reduceMul, Int.reduceLT, Int.reduceLE, Int.reduceEq, Int.reduceToNat, Nat.reduceBEq, e_sle, e_sge, e_shl1, e_orI, e_andI, e_shr, wrapu, wrap8, tn1, nat1, ix_s, ix_z, st_s, st_z, fl_s, fl_z, fl1_s, fl1_z, map_s, map_z, true_and])
    all_goals first
      | omega
      | exact ret_b (by rw [allB_no hlt (by (first | (simp [-List.getD_eq_getElem?_getD, emP, *]; done) | (simp_all [-List.getD_eq_getElem?_getD, emP]; done) | (simp [-List.getD_eq_getElem?_getD, emP, *]; omega) | (simp_all [-List.getD_eq_getElem?_getD, emP]; omega) | omega))])
      | exact ⟨i + 1, rfl, ⟨by omega, allB_step hb (by (first | (simp [-List.getD_eq_getElem?_getD, emP, *]; done) | (simp_all [-List.getD_eq_getElem?_getD, emP]; done) | (simp [-List.getD_eq_getElem?_getD, emP, *]; omega) | (simp_all [-List.getD_eq_getElem?_getD, emP]; omega) | omega))⟩, by omega⟩
      | skip
  · obtain rfl : i = l.length := by omega
    repeat' (first | (with_reducible refine jn_in ?_) | (with_reducible refine cl_ok (by assumption) rfl ?_) | (with_reducible refine cl_okP (by assumption) rfl ?_) | (with_reducible refine br_if (fun hbr => ?_) (fun hbr => ?_)) | (with_reducible refine br_ifn (fun hbr => ?_) (fun hbr => ?_)) | (with_reducible refine br_nb (fun hbr => ?_) (fun hbr => ?_)) | (with_reducible refine br_b (fun hbr => ?_) (fun hbr => ?_)) | simp (disch := first | omega | (simp only [List.length_take, List.length_drop, List.length_append, List.map_cons, List.map_nil, List.length_map, List.length_cons, List.length_nil, List.length_set, List.length_replicate]; omega) | (simp only [List.length_cons, List.length_nil, Nat.zero_add, Nat.reduceAdd])) only [go_sem, ↓reduceIte, Nat.reduceAdd, Int.reduceNeg, Int.reduceAdd, Int.reduceSub, Int.reduceMul, Int.reduceLT, Int.reduceLE, Int.reduceEq, Int.reduceToNat, Nat.reduceBEq, e_sle, e_sge, e_shl1, e_orI, e_andI, e_shr, wrapu, wrap8, tn1, nat1, ix_s, ix_z, st_s, st_z, fl_s, fl_z, fl1_s, fl1_z, map_s, map_z, true_and])
    all_goals first | omega | exact ret_b hb | skip
set_option maxHeartbeats 1000000 in
theorem sNam_m (t : Nat) (l : List ByteArray) (hl : l.length ≤ 1048576) : Meets Try.prog 64 [(false, [.sl t 1 (l.map encS)])] [(false, [.sc (.bool (nmB l))], true)] := by
  refine meets_upf Try.func64 u_spec_l4Named_g rfl ?_; simp only [u_spec_l4Named_u]
  unfold nmB
  simp (disch := first | omega | (simp only [List.length_take, List.length_drop, List.length_append, List.map_cons, List.map_nil, List.length_map, List.length_cons, List.length_nil, List.length_set, List.length_replicate]; omega) | (simp only [List.length_cons, List.length_nil, Nat.zero_add, Nat.reduceAdd])) only [go_sem, ↓reduceIte, Nat.reduceAdd, Int.reduceNeg, Int.reduceAdd, Int.reduceSub, Int.reduceMul, Int.reduceLT, Int.reduceLE, Int.reduceEq, Int.reduceToNat, Nat.reduceBEq, e_sle, e_sge, e_shl1, e_orI, e_andI, e_shr, wrapu, wrap8, tn1, nat1, ix_s, ix_z, st_s, st_z, fl_s, fl_z, fl1_s, fl1_z, map_s, map_z, true_and]
  refine lp (fun i : Nat => [.sc (.int .i64 i), .sc (.bool (decide (l.length = 0) || !allB (emP l) i))]) (fun i => i ≤ l.length ∧ allB (nmP l) i = true) (fun i => l.length - i) 0 (by simp [gL, allB_zero]) ⟨by omega, rfl⟩ ?_
  rintro i ⟨hi, hb⟩
  simp only [u_spec_l4Named_l1]
  by_cases hlt : i < l.length
  · have h0 : ¬ l.length = 0 := by omega
    rw [decide_eq_false h0, Bool.false_or, Bool.false_or]
    cases he : allB (emP l) i
    · repeat' (first | (with_reducible refine jn_in ?_) | (with_reducible refine cl_ok (by assumption) rfl ?_) | (with_reducible refine cl_okP (by assumption) rfl ?_) | (with_reducible refine br_if (fun hbr => ?_) (fun hbr => ?_)) | (with_reducible refine br_ifn (fun hbr => ?_) (fun hbr => ?_)) | (with_reducible refine br_nb (fun hbr => ?_) (fun hbr => ?_)) | (with_reducible refine br_b (fun hbr => ?_) (fun hbr => ?_)) | simp (disch := first | omega | (simp only [List.length_take, List.length_drop, List.length_append, List.map_cons, List.map_nil, List.length_map, List.length_cons, List.length_nil, List.length_set, List.length_replicate]; omega) | (simp only [List.length_cons, List.length_nil, Nat.zero_add, Nat.reduceAdd])) only [go_sem, ↓reduceIte, Nat.reduceAdd, Int.reduceNeg, Int.reduceAdd, Int.reduceSub, Int.reduceMul, Int.reduceLT, Int.reduceLE, Int.reduceEq, Int.reduceToNat, Nat.reduceBEq, e_sle, e_sge, e_shl1, e_orI, e_andI, e_shr, wrapu, wrap8, tn1, nat1, ix_s, ix_z, st_s, st_z, fl_s, fl_z, fl1_s, fl1_z, map_s, map_z, u_spec_l4Named_j0])
      all_goals first
        | omega
        | exact ret_b (by rw [allB_no (p := nmP l) hlt (by (first | (simp [-List.getD_eq_getElem?_getD, nmP, *]; done) | (simp_all [-List.getD_eq_getElem?_getD, nmP]; done) | (simp [-List.getD_eq_getElem?_getD, nmP, *]; omega) | (simp_all [-List.getD_eq_getElem?_getD, nmP]; omega) | omega)), Bool.and_false])
        | exact ⟨i + 1, by rw [allB_succ, he]; rfl, ⟨by omega, allB_step hb (by (first | (simp [-List.getD_eq_getElem?_getD, nmP, *]; done) | (simp_all [-List.getD_eq_getElem?_getD, nmP]; done) | (simp [-List.getD_eq_getElem?_getD, nmP, *]; omega) | (simp_all [-List.getD_eq_getElem?_getD, nmP]; omega) | omega))⟩, by omega⟩
        | skip
    · repeat' (first | (with_reducible refine jn_in ?_) | (with_reducible refine cl_ok (by assumption) rfl ?_) | (with_reducible refine cl_okP (by assumption) rfl ?_) | (with_reducible refine br_if (fun hbr => ?_) (fun hbr => ?_)) | (with_reducible refine br_ifn (fun hbr => ?_) (fun hbr => ?_)) | (with_reducible refine br_nb (fun hbr => ?_) (fun hbr => ?_)) | (with_reducible refine br_b (fun hbr => ?_) (fun hbr => ?_)) | simp (disch := first | omega | (simp only [List.length_take, List.length_drop, List.length_append, List.map_cons, List.map_nil, List.length_map, List.length_cons, List.length_nil, List.length_set, List.length_replicate]; omega) | (simp only [List.length_cons, List.length_nil, Nat.zero_add, Nat.reduceAdd])) only [go_sem, ↓reduceIte, Nat.reduceAdd, Int.reduceNeg, Int.reduceAdd, Int.reduceSub, Int.reduceMul, Int.reduceLT, Int.reduceLE, Int.reduceEq, Int.reduceToNat, Nat.reduceBEq, e_sle, e_sge, e_shl1, e_orI, e_andI, e_shr, wrapu, wrap8, tn1, nat1, ix_s, ix_z, st_s, st_z, fl_s, fl_z, fl1_s, fl1_z, map_s, map_z, u_spec_l4Named_j0])
      all_goals first
        | omega
        | exact ret_b (by rw [allB_no (p := nmP l) hlt (by (first | (simp [-List.getD_eq_getElem?_getD, nmP, *]; done) | (simp_all [-List.getD_eq_getElem?_getD, nmP]; done) | (simp [-List.getD_eq_getElem?_getD, nmP, *]; omega) | (simp_all [-List.getD_eq_getElem?_getD, nmP]; omega) | omega)), Bool.and_false])
        | exact ⟨i + 1, by rw [allB_succ, he]; simp [emP], ⟨by omega, allB_step hb (by (first | (simp [-List.getD_eq_getElem?_getD, nmP, *]; done) | (simp_all [-List.getD_eq_getElem?_getD, nmP]; done) | (simp [-List.getD_eq_getElem?_getD, nmP, *]; omega) | (simp_all [-List.getD_eq_getElem?_getD, nmP]; omega) | omega))⟩, by omega⟩
        | skip
  · obtain rfl : i = l.length := by omega
    repeat' (first | (with_reducible refine jn_in ?_) | (with_reducible refine cl_ok (by assumption) rfl ?_) | (with_reducible refine cl_okP (by assumption) rfl ?_) | (with_reducible refine br_if (fun hbr => ?_) (fun hbr => ?_)) | (with_reducible refine br_ifn (fun hbr => ?_) (fun hbr => ?_)) | (with_reducible refine br_nb (fun hbr => ?_) (fun hbr => ?_)) | (with_reducible refine br_b (fun hbr => ?_) (fun hbr => ?_)) | simp (disch := first | omega | (simp only [List.length_take, List.length_drop, List.length_append, List.map_cons, List.map_nil, List.length_map, List.length_cons, List.length_nil, List.length_set, List.length_replicate]; omega) | (simp only [List.length_cons, List.length_nil, Nat.zero_add, Nat.reduceAdd])) only [go_sem, ↓reduceIte, Nat.reduceAdd, Int.reduceNeg, Int.reduceAdd, Int.reduceSub, Int.reduceMul, Int.reduceLT, Int.reduceLE, Int.reduceEq, Int.reduceToNat, Nat.reduceBEq, e_sle, e_sge, e_shl1, e_orI, e_andI, e_shr, wrapu, wrap8, tn1, nat1, ix_s, ix_z, st_s, st_z, fl_s, fl_z, fl1_s, fl1_z, map_s, map_z, true_and])
    all_goals first | omega | exact ret_b (by rw [hb, Bool.and_true]) | skip
def itlB (k : Int) (m : Nat) (x : It) : Bool := ivB k x && (decide (m = 0) || (decide (x.den = 0) || (decide (x.den = 1) && decide (1 ≤ x.num ∧ x.num ≤ (m : Int)))))
theorem ivB_den {k : Int} {x : It} (h : ivB k x = true) : x = it0 ↔ x.den = 0 := by
  constructor
  · rintro rfl; rfl
  · intro hd
    unfold ivB at h
    rcases Bool.or_eq_true _ _ ▸ h with h | h
    · exact of_decide_eq_true h
    · exfalso
      split at h
      · simp [hd] at h
      · split at h
        · simp [numB, hd] at h
        · simp [hd] at h
def gA (k n : Int) (ns cl lv : List ByteArray) : Bool := decide (0 ≤ k ∧ k ≤ 5) && (decide (n ≤ 40) && ((decide (ns.length = 0) || decide ((ns.length : Int) = n)) && (nmB ns && (labB cl 3 && labB lv 20))))
def gB (k c e : Int) (np nl : Nat) : Bool := (decide (k = 5) || (decide (c = 0) && decide (e = 0))) && ((decide (k = 2) || decide (nl = 0)) && (decide (k = 4) || decide (np = 0)))
def gC (k n c e : Int) (its : List It) (nn nc nl : Nat) : Bool :=
  if k = 5 then decide (its.length = 0) && (decide (nn = 0) && (decide (-999 ≤ c ∧ c ≤ 99999) && decide (0 ≤ e ∧ e ≤ 99999)))
  else if k = 0 then decide (n = 0) && decide (nc = 0)
  else if k = 4 then decide (its.length = 0) else allB (fun j => itlB k nl (its.getD j default)) its.length
def shB (k : Int) (its : List It) (np : Nat) (ns cl lv : List ByteArray) (c e : Int) : Bool :=
  gA k (lnV k its.length np) ns cl lv && (gB k c e np lv.length && gC k (lnV k its.length np) c e its ns.length cl.length lv.length)
def vcB : Nat → Vec → Bool
  | 0, .mk k its ps ns cl lv c e => shB k its ps.length ns cl lv c e && allB (fun _ => false) ps.length
  | n + 1, .mk k its ps ns cl lv c e => shB k its ps.length ns cl lv c e && allB (fun j => vcB n (ps.getD j default)) ps.length
def kidB (n : Nat) (ps : List Vec) (j : Nat) : Bool := match n with | 0 => false | n + 1 => vcB n (ps.getD j default)
theorem vcB_mk (n : Nat) (k : Int) (its : List It) (ps : List Vec) (ns cl lv : List ByteArray) (c e : Int) : vcB n (.mk k its ps ns cl lv c e) = (shB k its ps.length ns cl lv c e && allB (kidB n ps) ps.length) := by
  cases n <;> rw [vcB] <;> rfl
structure BdV (its : List It) (ps : List Vec) (ns cl lv : List ByteArray) : Prop where
  b1 : its.length ≤ 1048576
  b2 : ps.length ≤ 1048576
  b3 : ns.length ≤ 1048576
  b4 : cl.length ≤ 1048576
  b5 : lv.length ≤ 1048576
  kid : ∀ p ∈ ps, wtV p ≤ 1048576
theorem bdV {k c e : Int} {its : List It} {ps : List Vec} {ns cl lv : List ByteArray} (h : wtV (.mk k its ps ns cl lv c e) ≤ 1048576) : BdV its ps ns cl lv := by
  rw [wtV_mk] at h
  exact ⟨by unfold wtItems at h; omega, by omega, wtSs_len (n := 1048576) (by omega), wtSs_len (n := 1048576) (by omega), wtSs_len (n := 1048576) (by omega), fun p hp => by have := sumBy_mem wtV hp; omega⟩
def ceN : Nat → Vec → Nat
  | 0, .mk k its ps ns cl lv c e => (lnV k its.length ps.length).toNat + sumBy (fun _ => 0) ps
  | n + 1, .mk k its ps ns cl lv c e => (lnV k its.length ps.length).toNat + sumBy (fun p => ceN n p) ps
def kidC (n : Nat) (p : Vec) : Nat := match n with | 0 => 0 | n + 1 => ceN n p
theorem ceN_mk' (n : Nat) (k : Int) (its : List It) (ps : List Vec) (ns cl lv : List ByteArray) (c e : Int) : ceN n (.mk k its ps ns cl lv c e) = (lnV k its.length ps.length).toNat + sumBy (kidC n) ps := by
  cases n <;> rw [ceN] <;> rfl
theorem lnV_nn (k : Int) (a b : Nat) : 0 ≤ lnV k a b := by unfold lnV; split <;> omega
theorem ceN_mk (n : Nat) (k : Int) (its : List It) (ps : List Vec) (ns cl lv : List ByteArray) (c e : Int) : ((ceN n (.mk k its ps ns cl lv c e) : Nat) : Int) = lnV k its.length ps.length + (sumBy (kidC n) ps : Nat) := by
  have := lnV_nn k its.length ps.length
  rw [ceN_mk']; omega
def ceB : Nat → Nat
  | 0 => 40
  | n + 1 => 40 + 40 * ceB n
theorem sumBy_bd {α : Type} (f : α → Nat) (m : Nat) : ∀ l : List α, (∀ x ∈ l, f x ≤ m) → sumBy f l ≤ l.length * m
  | [], _ => by simp [sumBy]
  | x :: l, h => by
    have h1 := h x (List.mem_cons_self ..)
    have h2 := sumBy_bd f m l fun y hy => h y (List.mem_cons_of_mem _ hy)
    have : sumBy f (x :: l) = f x + sumBy f l := by simp [sumBy]
    rw [this, List.length_cons, Nat.succ_mul]; omega
theorem shB_bd {k : Int} {its : List It} {np : Nat} {ns cl lv : List ByteArray} {c e : Int} (h : shB k its np ns cl lv c e = true) : lnV k its.length np ≤ 40 ∧ np ≤ 40 := by
  unfold shB gA gB at h
  simp only [Bool.and_eq_true, Bool.or_eq_true, decide_eq_true_eq] at h
  have h1 := h.1.2.1
  have h2 := h.2.1.2.2
  refine ⟨h1, ?_⟩
  rcases h2 with h2 | h2
  · unfold lnV at h1; rw [if_neg (by omega)] at h1; omega
  · omega
theorem ceN_le : ∀ n v, vcB n v = true → ceN n v ≤ ceB n := by
  intro n
  induction n with
  | zero =>
    rintro ⟨k, its, ps, ns, cl, lv, c, e⟩ h
    rw [vcB_mk, Bool.and_eq_true] at h
    have hb := shB_bd h.1
    have := lnV_nn k its.length ps.length
    rw [ceN_mk']
    have h2 := sumBy_bd (kidC 0) 0 ps fun x _ => Nat.le_refl 0
    show _ ≤ 40
    omega
  | succ n ih =>
    rintro ⟨k, its, ps, ns, cl, lv, c, e⟩ h
    rw [vcB_mk, Bool.and_eq_true] at h
    have hb := shB_bd h.1
    have := lnV_nn k its.length ps.length
    rw [ceN_mk']
    have h2 := sumBy_bd (kidC (n + 1)) (ceB n) ps fun x hx => ih x (by
      obtain ⟨j, hj, rfl⟩ := List.getElem_of_mem hx
      have := allB_iff.1 h.2 j hj
      have e : kidB (n + 1) ps j = vcB n (ps.getD j default) := rfl
      rw [e, List.getD_eq_getElem?_getD, List.getElem?_eq_getElem hj] at this
      exact this)
    show _ ≤ 40 + 40 * ceB n
    have h3 : ps.length * ceB n ≤ 40 * ceB n := Nat.mul_le_mul_right _ hb.2
    omega
theorem ceN_bd (n : Nat) (hn : n ≤ 3) (v : Vec) (h : vcB n v = true) : ceN n v ≤ 3000000 := by
  have h1 := ceN_le n v h
  have h2 : ceB n ≤ 3000000 := by
    rcases n with _ | _ | _ | _ | n
    · decide
    · decide
    · decide
    · decide
    · omega
  omega
def isVc (v : Vec) : Bool := vcB 3 v && decide ((ceN 3 v : Int) ≤ 200)
def dpB : Nat → Vec → Bool
  | 0, .mk k its ps ns cl lv c e => allB (fun _ => false) ps.length
  | n + 1, .mk k its ps ns cl lv c e => allB (fun j => dpB n (ps.getD j default)) ps.length
def neN : Nat → Vec → Nat
  | 0, _ => 1
  | n + 1, .mk k its ps ns cl lv c e => (ps.map fun p => neN n p + 1).foldl max 0
theorem vcB_dpB : ∀ n v, vcB n v = true → dpB n v = true := by
  intro n
  induction n with
  | zero =>
    rintro ⟨k, its, ps, ns, cl, lv, c, e⟩ h
    rw [vcB, Bool.and_eq_true] at h
    rw [dpB]; exact h.2
  | succ n ih =>
    rintro ⟨k, its, ps, ns, cl, lv, c, e⟩ h
    rw [vcB, Bool.and_eq_true] at h
    rw [dpB]
    exact allB_iff.2 fun i hi => ih _ (allB_iff.1 h.2 i hi)
theorem foldl_max_le (m : Nat) : ∀ (l : List Nat) (a : Nat), l.foldl max a ≤ m ↔ a ≤ m ∧ ∀ x ∈ l, x ≤ m
  | [], a => by simp
  | x :: l, a => by
    rw [List.foldl_cons, foldl_max_le m l]
    simp only [List.mem_cons, forall_eq_or_imp, Nat.max_le, and_assoc]
theorem neN_dp : ∀ n v, neN (n + 1) v ≤ n ↔ dpB n v = true := by
  intro n
  induction n with
  | zero =>
    rintro ⟨k, its, ps, ns, cl, lv, c, e⟩
    rw [neN, dpB, foldl_max_le]
    cases ps with
    | nil => simp [allB]
    | cons p l =>
      constructor
      · intro h; have := h.2 (neN 0 p + 1) (by simp); omega
      · intro h; have := allB_iff.1 h 0 (by simp); exact absurd this (by decide)
  | succ n ih =>
    rintro ⟨k, its, ps, ns, cl, lv, c, e⟩
    rw [neN, dpB, foldl_max_le]
    constructor
    · intro h
      exact allB_iff.2 fun i hi => (ih _).1 (by have := h.2 (neN (n + 1) (ps.getD i default) + 1) (List.mem_map.2 ⟨_, getD_mem hi, rfl⟩); omega)
    · intro h
      refine ⟨by omega, fun x hx => ?_⟩
      obtain ⟨p, hp, rfl⟩ := List.mem_map.1 hx
      obtain ⟨j, hj, rfl⟩ := List.getElem_of_mem hp
      have h1 := allB_iff.1 h j hj
      have e : ps.getD j default = ps[j] := by rw [List.getD_eq_getElem?_getD, List.getElem?_eq_getElem hj]; rfl
      rw [e] at h1
      have := (ih _).2 h1
      omega
theorem neN_bd : ∀ n v, neN n v ≤ n + 1 := by
  intro n
  induction n with
  | zero => intro v; unfold neN; omega
  | succ n ih =>
    rintro ⟨k, its, ps, ns, cl, lv, c, e⟩
    rw [neN, foldl_max_le]
    refine ⟨by omega, fun x hx => ?_⟩
    obtain ⟨p, hp, rfl⟩ := List.mem_map.1 hx
    have := ih p
    omega
end Go.Proofs.Ytkcljmgjbjdccaa

namespace Go.Proofs.Ytkcljmgjbjdccaa
open Go.RowKit
set_option maxRecDepth 100000
theorem sLen_m (k : Int) (its : List It) (ps : List Vec) (ns cl lv : List ByteArray) (c e : Int) (hb : BdV its ps ns cl lv) : Meets Try.prog 63 [(true, encV (.mk k its ps ns cl lv c e))] [(false, [.sc (.int .i64 (lnV k its.length ps.length))], true)] := by
  obtain ⟨b1, b2, -, -, -, -⟩ := hb
  simp only [encV, encV_mk, encSs]
  refine meets_upf Try.func63 u_spec_l4Len_g rfl ?_; simp only [u_spec_l4Len_u]
  unfold lnV
  repeat' (first | (with_reducible refine jn_in ?_) | (with_reducible refine cl_ok (by assumption) rfl ?_) | (with_reducible refine cl_okP (by assumption) rfl ?_) | (with_reducible refine br_if (fun hbr => ?_) (fun hbr => ?_)) | (with_reducible refine br_ifn (fun hbr => ?_) (fun hbr => ?_)) | (with_reducible refine br_nb (fun hbr => ?_) (fun hbr => ?_)) | (with_reducible refine br_b (fun hbr => ?_) (fun hbr => ?_)) | simp (disch := first | omega | (simp only [List.length_take, List.length_drop, List.length_append, List.map_cons, List.map_nil, List.length_map, List.length_cons, List.length_nil, List.length_set, List.length_replicate]; omega) | (simp only [List.length_cons, List.length_nil, Nat.zero_add, Nat.reduceAdd])) only [go_sem, ↓reduceIte, Nat.reduceAdd, Int.reduceNeg, Int.reduceAdd, Int.reduceSub, Int.reduceMul, Int.reduceLT, Int.reduceLE, Int.reduceEq, Int.reduceToNat, Nat.reduceBEq, e_sle, e_sge, e_shl1, e_orI, e_andI, e_shr, wrapu, wrap8, tn1, nat1, ix_s, ix_z, st_s, st_z, fl_s, fl_z, fl1_s, fl1_z, map_s, map_z, true_and])
  · rw [if_pos ‹_›]; rfl
  · rw [if_neg ‹_›]; rfl
theorem dec0 (n : Nat) : decide (0 < (n : Int)) = !decide (n = 0) := by rw [Bool.eq_iff_iff]; simp; omega
def SIs (n : Nat) : Prop := ∀ v, wtV v ≤ 1048576 → Meets Try.prog 47 [(true, encV v), (false, [.sc (.int .i64 n)])] [(false, [.sc (.bool (vcB n v))], true)]
set_option maxHeartbeats 4000000 in
theorem sIs_step (n : Nat) (hn : n ≤ 1000) (ih : ∀ m, n = m + 1 → SIs m) : SIs n := by
  rintro ⟨k, its, ps, ns, cl, lv, c, e⟩ hw
  have hb := bdV hw
  have h1 := sLen_m k its ps ns cl lv c e hb
  obtain ⟨b1, b2, b3, b4, b5, b6⟩ := hb
  have h2 := sNam_m 9 ns b3
  have h3 := sLab_m 9 cl 3 b4
  have h4 := sLab_m 9 lv 20 b5
  have h5 := mIn k 0 5
  have h6 := mIn c (-999) 99999
  have h7 := mIn e 0 99999
  have h8 := fun i => sItem_m k (its.getD i default)
  have h9 := fun i => mIn (its.getD i default).num 1 lv.length
  simp only [encIt] at h8
  rw [vcB_mk]
  have hlen := lnV_bd (k := k) b1 b2
  unfold shB
  generalize hln : lnV k its.length ps.length = ln at *
  simp only [encV, encV_mk, encSs] at h1 ⊢
  refine meets_upf Try.func47 u_spec_l4Is_g rfl ?_; simp only [u_spec_l4Is_u]
  simp (disch := first | omega | (simp only [List.length_take, List.length_drop, List.length_append, List.map_cons, List.map_nil, List.length_map, List.length_cons, List.length_nil, List.length_set, List.length_replicate]; omega) | (simp only [List.length_cons, List.length_nil, Nat.zero_add, Nat.reduceAdd])) only [go_sem, ↓reduceIte, Nat.reduceAdd, Int.reduceNeg, Int.reduceAdd, Int.reduceSub, Int.reduceMul, Int.reduceLT, Int.reduceLE, Int.reduceEq, Int.reduceToNat, Nat.reduceBEq, e_sle, e_sge, e_shl1, e_orI, e_andI, e_shr, wrapu, wrap8, tn1, nat1, ix_s, ix_z, st_s, st_z, fl_s, fl_z, fl1_s, fl1_z, map_s, map_z, true_and]
  refine cl_ok h1 rfl ?_
  simp (disch := first | omega | (simp only [List.length_take, List.length_drop, List.length_append, List.map_cons, List.map_nil, List.length_map, List.length_cons, List.length_nil, List.length_set, List.length_replicate]; omega) | (simp only [List.length_cons, List.length_nil, Nat.zero_add, Nat.reduceAdd])) only [go_sem, ↓reduceIte, Nat.reduceAdd, Int.reduceNeg, Int.reduceAdd, Int.reduceSub, Int.reduceMul, Int.reduceLT, Int.reduceLE, Int.reduceEq, Int.reduceToNat, Nat.reduceBEq, e_sle, e_sge, e_shl1, e_orI, e_andI, e_shr, wrapu, wrap8, tn1, nat1, ix_s, ix_z, st_s, st_z, fl_s, fl_z, fl1_s, fl1_z, map_s, map_z, true_and]
  refine jn_eq [.sc (.bool (!gA k ln ns cl lv))] ?_ ?_
  · unfold gA
    repeat' (first | (with_reducible refine jn_in ?_) | (with_reducible refine cl_ok (by assumption) rfl ?_) | (with_reducible refine cl_okP (by assumption) rfl ?_) | (with_reducible refine br_if (fun hbr => ?_) (fun hbr => ?_)) | (with_reducible refine br_ifn (fun hbr => ?_) (fun hbr => ?_)) | (with_reducible refine br_nb (fun hbr => ?_) (fun hbr => ?_)) | (with_reducible refine br_b (fun hbr => ?_) (fun hbr => ?_)) | simp (disch := first | omega | (simp only [List.length_take, List.length_drop, List.length_append, List.map_cons, List.map_nil, List.length_map, List.length_cons, List.length_nil, List.length_set, List.length_replicate]; omega) | (simp only [List.length_cons, List.length_nil, Nat.zero_add, Nat.reduceAdd])) only [go_sem, ↓reduceIte, Nat.reduceAdd, Int.reduceNeg, Int.reduceAdd, Int.reduceSub, Int.reduceMul, Int.reduceLT, Int.reduceLE, Int.reduceEq, Int.reduceToNat, Nat.reduceBEq, e_sle, e_sge, e_shl1, e_orI, e_andI, e_shr, wrapu, wrap8, tn1, nat1, ix_s, ix_z, st_s, st_z, fl_s, fl_z, fl1_s, fl1_z, map_s, map_z, true_and])
    all_goals first
      | (refine bb ?_; simp [*]; done)
      | (refine bb ?_; simp_all; done)
      | (refine bb ?_; have hz : lv.length = 0 := by omega
         rw [dec0, hz]; simp [*]; done)
      | (refine bb ?_; grind)
      | skip
  simp only [u_spec_l4Is_j5]
  cases hA : gA k ln ns cl lv
  · repeat' (first | (with_reducible refine jn_in ?_) | (with_reducible refine cl_ok (by assumption) rfl ?_) | (with_reducible refine cl_okP (by assumption) rfl ?_) | (with_reducible refine br_if (fun hbr => ?_) (fun hbr => ?_)) | (with_reducible refine br_ifn (fun hbr => ?_) (fun hbr => ?_)) | (with_reducible refine br_nb (fun hbr => ?_) (fun hbr => ?_)) | (with_reducible refine br_b (fun hbr => ?_) (fun hbr => ?_)) | simp (disch := first | omega | (simp only [List.length_take, List.length_drop, List.length_append, List.map_cons, List.map_nil, List.length_map, List.length_cons, List.length_nil, List.length_set, List.length_replicate]; omega) | (simp only [List.length_cons, List.length_nil, Nat.zero_add, Nat.reduceAdd])) only [go_sem, ↓reduceIte, Nat.reduceAdd, Int.reduceNeg, Int.reduceAdd, Int.reduceSub, Int.reduceMul, Int.reduceLT, Int.reduceLE, Int.reduceEq, Int.reduceToNat, Nat.reduceBEq, e_sle, e_sge, e_shl1, e_orI, e_andI, e_shr, wrapu, wrap8, tn1, nat1, ix_s, ix_z, st_s, st_z, fl_s, fl_z, fl1_s, fl1_z, map_s, map_z, true_and])
    all_goals exact ret_b rfl
  rw [Bool.true_and]
  simp (disch := first | omega | (simp only [List.length_take, List.length_drop, List.length_append, List.map_cons, List.map_nil, List.length_map, List.length_cons, List.length_nil, List.length_set, List.length_replicate]; omega) | (simp only [List.length_cons, List.length_nil, Nat.zero_add, Nat.reduceAdd])) only [go_sem, ↓reduceIte, Nat.reduceAdd, Int.reduceNeg, Int.reduceAdd, Int.reduceSub, Int.reduceMul, Int.reduceLT, Int.reduceLE, Int.reduceEq, Int.reduceToNat, Nat.reduceBEq, e_sle, e_sge, e_shl1, e_orI, e_andI, e_shr, wrapu, wrap8, tn1, nat1, ix_s, ix_z, st_s, st_z, fl_s, fl_z, fl1_s, fl1_z, map_s, map_z, true_and]
  refine jn_eq [.sc (.bool (!gB k c e ps.length lv.length))] ?_ ?_
  · unfold gB
    repeat' (first | (with_reducible refine jn_in ?_) | (with_reducible refine cl_ok (by assumption) rfl ?_) | (with_reducible refine cl_okP (by assumption) rfl ?_) | (with_reducible refine br_if (fun hbr => ?_) (fun hbr => ?_)) | (with_reducible refine br_ifn (fun hbr => ?_) (fun hbr => ?_)) | (with_reducible refine br_nb (fun hbr => ?_) (fun hbr => ?_)) | (with_reducible refine br_b (fun hbr => ?_) (fun hbr => ?_)) | simp (disch := first | omega | (simp only [List.length_take, List.length_drop, List.length_append, List.map_cons, List.map_nil, List.length_map, List.length_cons, List.length_nil, List.length_set, List.length_replicate]; omega) | (simp only [List.length_cons, List.length_nil, Nat.zero_add, Nat.reduceAdd])) only [go_sem, ↓reduceIte, Nat.reduceAdd, Int.reduceNeg, Int.reduceAdd, Int.reduceSub, Int.reduceMul, Int.reduceLT, Int.reduceLE, Int.reduceEq, Int.reduceToNat, Nat.reduceBEq, e_sle, e_sge, e_shl1, e_orI, e_andI, e_shr, wrapu, wrap8, tn1, nat1, ix_s, ix_z, st_s, st_z, fl_s, fl_z, fl1_s, fl1_z, map_s, map_z, true_and])
    all_goals first
      | (refine bb ?_; simp [*]; done)
      | (refine bb ?_; simp_all; done)
      | (refine bb ?_; have hz : lv.length = 0 := by omega
         rw [dec0, hz]; simp [*]; done)
      | (refine bb ?_; grind)
      | skip
  simp only [u_spec_l4Is_j4]
  cases hB : gB k c e ps.length lv.length
  · repeat' (first | (with_reducible refine jn_in ?_) | (with_reducible refine cl_ok (by assumption) rfl ?_) | (with_reducible refine cl_okP (by assumption) rfl ?_) | (with_reducible refine br_if (fun hbr => ?_) (fun hbr => ?_)) | (with_reducible refine br_ifn (fun hbr => ?_) (fun hbr => ?_)) | (with_reducible refine br_nb (fun hbr => ?_) (fun hbr => ?_)) | (with_reducible refine br_b (fun hbr => ?_) (fun hbr => ?_)) | simp (disch := first | omega | (simp only [List.length_take, List.length_drop, List.length_append, List.map_cons, List.map_nil, List.length_map, List.length_cons, List.length_nil, List.length_set, List.length_replicate]; omega) | (simp only [List.length_cons, List.length_nil, Nat.zero_add, Nat.reduceAdd])) only [go_sem, ↓reduceIte, Nat.reduceAdd, Int.reduceNeg, Int.reduceAdd, Int.reduceSub, Int.reduceMul, Int.reduceLT, Int.reduceLE, Int.reduceEq, Int.reduceToNat, Nat.reduceBEq, e_sle, e_sge, e_shl1, e_orI, e_andI, e_shr, wrapu, wrap8, tn1, nat1, ix_s, ix_z, st_s, st_z, fl_s, fl_z, fl1_s, fl1_z, map_s, map_z, true_and])
    all_goals exact ret_b rfl
  rw [Bool.true_and]
  have hp0 : k ≠ 4 → ps.length = 0 := by
    intro h4
    unfold gB at hB
    simp only [Bool.and_eq_true, Bool.or_eq_true, decide_eq_true_eq] at hB
    exact hB.2.2.resolve_left h4
  have hp1 : k ≠ 4 → allB (kidB n ps) ps.length = true := fun h => by rw [hp0 h]; rfl
  simp (disch := first | omega | (simp only [List.length_take, List.length_drop, List.length_append, List.map_cons, List.map_nil, List.length_map, List.length_cons, List.length_nil, List.length_set, List.length_replicate]; omega) | (simp only [List.length_cons, List.length_nil, Nat.zero_add, Nat.reduceAdd])) only [go_sem, ↓reduceIte, Nat.reduceAdd, Int.reduceNeg, Int.reduceAdd, Int.reduceSub, Int.reduceMul, Int.reduceLT, Int.reduceLE, Int.reduceEq, Int.reduceToNat, Nat.reduceBEq, e_sle, e_sge, e_shl1, e_orI, e_andI, e_shr, wrapu, wrap8, tn1, nat1, ix_s, ix_z, st_s, st_z, fl_s, fl_z, fl1_s, fl1_z, map_s, map_z, true_and]
  refine br_if (fun hk5 => ?_) (fun hk5 => ?_)
  · rw [hp1 (by omega), Bool.and_true]
    unfold gC
    rw [if_pos hk5]
    repeat' (first | (with_reducible refine jn_in ?_) | (with_reducible refine cl_ok (by assumption) rfl ?_) | (with_reducible refine cl_okP (by assumption) rfl ?_) | (with_reducible refine br_if (fun hbr => ?_) (fun hbr => ?_)) | (with_reducible refine br_ifn (fun hbr => ?_) (fun hbr => ?_)) | (with_reducible refine br_nb (fun hbr => ?_) (fun hbr => ?_)) | (with_reducible refine br_b (fun hbr => ?_) (fun hbr => ?_)) | simp (disch := first | omega | (simp only [List.length_take, List.length_drop, List.length_append, List.map_cons, List.map_nil, List.length_map, List.length_cons, List.length_nil, List.length_set, List.length_replicate]; omega) | (simp only [List.length_cons, List.length_nil, Nat.zero_add, Nat.reduceAdd])) only [go_sem, ↓reduceIte, Nat.reduceAdd, Int.reduceNeg, Int.reduceAdd, Int.reduceSub, Int.reduceMul, Int.reduceLT, Int.reduceLE, Int.reduceEq, Int.reduceToNat, Nat.reduceBEq, e_sle, e_sge, e_shl1, e_orI, e_andI, e_shr, wrapu, wrap8, tn1, nat1, ix_s, ix_z, st_s, st_z, fl_s, fl_z, fl1_s, fl1_z, map_s, map_z, true_and])
    all_goals first
      | (refine ret_b ?_; simp [*]; done)
      | (refine ret_b ?_; simp_all; done)
      | (refine ret_b ?_; grind)
      | skip
  simp (disch := first | omega | (simp only [List.length_take, List.length_drop, List.length_append, List.map_cons, List.map_nil, List.length_map, List.length_cons, List.length_nil, List.length_set, List.length_replicate]; omega) | (simp only [List.length_cons, List.length_nil, Nat.zero_add, Nat.reduceAdd])) only [go_sem, ↓reduceIte, Nat.reduceAdd, Int.reduceNeg, Int.reduceAdd, Int.reduceSub, Int.reduceMul, Int.reduceLT, Int.reduceLE, Int.reduceEq, Int.reduceToNat, Nat.reduceBEq, e_sle, e_sge, e_shl1, e_orI, e_andI, e_shr, wrapu, wrap8, tn1, nat1, ix_s, ix_z, st_s, st_z, fl_s, fl_z, fl1_s, fl1_z, map_s, map_z, true_and]
  refine br_if (fun hk0 => ?_) (fun hk0 => ?_)
  · rw [hp1 (by omega), Bool.and_true]
    unfold gC
    rw [if_neg hk5, if_pos hk0]
    repeat' (first | (with_reducible refine jn_in ?_) | (with_reducible refine cl_ok (by assumption) rfl ?_) | (with_reducible refine cl_okP (by assumption) rfl ?_) | (with_reducible refine br_if (fun hbr => ?_) (fun hbr => ?_)) | (with_reducible refine br_ifn (fun hbr => ?_) (fun hbr => ?_)) | (with_reducible refine br_nb (fun hbr => ?_) (fun hbr => ?_)) | (with_reducible refine br_b (fun hbr => ?_) (fun hbr => ?_)) | simp (disch := first | omega | (simp only [List.length_take, List.length_drop, List.length_append, List.map_cons, List.map_nil, List.length_map, List.length_cons, List.length_nil, List.length_set, List.length_replicate]; omega) | (simp only [List.length_cons, List.length_nil, Nat.zero_add, Nat.reduceAdd])) only [go_sem, ↓reduceIte, Nat.reduceAdd, Int.reduceNeg, Int.reduceAdd, Int.reduceSub, Int.reduceMul, Int.reduceLT, Int.reduceLE, Int.reduceEq, Int.reduceToNat, Nat.reduceBEq, e_sle, e_sge, e_shl1, e_orI, e_andI, e_shr, wrapu, wrap8, tn1, nat1, ix_s, ix_z, st_s, st_z, fl_s, fl_z, fl1_s, fl1_z, map_s, map_z, true_and])
    all_goals first
      | (refine ret_b ?_; simp [*]; done)
      | (refine ret_b ?_; simp_all; done)
      | (refine ret_b ?_; grind)
      | skip
  unfold gC
  rw [if_neg hk5, if_neg hk0]
  simp (disch := first | omega | (simp only [List.length_take, List.length_drop, List.length_append, List.map_cons, List.map_nil, List.length_map, List.length_cons, List.length_nil, List.length_set, List.length_replicate]; omega) | (simp only [List.length_cons, List.length_nil, Nat.zero_add, Nat.reduceAdd])) only [go_sem, ↓reduceIte, Nat.reduceAdd, Int.reduceNeg, Int.reduceAdd, Int.reduceSub, Int.reduceMul, Int.reduceLT, Int.reduceLE, Int.reduceEq, Int.reduceToNat, Nat.reduceBEq, e_sle, e_sge, e_shl1, e_orI, e_andI, e_shr, wrapu, wrap8, tn1, nat1, ix_s, ix_z, st_s, st_z, fl_s, fl_z, fl1_s, fl1_z, map_s, map_z, true_and]
  refine jn_eq [.sc (.bool (decide (k = 4) && decide (0 < its.length)))] ?_ ?_
  · repeat' (first | (with_reducible refine jn_in ?_) | (with_reducible refine cl_ok (by assumption) rfl ?_) | (with_reducible refine cl_okP (by assumption) rfl ?_) | (with_reducible refine br_if (fun hbr => ?_) (fun hbr => ?_)) | (with_reducible refine br_ifn (fun hbr => ?_) (fun hbr => ?_)) | (with_reducible refine br_nb (fun hbr => ?_) (fun hbr => ?_)) | (with_reducible refine br_b (fun hbr => ?_) (fun hbr => ?_)) | simp (disch := first | omega | (simp only [List.length_take, List.length_drop, List.length_append, List.map_cons, List.map_nil, List.length_map, List.length_cons, List.length_nil, List.length_set, List.length_replicate]; omega) | (simp only [List.length_cons, List.length_nil, Nat.zero_add, Nat.reduceAdd])) only [go_sem, ↓reduceIte, Nat.reduceAdd, Int.reduceNeg, Int.reduceAdd, Int.reduceSub, Int.reduceMul, Int.reduceLT, Int.reduceLE, Int.reduceEq, Int.reduceToNat, Nat.reduceBEq, e_sle, e_sge, e_shl1, e_orI, e_andI, e_shr, wrapu, wrap8, tn1, nat1, ix_s, ix_z, st_s, st_z, fl_s, fl_z, fl1_s, fl1_z, map_s, map_z, true_and])
    all_goals first
      | (refine bb ?_; simp [*]; done)
      | (refine bb ?_; simp_all; done)
      | (refine bb ?_; have hz : lv.length = 0 := by omega
         rw [dec0, hz]; simp [*]; done)
      | (refine bb ?_; grind)
      | skip
  simp only [u_spec_l4Is_j3]
  by_cases hk4 : k = 4 ∧ 0 < its.length
  · rw [if_pos hk4.1, decide_eq_true hk4.1, decide_eq_true hk4.2, decide_eq_false (show ¬ its.length = 0 by omega)]
    repeat' (first | (with_reducible refine jn_in ?_) | (with_reducible refine cl_ok (by assumption) rfl ?_) | (with_reducible refine cl_okP (by assumption) rfl ?_) | (with_reducible refine br_if (fun hbr => ?_) (fun hbr => ?_)) | (with_reducible refine br_ifn (fun hbr => ?_) (fun hbr => ?_)) | (with_reducible refine br_nb (fun hbr => ?_) (fun hbr => ?_)) | (with_reducible refine br_b (fun hbr => ?_) (fun hbr => ?_)) | simp (disch := first | omega | (simp only [List.length_take, List.length_drop, List.length_append, List.map_cons, List.map_nil, List.length_map, List.length_cons, List.length_nil, List.length_set, List.length_replicate]; omega) | (simp only [List.length_cons, List.length_nil, Nat.zero_add, Nat.reduceAdd])) only [go_sem, ↓reduceIte, Nat.reduceAdd, Int.reduceNeg, Int.reduceAdd, Int.reduceSub, Int.reduceMul, Int.reduceLT, Int.reduceLE, Int.reduceEq, Int.reduceToNat, Nat.reduceBEq, e_sle, e_sge, e_shl1, e_orI, e_andI, e_shr, wrapu, wrap8, tn1, nat1, ix_s, ix_z, st_s, st_z, fl_s, fl_z, fl1_s, fl1_z, map_s, map_z, true_and])
    all_goals exact ret_b rfl
  have e4 : (decide (k = 4) && decide (0 < its.length)) = false := by rw [← Bool.decide_and, decide_eq_false hk4]
  have e5 : (if k = 4 then decide (its.length = 0) else allB (fun j => itlB k lv.length (its.getD j default)) its.length) = allB (fun j => itlB k lv.length (its.getD j default)) its.length := by
    split
    · have : its.length = 0 := by omega
      rw [this]; rfl
    · rfl
  rw [e4, e5]
  simp (disch := first | omega | (simp only [List.length_take, List.length_drop, List.length_append, List.map_cons, List.map_nil, List.length_map, List.length_cons, List.length_nil, List.length_set, List.length_replicate]; omega) | (simp only [List.length_cons, List.length_nil, Nat.zero_add, Nat.reduceAdd])) only [go_sem, ↓reduceIte, Nat.reduceAdd, Int.reduceNeg, Int.reduceAdd, Int.reduceSub, Int.reduceMul, Int.reduceLT, Int.reduceLE, Int.reduceEq, Int.reduceToNat, Nat.reduceBEq, e_sle, e_sge, e_shl1, e_orI, e_andI, e_shr, wrapu, wrap8, tn1, nat1, ix_s, ix_z, st_s, st_z, fl_s, fl_z, fl1_s, fl1_z, map_s, map_z, true_and]
  refine lp (fun i : Nat => [.sc (.int .i64 i)]) (fun i => i ≤ its.length ∧ allB (fun j => itlB k lv.length (its.getD j default)) i = true) (fun i => its.length - i) 0 rfl ⟨Nat.zero_le _, rfl⟩ ?_
  rintro i ⟨hi, ha⟩
  simp only [u_spec_l4Is_l2]
  by_cases hlt : i < its.length
  · have h8i := h8 i
    have h9i := h9 i
    repeat' (first | (with_reducible refine jn_in ?_) | (with_reducible refine cl_ok (by assumption) rfl ?_) | (with_reducible refine cl_okP (by assumption) rfl ?_) | (with_reducible refine br_if (fun hbr => ?_) (fun hbr => ?_)) | (with_reducible refine br_ifn (fun hbr => ?_) (fun hbr => ?_)) | (with_reducible refine br_nb (fun hbr => ?_) (fun hbr => ?_)) | (with_reducible refine br_b (fun hbr => ?_) (fun hbr => ?_)) | simp (disch := first | omega | (simp only [List.length_take, List.length_drop, List.length_append, List.map_cons, List.map_nil, List.length_map, List.length_cons, List.length_nil, List.length_set, List.length_replicate]; omega) | (simp only [List.length_cons, List.length_nil, Nat.zero_add, Nat.reduceAdd])) only [go_sem, ↓reduceIte, Nat.reduceAdd, Int.reduceNeg, Int.reduceAdd, Int.reduceSub, Int.reduceMul, Int.reduceLT, Int.reduceLE, Int.reduceEq, Int.reduceToNat, Nat.reduceBEq, e_sle, e_sge, e_shl1, e_orI, e_andI, e_shr, wrapu, wrap8, tn1, nat1, ix_s, ix_z, st_s, st_z, fl_s, fl_z, fl1_s, fl1_z, map_s, map_z, u_spec_l4Is_j0, ix_it, encIt])
    all_goals first
      | omega
      | exact ret_b (by rw [allB_no (p := fun j => itlB k lv.length (its.getD j default)) hlt (by (first | (simp [-List.getD_eq_getElem?_getD, itlB, *]; done) | (simp_all [-List.getD_eq_getElem?_getD, itlB]; done) | (simp [-List.getD_eq_getElem?_getD, itlB, *]; omega) | (simp_all [-List.getD_eq_getElem?_getD, itlB]; omega) | omega)), Bool.false_and])
      | exact ret_b (by rw [allB_no (p := fun j => itlB k lv.length (its.getD j default)) hlt (by grind [itlB]), Bool.false_and])
      | exact ⟨i + 1, rfl, ⟨by omega, allB_step ha (by (first | (simp [-List.getD_eq_getElem?_getD, itlB, *]; done) | (simp_all [-List.getD_eq_getElem?_getD, itlB]; done) | (simp [-List.getD_eq_getElem?_getD, itlB, *]; omega) | (simp_all [-List.getD_eq_getElem?_getD, itlB]; omega) | omega))⟩, by omega⟩
      | skip
  obtain rfl : i = its.length := by omega
  rw [ha, Bool.true_and]
  simp (disch := first | omega | (simp only [List.length_take, List.length_drop, List.length_append, List.map_cons, List.map_nil, List.length_map, List.length_cons, List.length_nil, List.length_set, List.length_replicate]; omega) | (simp only [List.length_cons, List.length_nil, Nat.zero_add, Nat.reduceAdd])) only [go_sem, ↓reduceIte, Nat.reduceAdd, Int.reduceNeg, Int.reduceAdd, Int.reduceSub, Int.reduceMul, Int.reduceLT, Int.reduceLE, Int.reduceEq, Int.reduceToNat, Nat.reduceBEq, e_sle, e_sge, e_shl1, e_orI, e_andI, e_shr, wrapu, wrap8, tn1, nat1, ix_s, ix_z, st_s, st_z, fl_s, fl_z, fl1_s, fl1_z, map_s, map_z, true_and]
  refine br_if (fun hx => absurd hx (by omega)) (fun _ => ?_)
  simp (disch := first | omega | (simp only [List.length_take, List.length_drop, List.length_append, List.map_cons, List.map_nil, List.length_map, List.length_cons, List.length_nil, List.length_set, List.length_replicate]; omega) | (simp only [List.length_cons, List.length_nil, Nat.zero_add, Nat.reduceAdd])) only [go_sem, ↓reduceIte, Nat.reduceAdd, Int.reduceNeg, Int.reduceAdd, Int.reduceSub, Int.reduceMul, Int.reduceLT, Int.reduceLE, Int.reduceEq, Int.reduceToNat, Nat.reduceBEq, e_sle, e_sge, e_shl1, e_orI, e_andI, e_shr, wrapu, wrap8, tn1, nat1, ix_s, ix_z, st_s, st_z, fl_s, fl_z, fl1_s, fl1_z, map_s, map_z, true_and]
  refine lp (fun i : Nat => [.sc (.int .i64 i)]) (fun i => i ≤ ps.length ∧ allB (kidB n ps) i = true) (fun i => ps.length - i) 0 rfl ⟨Nat.zero_le _, rfl⟩ ?_
  rintro i ⟨hi2, ha2⟩
  simp only [u_spec_l4Is_l1]
  by_cases hlt2 : i < ps.length
  · rcases n with _ | m
    · repeat' (first | (with_reducible refine jn_in ?_) | (with_reducible refine cl_ok (by assumption) rfl ?_) | (with_reducible refine cl_okP (by assumption) rfl ?_) | (with_reducible refine br_if (fun hbr => ?_) (fun hbr => ?_)) | (with_reducible refine br_ifn (fun hbr => ?_) (fun hbr => ?_)) | (with_reducible refine br_nb (fun hbr => ?_) (fun hbr => ?_)) | (with_reducible refine br_b (fun hbr => ?_) (fun hbr => ?_)) | simp (disch := first | omega | (simp only [List.length_take, List.length_drop, List.length_append, List.map_cons, List.map_nil, List.length_map, List.length_cons, List.length_nil, List.length_set, List.length_replicate]; omega) | (simp only [List.length_cons, List.length_nil, Nat.zero_add, Nat.reduceAdd])) only [go_sem, ↓reduceIte, Nat.reduceAdd, Int.reduceNeg, Int.reduceAdd, Int.reduceSub, Int.reduceMul, Int.reduceLT, Int.reduceLE, Int.reduceEq, Int.reduceToNat, Nat.reduceBEq, e_sle, e_sge, e_shl1, e_orI, e_andI, e_shr, wrapu, wrap8, tn1, nat1, ix_s, ix_z, st_s, st_z, fl_s, fl_z, fl1_s, fl1_z, map_s, map_z, true_and])
      all_goals first
        | omega
        | exact ret_b (by rw [allB_no (p := kidB 0 ps) hlt2 rfl])
        | skip
    · have hm := getD_mem hlt2
      have hc := ih m rfl _ (b6 _ hm)
      have hk : kidB (m + 1) ps i = vcB m (ps.getD i default) := rfl
      have hix : eIdx 8 (some (.sl 34 8 (ps.map encV))) (some (.sc (.int .i64 (i : Int)))) = some (encV (ps.getD i default)) := by rw [ix_V (by omega) (by omega), Int.toNat_natCast]
      have hs : ((m + 1 : Nat) : Int) - 1 = (m : Int) := by omega
      generalize ps.getD i default = x at hc hix hk
      generalize vcB m x = b at hc hk
      obtain ⟨x0, x1, x2, x3, x4, x5, x6, x7⟩ := x
      simp only [encV, encV_mk, encSs] at hc hix
      cases b
      · repeat' (first | (with_reducible refine jn_in ?_) | (with_reducible refine cl_ok (by assumption) rfl ?_) | (with_reducible refine cl_okP (by assumption) rfl ?_) | (with_reducible refine br_if (fun hbr => ?_) (fun hbr => ?_)) | (with_reducible refine br_ifn (fun hbr => ?_) (fun hbr => ?_)) | (with_reducible refine br_nb (fun hbr => ?_) (fun hbr => ?_)) | (with_reducible refine br_b (fun hbr => ?_) (fun hbr => ?_)) | simp (disch := first | omega | (simp only [List.length_take, List.length_drop, List.length_append, List.map_cons, List.map_nil, List.length_map, List.length_cons, List.length_nil, List.length_set, List.length_replicate]; omega) | (simp only [List.length_cons, List.length_nil, Nat.zero_add, Nat.reduceAdd])) only [go_sem, ↓reduceIte, Nat.reduceAdd, Int.reduceNeg, Int.reduceAdd, Int.reduceSub, Int.reduceMul, Int.reduceLT, Int.reduceLE, Int.reduceEq, Int.reduceToNat, Nat.reduceBEq, e_sle, e_sge, e_shl1, e_orI, e_andI, e_shr, wrapu, wrap8, tn1, nat1, ix_s, ix_z, st_s, st_z, fl_s, fl_z, fl1_s, fl1_z, map_s, map_z, hix, hs])
        all_goals first
          | omega
          | exact ret_b (by rw [allB_no (p := kidB (m + 1) ps) hlt2 hk])
          | skip
      · repeat' (first | (with_reducible refine jn_in ?_) | (with_reducible refine cl_ok (by assumption) rfl ?_) | (with_reducible refine cl_okP (by assumption) rfl ?_) | (with_reducible refine br_if (fun hbr => ?_) (fun hbr => ?_)) | (with_reducible refine br_ifn (fun hbr => ?_) (fun hbr => ?_)) | (with_reducible refine br_nb (fun hbr => ?_) (fun hbr => ?_)) | (with_reducible refine br_b (fun hbr => ?_) (fun hbr => ?_)) | simp (disch := first | omega | (simp only [List.length_take, List.length_drop, List.length_append, List.map_cons, List.map_nil, List.length_map, List.length_cons, List.length_nil, List.length_set, List.length_replicate]; omega) | (simp only [List.length_cons, List.length_nil, Nat.zero_add, Nat.reduceAdd])) only [go_sem, ↓reduceIte, Nat.reduceAdd, Int.reduceNeg, Int.reduceAdd, Int.reduceSub, Int.reduceMul, Int.reduceLT, Int.reduceLE, Int.reduceEq, Int.reduceToNat, Nat.reduceBEq, e_sle, e_sge, e_shl1, e_orI, e_andI, e_shr, wrapu, wrap8, tn1, nat1, ix_s, ix_z, st_s, st_z, fl_s, fl_z, fl1_s, fl1_z, map_s, map_z, hix, hs])
        all_goals first
          | omega
          | exact ⟨i + 1, rfl, ⟨by omega, allB_step ha2 hk⟩, by omega⟩
          | skip
  · obtain rfl : i = ps.length := by omega
    repeat' (first | (with_reducible refine jn_in ?_) | (with_reducible refine cl_ok (by assumption) rfl ?_) | (with_reducible refine cl_okP (by assumption) rfl ?_) | (with_reducible refine br_if (fun hbr => ?_) (fun hbr => ?_)) | (with_reducible refine br_ifn (fun hbr => ?_) (fun hbr => ?_)) | (with_reducible refine br_nb (fun hbr => ?_) (fun hbr => ?_)) | (with_reducible refine br_b (fun hbr => ?_) (fun hbr => ?_)) | simp (disch := first | omega | (simp only [List.length_take, List.length_drop, List.length_append, List.map_cons, List.map_nil, List.length_map, List.length_cons, List.length_nil, List.length_set, List.length_replicate]; omega) | (simp only [List.length_cons, List.length_nil, Nat.zero_add, Nat.reduceAdd])) only [go_sem, ↓reduceIte, Nat.reduceAdd, Int.reduceNeg, Int.reduceAdd, Int.reduceSub, Int.reduceMul, Int.reduceLT, Int.reduceLE, Int.reduceEq, Int.reduceToNat, Nat.reduceBEq, e_sle, e_sge, e_shl1, e_orI, e_andI, e_shr, wrapu, wrap8, tn1, nat1, ix_s, ix_z, st_s, st_z, fl_s, fl_z, fl1_s, fl1_z, map_s, map_z, true_and])
    all_goals first | omega | exact ret_b ha2 | skip
theorem sIs_m : ∀ n, n ≤ 1000 → SIs n
  | 0, h => sIs_step 0 h fun m e => by omega
  | n + 1, h => sIs_step (n + 1) h fun m e => by obtain rfl : n = m := by omega
                                                 exact sIs_m n (by omega)
def SCel (n : Nat) : Prop := ∀ v, wtV v ≤ 1048576 → vcB n v = true → Meets Try.prog 48 [(true, encV v)] [(false, [.sc (.int .i64 (ceN n v))], true)]
theorem sCel_step (n : Nat) (hn : n ≤ 3) (ih : ∀ m, n = m + 1 → SCel m) : SCel n := by
  rintro ⟨k, its, ps, ns, cl, lv, c, e⟩ hw hv
  have hb := bdV hw
  have hbd : ((ceN n (.mk k its ps ns cl lv c e) : Nat) : Int) ≤ 3000000 := by have := ceN_bd n hn _ hv; omega
  have h1 := sLen_m k its ps ns cl lv c e hb
  obtain ⟨b1, b2, b3, b4, b5, b6⟩ := hb
  have hlen := lnV_bd (k := k) b1 b2
  rw [ceN_mk] at hbd ⊢
  rw [vcB_mk] at hv
  have hkid := (Bool.and_eq_true _ _ ▸ hv).2
  generalize hln : lnV k its.length ps.length = ln at *
  simp only [encV, encV_mk, encSs] at h1 ⊢
  refine meets_upf Try.func48 u_spec_l4Cells_g rfl ?_; simp only [u_spec_l4Cells_u]
  simp (disch := first | omega | (simp only [List.length_take, List.length_drop, List.length_append, List.map_cons, List.map_nil, List.length_map, List.length_cons, List.length_nil, List.length_set, List.length_replicate]; omega) | (simp only [List.length_cons, List.length_nil, Nat.zero_add, Nat.reduceAdd])) only [go_sem, ↓reduceIte, Nat.reduceAdd, Int.reduceNeg, Int.reduceAdd, Int.reduceSub, Int.reduceMul, Int.reduceLT, Int.reduceLE, Int.reduceEq, Int.reduceToNat, Nat.reduceBEq, e_sle, e_sge, e_shl1, e_orI, e_andI, e_shr, wrapu, wrap8, tn1, nat1, ix_s, ix_z, st_s, st_z, fl_s, fl_z, fl1_s, fl1_z, map_s, map_z, true_and]
  refine cl_ok h1 rfl ?_
  simp (disch := first | omega | (simp only [List.length_take, List.length_drop, List.length_append, List.map_cons, List.map_nil, List.length_map, List.length_cons, List.length_nil, List.length_set, List.length_replicate]; omega) | (simp only [List.length_cons, List.length_nil, Nat.zero_add, Nat.reduceAdd])) only [go_sem, ↓reduceIte, Nat.reduceAdd, Int.reduceNeg, Int.reduceAdd, Int.reduceSub, Int.reduceMul, Int.reduceLT, Int.reduceLE, Int.reduceEq, Int.reduceToNat, Nat.reduceBEq, e_sle, e_sge, e_shl1, e_orI, e_andI, e_shr, wrapu, wrap8, tn1, nat1, ix_s, ix_z, st_s, st_z, fl_s, fl_z, fl1_s, fl1_z, map_s, map_z, true_and]
  refine lp (fun i : Nat => [.sc (.int .i64 i), .sc (.int .i64 (ln + (sumBy (kidC n) (ps.take i) : Nat)))]) (fun i => i ≤ ps.length) (fun i => ps.length - i) 0 (by simp [gL, sumBy]) (Nat.zero_le _) ?_
  intro i hi
  simp only [u_spec_l4Cells_l0]
  have hs1 := sumBy_le (kidC n) ps i
  by_cases hlt : i < ps.length
  · have hs2 := sumBy_le (kidC n) ps (i + 1)
    have hm := getD_mem hlt
    rcases n with _ | m
    · exact absurd (allB_iff.1 hkid i hlt) (by show ¬ false = true; decide)
    · have hk : vcB m (ps.getD i default) = true := allB_iff.1 hkid i hlt
      have hc := ih m rfl _ (b6 _ hm) hk
      have hq : kidC (m + 1) (ps.getD i default) = ceN m (ps.getD i default) := rfl
      have hs3 := sumBy_succ (kidC (m + 1)) hlt
      have hix : eIdx 8 (some (.sl 34 8 (ps.map encV))) (some (.sc (.int .i64 (i : Int)))) = some (encV (ps.getD i default)) := by rw [ix_V (by omega) (by omega), Int.toNat_natCast]
      generalize ps.getD i default = x at hc hix hq hs3
      rw [hq] at hs3
      generalize ceN m x = y at hc hs3
      obtain ⟨x0, x1, x2, x3, x4, x5, x6, x7⟩ := x
      simp only [encV, encV_mk, encSs] at hc hix
      repeat' (first | (with_reducible refine jn_in ?_) | (with_reducible refine cl_ok (by assumption) rfl ?_) | (with_reducible refine cl_okP (by assumption) rfl ?_) | (with_reducible refine br_if (fun hbr => ?_) (fun hbr => ?_)) | (with_reducible refine br_ifn (fun hbr => ?_) (fun hbr => ?_)) | (with_reducible refine br_nb (fun hbr => ?_) (fun hbr => ?_)) | (with_reducible refine br_b (fun hbr => ?_) (fun hbr => ?_)) | simp (disch := first | omega | (simp only [List.length_take, List.length_drop, List.length_append, List.map_cons, List.map_nil, List.length_map, List.length_cons, List.length_nil, List.length_set, List.length_replicate]; omega) | (simp only [List.length_cons, List.length_nil, Nat.zero_add, Nat.reduceAdd])) only [go_sem, ↓reduceIte, Nat.reduceAdd, Int.reduceNeg, Int.reduceAdd, Int.reduceSub, Int.reduceMul, Int.reduceLT, Int.reduceLE, Int.reduceEq, Int.reduceToNat, Nat.reduceBEq, e_sle, e_sge, e_shl1, e_orI, e_andI, e_shr, wrapu, wrap8, tn1, nat1, ix_s, ix_z, st_s, st_z, fl_s, fl_z, fl1_s, fl1_z, map_s, map_z, hix])
      all_goals first
        | omega
        | exact ⟨i + 1, by congr 4; omega, by omega, by omega⟩
        | skip
  · obtain rfl : i = ps.length := by omega
    rw [List.take_length] at *
    repeat' (first | (with_reducible refine jn_in ?_) | (with_reducible refine cl_ok (by assumption) rfl ?_) | (with_reducible refine cl_okP (by assumption) rfl ?_) | (with_reducible refine br_if (fun hbr => ?_) (fun hbr => ?_)) | (with_reducible refine br_ifn (fun hbr => ?_) (fun hbr => ?_)) | (with_reducible refine br_nb (fun hbr => ?_) (fun hbr => ?_)) | (with_reducible refine br_b (fun hbr => ?_) (fun hbr => ?_)) | simp (disch := first | omega | (simp only [List.length_take, List.length_drop, List.length_append, List.map_cons, List.map_nil, List.length_map, List.length_cons, List.length_nil, List.length_set, List.length_replicate]; omega) | (simp only [List.length_cons, List.length_nil, Nat.zero_add, Nat.reduceAdd])) only [go_sem, ↓reduceIte, Nat.reduceAdd, Int.reduceNeg, Int.reduceAdd, Int.reduceSub, Int.reduceMul, Int.reduceLT, Int.reduceLE, Int.reduceEq, Int.reduceToNat, Nat.reduceBEq, e_sle, e_sge, e_shl1, e_orI, e_andI, e_shr, wrapu, wrap8, tn1, nat1, ix_s, ix_z, st_s, st_z, fl_s, fl_z, fl1_s, fl1_z, map_s, map_z, true_and])
    all_goals first | omega | exact ret_z (by omega) | skip
theorem sCel_m : ∀ n, n ≤ 3 → SCel n
  | 0, h => sCel_step 0 h fun m e => by omega
  | n + 1, h => sCel_step (n + 1) h fun m e => by obtain rfl : n = m := by omega
                                                  exact sCel_m n (by omega)
theorem sIsVec_m (v : Vec) (hw : wtV v ≤ 1048576) : Meets Try.prog 22 [(true, encV v)] [(false, [.sc (.bool (isVc v))], true)] := by
  have h1 := sIs_m 3 (by omega) v hw
  rw [show ((3 : Nat) : Int) = 3 from rfl] at h1
  have h2 := sCel_m 3 (by omega) v hw
  unfold isVc
  generalize ceN 3 v = y at *
  generalize vcB 3 v = b at *
  obtain ⟨k, its, ps, ns, cl, lv, c, e⟩ := v
  simp only [encV, encV_mk, encSs] at h1 h2 ⊢
  refine meets_upf Try.func22 u_spec_IsVector_g rfl ?_; simp only [u_spec_IsVector_u]
  cases b
  · repeat' (first | (with_reducible refine jn_in ?_) | (with_reducible refine cl_ok (by assumption) rfl ?_) | (with_reducible refine cl_okP (by assumption) rfl ?_) | (with_reducible refine br_if (fun hbr => ?_) (fun hbr => ?_)) | (with_reducible refine br_ifn (fun hbr => ?_) (fun hbr => ?_)) | (with_reducible refine br_nb (fun hbr => ?_) (fun hbr => ?_)) | (with_reducible refine br_b (fun hbr => ?_) (fun hbr => ?_)) | simp (disch := first | omega | (simp only [List.length_take, List.length_drop, List.length_append, List.map_cons, List.map_nil, List.length_map, List.length_cons, List.length_nil, List.length_set, List.length_replicate]; omega) | (simp only [List.length_cons, List.length_nil, Nat.zero_add, Nat.reduceAdd])) only [go_sem, ↓reduceIte, Nat.reduceAdd, Int.reduceNeg, Int.reduceAdd, Int.reduceSub, Int.reduceMul, Int.reduceLT, Int.reduceLE, Int.reduceEq, Int.reduceToNat, Nat.reduceBEq, e_sle, e_sge, e_shl1, e_orI, e_andI, e_shr, wrapu, wrap8, tn1, nat1, ix_s, ix_z, st_s, st_z, fl_s, fl_z, fl1_s, fl1_z, map_s, map_z, true_and])
    all_goals exact ret_b rfl
  · have h3 := h2 rfl
    repeat' (first | (with_reducible refine jn_in ?_) | (with_reducible refine cl_ok (by assumption) rfl ?_) | (with_reducible refine cl_okP (by assumption) rfl ?_) | (with_reducible refine br_if (fun hbr => ?_) (fun hbr => ?_)) | (with_reducible refine br_ifn (fun hbr => ?_) (fun hbr => ?_)) | (with_reducible refine br_nb (fun hbr => ?_) (fun hbr => ?_)) | (with_reducible refine br_b (fun hbr => ?_) (fun hbr => ?_)) | simp (disch := first | omega | (simp only [List.length_take, List.length_drop, List.length_append, List.map_cons, List.map_nil, List.length_map, List.length_cons, List.length_nil, List.length_set, List.length_replicate]; omega) | (simp only [List.length_cons, List.length_nil, Nat.zero_add, Nat.reduceAdd])) only [go_sem, ↓reduceIte, Nat.reduceAdd, Int.reduceNeg, Int.reduceAdd, Int.reduceSub, Int.reduceMul, Int.reduceLT, Int.reduceLE, Int.reduceEq, Int.reduceToNat, Nat.reduceBEq, e_sle, e_sge, e_shl1, e_orI, e_andI, e_shr, wrapu, wrap8, tn1, nat1, ix_s, ix_z, st_s, st_z, fl_s, fl_z, fl1_s, fl1_z, map_s, map_z, true_and])
    all_goals exact ret_b rfl
end Go.Proofs.Ytkcljmgjbjdccaa

namespace Go.Proofs.Ytkcljmgjbjdccaa
open Go.RowKit
set_option maxRecDepth 100000
def u_impl_IsVector_h : List Hint := []
def u_impl_IsVector_d : List (Nat × Nat × Bool × List Nat) := []
def u_impl_IsVector_u : UP := .po (.k (.bool false)) <| .po (.k (.int .i64 4)) <| .cl 50 [(true, [9, 8, 7, 6, 5, 4, 3, 2]), (false, [0])] [(false, [none], true)] <| .po (.k (.int .i64 3)) <| .po (.bin .leq false 1 0) <| .ite 0 (.sel [5, 6, 7, 8, 9, 10, 11, 12] <| .cl 51 [(true, [7, 6, 5, 4, 3, 2, 1, 0])] [(false, [none], true)] <| .ite 0 (.cl 52 [(true, [8, 7, 6, 5, 4, 3, 2, 1])] [(false, [none], true)] <| .po (.k (.int .i64 200)) <| .po (.bin .leq false 1 0) <| .po (.sc 0) <| .ret [(false, [0])]) <| .po (.k (.bool false)) <| .po (.sc 0) <| .ret [(false, [0])]) <| .po (.k (.bool false)) <| .po (.k (.bool false)) <| .po (.sc 0) <| .ret [(false, [0])]
theorem u_impl_IsVector_g : toUPf Try.prog 26 Try.f26 owA u_impl_IsVector_h u_impl_IsVector_d = some ([(true, 8)], u_impl_IsVector_u) := by kernel_rfl
def u_impl_cells_h : List Hint := [⟨3000003, 2, ⟨[(11, .p false [.d 12]), (10, .p false [.d 10]), (9, .p false [.d 2]), (3, .p false [.d 13]), (2, .p false [.d 8]), (1, .p false [.ptr 0 0 0]), (0, .p true [.d 0, .d 1, .d 2, .d 3, .d 4, .d 5, .d 6, .d 7])], [(0, .var 0 34 [.d 0, .d 1, .d 2, .d 3, .d 4, .d 5, .d 6, .d 7])], 1, 1, 14, []⟩, []⟩]
def u_impl_cells_d : List (Nat × Nat × Bool × List Nat) := []
def u_impl_cells_l0 : UP := .po (.bin .lss false 1 3) <| .ite 0 (.po (.isI 2) <| .po (.idx 8 6 2) <| .po (.k (.int .i64 0)) <| .po (.k (.int .i64 0)) <| .po (.k (.int .i64 0)) <| .sel [3, 4, 5, 6, 7, 8, 9, 10, 12, 13] <| .cl 52 [(true, [7, 6, 5, 4, 3, 2, 1, 0])] [(false, [none], true)] <| .po (.bin .add false 9 0) <| .po (.k (.int .i64 1)) <| .po (.bin .add false 12 0) <| .jump 0 [0, 2]) <| .po (.sc 1) <| .ret [(false, [1])]
def u_impl_cells_u : UP := .po (.k (.int .i64 0)) <| .cl 68 [(true, [8, 7, 6, 5, 4, 3, 2, 1])] [(false, [none], true)] <| .po (.lenL 7) <| .po (.k (.int .i64 0)) <| .sel [0, 1, 2, 9] <| .loop [0, 2] u_impl_cells_l0
theorem u_impl_cells_g : toUPf Try.prog 52 Try.f52 owA u_impl_cells_h u_impl_cells_d = some ([(true, 8)], u_impl_cells_u) := by kernel_rfl
def u_impl_isAtomic_h : List Hint := []
def u_impl_isAtomic_d : List (Nat × Nat × Bool × List Nat) := []
def u_impl_isAtomic_u : UP := .po (.k (.bool false)) <| .po (.k (.int .i64 1)) <| .po (.bin .eql false 9 0) <| .ite 0 (.po (.k (.bool true)) <| .po (.k (.bool true)) <| .po (.sc 0) <| .ret [(false, [0])]) <| .po (.k (.int .i64 2)) <| .po (.bin .eql false 11 0) <| .ite 0 (.po (.k (.bool true)) <| .po (.sc 0) <| .ret [(false, [0])]) <| .po (.k (.int .i64 3)) <| .po (.bin .eql false 13 0) <| .po (.sc 0) <| .ret [(false, [0])]
theorem u_impl_isAtomic_g : toUPf Try.prog 27 Try.f27 owA u_impl_isAtomic_h u_impl_isAtomic_d = some ([(true, 8)], u_impl_isAtomic_u) := by kernel_rfl
def u_impl_length_h : List Hint := []
def u_impl_length_d : List (Nat × Nat × Bool × List Nat) := []
def u_impl_length_u : UP := .po (.k (.int .i64 0)) <| .po (.k (.int .i64 5)) <| .po (.bin .eql false 9 0) <| .ite 0 (.po (.k (.int .i64 1)) <| .po (.sc 0) <| .ret [(false, [0])]) <| .po (.lenL 9) <| .po (.lenL 9) <| .po (.bin .add false 1 0) <| .po (.sc 0) <| .ret [(false, [0])]
theorem u_impl_length_g : toUPf Try.prog 68 Try.f68 owA u_impl_length_h u_impl_length_d = some ([(true, 8)], u_impl_length_u) := by kernel_rfl
def u_impl_nest_h : List Hint := [⟨3000005, 2, ⟨[(13, .p false [.d 15]), (12, .p false [.d 13]), (11, .p false [.d 2]), (9, .p false [.d 12]), (5, .p false [.d 16]), (4, .p false [.d 9]), (2, .p false [.ptr 0 0 0]), (0, .p true [.d 0, .d 1, .d 2, .d 3, .d 4, .d 5, .d 6, .d 7]), (1, .p false [.d 8])], [(0, .var 0 34 [.d 0, .d 1, .d 2, .d 3, .d 4, .d 5, .d 6, .d 7])], 1, 1, 17, [(12, false)]⟩, []⟩]
def u_impl_nest_d : List (Nat × Nat × Bool × List Nat) := []
def u_impl_nest_l0 : UP := .po (.bin .lss false 1 3) <| .ite 0 (.po (.isI 2) <| .po (.idx 8 7 2) <| .po (.k (.int .i64 0)) <| .po (.k (.int .i64 0)) <| .po (.k (.int .i64 0)) <| .po (.k (.int .i64 1)) <| .po (.bin .sub false 18 0) <| .sel [0, 5, 6, 7, 8, 9, 10, 11, 12, 14, 15] <| .cl 50 [(true, [8, 7, 6, 5, 4, 3, 2, 1]), (false, [0])] [(false, [none], true)] <| .po (.k (.int .i64 1)) <| .po (.bin .add false 0 1) <| .po (.mm true 12 0) <| .po (.k (.int .i64 1)) <| .po (.bin .add false 15 0) <| .jump 0 [0, 2]) <| .po (.sc 1) <| .ret [(false, [1])]
def u_impl_nest_u : UP := .po (.k (.int .i64 0)) <| .po (.k (.int .i64 0)) <| .po (.k (.int .i64 0)) <| .po (.bin .eql false 3 0) <| .ite 0 (.po (.k (.int .i64 1)) <| .po (.sc 0) <| .ret [(false, [0])]) <| .po (.lenL 10) <| .po (.k (.int .i64 0)) <| .sel [0, 1, 4, 6, 12] <| .loop [0, 2] u_impl_nest_l0
theorem u_impl_nest_g : toUPf Try.prog 50 Try.f50 owA u_impl_nest_h u_impl_nest_d = some ([(true, 8), (false, 1)], u_impl_nest_u) := by kernel_rfl
def u_impl_partsValid_h : List Hint := [⟨3000004, 1, ⟨[(11, .p false [.d 13]), (10, .p false [.d 11]), (9, .p false [.d 2]), (7, .p false [.d 10]), (2, .p false [.d 8]), (1, .p false [.ptr 0 0 0]), (0, .p true [.d 0, .d 1, .d 2, .d 3, .d 4, .d 5, .d 6, .d 7])], [(0, .var 0 34 [.d 0, .d 1, .d 2, .d 3, .d 4, .d 5, .d 6, .d 7])], 1, 1, 14, [(10, false), (8, false)]⟩, []⟩]
def u_impl_partsValid_d : List (Nat × Nat × Bool × List Nat) := []
def u_impl_partsValid_l0 : UP := .po (.bin .lss false 0 2) <| .ite 0 (.po (.isI 1) <| .po (.idx 8 4 1) <| .po (.k (.int .i64 0)) <| .po (.k (.int .i64 0)) <| .po (.k (.int .i64 0)) <| .sel [3, 4, 5, 6, 7, 8, 9, 10, 12] <| .cl 51 [(true, [7, 6, 5, 4, 3, 2, 1, 0])] [(false, [none], true)] <| .po (.un .not 0) <| .ite 0 (.po (.k (.bool false)) <| .po (.sc 0) <| .ret [(false, [0])]) <| .po (.k (.int .i64 1)) <| .po (.bin .add false 11 0) <| .jump 0 [0]) <| .po (.k (.bool true)) <| .po (.sc 0) <| .ret [(false, [0])]
def u_impl_partsValid_u : UP := .po (.k (.bool false)) <| .cl 67 [(true, [8, 7, 6, 5, 4, 3, 2, 1])] [(false, [none], true)] <| .po (.un .not 0) <| .ite 0 (.po (.k (.bool false)) <| .po (.sc 0) <| .ret [(false, [0])]) <| .po (.lenL 8) <| .po (.k (.int .i64 0)) <| .sel [0, 1, 10] <| .loop [0] u_impl_partsValid_l0
theorem u_impl_partsValid_g : toUPf Try.prog 51 Try.f51 owA u_impl_partsValid_h u_impl_partsValid_d = some ([(true, 8)], u_impl_partsValid_u) := by kernel_rfl
def u_impl_shapeValid_h : List Hint := [⟨2000003, 5, ⟨[(187, .p false [.d 35]), (160, .p false [.d 36]), (7, .p false [.ptr 1 1 0]), (148, .p false [.d 34]), (147, .p false [.d 33]), (146, .p false [.d 31]), (145, .p false [.d 1]), (143, .p false [.d 30]), (128, .p false [.d 29]), (93, .p false [.d 28]), (80, .p false [.d 27]), (54, .p false [.d 26]), (53, .p false [.d 25]), (52, .p false [.d 23]), (51, .p false [.d 3]), (49, .p false [.d 22]), (33, .p false [.d 21]), (3, .p false [.d 9]), (2, .p false [.d 8]), (1, .p false [.ptr 0 0 0]), (0, .p true [.d 0, .d 1, .d 2, .d 3, .d 4, .d 5, .d 6, .d 7])], [(0, .var 0 34 [.d 0, .d 1, .d 2, .d 3, .d 4, .d 5, .d 6, .d 7]), (1, .var 1 54 [.d 37, .d 38, .d 39])], 2, 2, 40, [(34, true), (30, false), (29, false), (28, false), (27, false), (26, false), (22, false), (21, false), (18, false), (15, false), (13, false), (11, false), (8, false)]⟩, []⟩, ⟨3000021, 1, ⟨[(147, .p false [.d 33]), (146, .p false [.d 31]), (145, .p false [.d 1]), (143, .p false [.d 30]), (128, .p false [.d 29]), (93, .p false [.d 28]), (80, .p false [.d 27]), (54, .p false [.d 26]), (53, .p false [.d 25]), (52, .p false [.d 23]), (51, .p false [.d 3]), (49, .p false [.d 22]), (33, .p false [.d 21]), (3, .p false [.d 9]), (2, .p false [.d 8]), (1, .p false [.ptr 0 0 0]), (0, .p true [.d 0, .d 1, .d 2, .d 3, .d 4, .d 5, .d 6, .d 7])], [(0, .var 0 34 [.d 0, .d 1, .d 2, .d 3, .d 4, .d 5, .d 6, .d 7])], 1, 1, 34, [(30, false), (29, false), (28, false), (27, false), (26, false), (22, false), (21, false), (18, false), (15, false), (13, false), (11, false), (8, false)]⟩, []⟩, ⟨18, 1, ⟨[(143, .p false [.d 30]), (128, .p false [.d 29]), (93, .p false [.d 28]), (80, .p false [.d 27]), (54, .p false [.d 26]), (53, .p false [.d 25]), (52, .p false [.d 23]), (51, .p false [.d 3]), (49, .p false [.d 22]), (33, .p false [.d 21]), (3, .p false [.d 9]), (2, .p false [.d 8]), (1, .p false [.ptr 0 0 0]), (0, .p true [.d 0, .d 1, .d 2, .d 3, .d 4, .d 5, .d 6, .d 7])], [(0, .var 0 34 [.d 0, .d 1, .d 2, .d 3, .d 4, .d 5, .d 6, .d 7])], 1, 1, 31, [(29, false), (28, false), (27, false), (26, false), (22, false), (21, false), (18, false), (15, false), (13, false), (11, false), (8, false)]⟩, []⟩, ⟨16, 1, ⟨[(128, .p false [.d 29]), (93, .p false [.d 28]), (80, .p false [.d 27]), (54, .p false [.d 26]), (53, .p false [.d 25]), (52, .p false [.d 23]), (51, .p false [.d 3]), (49, .p false [.d 22]), (33, .p false [.d 21]), (3, .p false [.d 9]), (2, .p false [.d 8]), (1, .p false [.ptr 0 0 0]), (0, .p true [.d 0, .d 1, .d 2, .d 3, .d 4, .d 5, .d 6, .d 7])], [(0, .var 0 34 [.d 0, .d 1, .d 2, .d 3, .d 4, .d 5, .d 6, .d 7])], 1, 1, 30, [(28, false), (27, false), (26, false), (22, false), (21, false), (18, false), (15, false), (13, false), (11, false), (8, false)]⟩, []⟩, ⟨14, 1, ⟨[(93, .p false [.d 28]), (80, .p false [.d 27]), (54, .p false [.d 26]), (53, .p false [.d 25]), (52, .p false [.d 23]), (51, .p false [.d 3]), (49, .p false [.d 22]), (33, .p false [.d 21]), (3, .p false [.d 9]), (2, .p false [.d 8]), (1, .p false [.ptr 0 0 0]), (0, .p true [.d 0, .d 1, .d 2, .d 3, .d 4, .d 5, .d 6, .d 7])], [(0, .var 0 34 [.d 0, .d 1, .d 2, .d 3, .d 4, .d 5, .d 6, .d 7])], 1, 1, 29, [(27, false), (26, false), (22, false), (21, false), (18, false), (15, false), (13, false), (11, false), (8, false)]⟩, []⟩, ⟨12, 1, ⟨[(80, .p false [.d 27]), (54, .p false [.d 26]), (53, .p false [.d 25]), (52, .p false [.d 23]), (51, .p false [.d 3]), (49, .p false [.d 22]), (33, .p false [.d 21]), (3, .p false [.d 9]), (2, .p false [.d 8]), (1, .p false [.ptr 0 0 0]), (0, .p true [.d 0, .d 1, .d 2, .d 3, .d 4, .d 5, .d 6, .d 7])], [(0, .var 0 34 [.d 0, .d 1, .d 2, .d 3, .d 4, .d 5, .d 6, .d 7])], 1, 1, 28, [(26, false), (22, false), (21, false), (18, false), (15, false), (13, false), (11, false), (8, false)]⟩, []⟩, ⟨3000007, 1, ⟨[(53, .p false [.d 25]), (52, .p false [.d 23]), (51, .p false [.d 3]), (49, .p false [.d 22]), (33, .p false [.d 21]), (3, .p false [.d 9]), (2, .p false [.d 8]), (1, .p false [.ptr 0 0 0]), (0, .p true [.d 0, .d 1, .d 2, .d 3, .d 4, .d 5, .d 6, .d 7])], [(0, .var 0 34 [.d 0, .d 1, .d 2, .d 3, .d 4, .d 5, .d 6, .d 7])], 1, 1, 26, [(22, false), (21, false), (18, false), (15, false), (13, false), (11, false), (8, false)]⟩, []⟩, ⟨4, 1, ⟨[(49, .p false [.d 22]), (33, .p false [.d 21]), (3, .p false [.d 9]), (2, .p false [.d 8]), (1, .p false [.ptr 0 0 0]), (0, .p true [.d 0, .d 1, .d 2, .d 3, .d 4, .d 5, .d 6, .d 7])], [(0, .var 0 34 [.d 0, .d 1, .d 2, .d 3, .d 4, .d 5, .d 6, .d 7])], 1, 1, 23, [(21, false), (18, false), (15, false), (13, false), (11, false), (8, false)]⟩, []⟩]
def u_impl_shapeValid_d : List (Nat × Nat × Bool × List Nat) := []
def u_impl_shapeValid_j0 : UP := .po (.k (.int .i64 1)) <| .po (.bin .add false 7 0) <| .jump 1 [0]
def u_impl_shapeValid_l1 : UP := .po (.bin .lss false 0 2) <| .ite 0 (.join 5 u_impl_shapeValid_j0 <| .po (.isI 1) <| .po (.idx 3 10 1) <| .po (.k (.int .i64 0)) <| .po (.k (.int .i64 0)) <| .po (.k (.string ⟨#[]⟩)) <| .sel [3, 4, 5, 10, 11, 12, 13, 14, 15, 16, 17] <| .cl 27 [(true, [10, 9, 8, 7, 6, 5, 4, 3])] [(false, [none], true)] <| .po (.un .not 0) <| .ite 0 (.po (.k (.bool true)) <| .po (.k (.bool false)) <| .po (.sc 0) <| .ret [(false, [0])]) <| .sel [2, 3, 4, 7, 12] <| .cl 86 [(false, [4]), (true, [2, 1, 0])] [(false, [none], true)] <| .po (.un .not 0) <| .ite 0 (.po (.k (.bool false)) <| .po (.sc 0) <| .ret [(false, [0])]) <| .po (.lenL 5) <| .po (.k (.int .i64 0)) <| .po (.bin .gtr false 1 0) <| .ite 0 (.sel [3, 5, 6, 7, 8] <| .cl 28 [(true, [3, 2, 1])] [(false, [none], true)] <| .po (.un .not 0) <| .ite 0 (.po (.k (.int .i64 1)) <| .po (.bin .neq false 5 0) <| .ite 0 (.po (.k (.bool true)) <| .po (.k (.bool true)) <| .po (.k (.bool false)) <| .po (.sc 0) <| .ret [(false, [0])]) <| .po (.k (.int .i64 1)) <| .po (.bin .lss false 8 0) <| .ite 0 (.po (.k (.bool true)) <| .po (.k (.bool false)) <| .po (.sc 0) <| .ret [(false, [0])]) <| .po (.lenL 10) <| .po (.bin .gtr false 10 0) <| .ite 0 (.po (.k (.bool false)) <| .po (.sc 0) <| .ret [(false, [0])]) <| .jump 2 [0, 8, 11, 10, 9]) <| .po (.k (.bool false)) <| .jump 2 [0, 3, 6, 5, 4]) <| .po (.k (.bool false)) <| .po (.k (.bool false)) <| .jump 2 [0, 5, 9, 8, 7]) <| .po (.k (.bool true)) <| .po (.sc 0) <| .ret [(false, [0])]
def u_impl_shapeValid_j2 : UP := .ite 0 (.po (.k (.bool false)) <| .po (.sc 0) <| .ret [(false, [0])]) <| .po (.lenL 10) <| .po (.k (.int .i64 0)) <| .sel [0, 1, 6, 7, 8, 9, 10, 11, 12, 13] <| .loop [0] u_impl_shapeValid_l1
def u_impl_shapeValid_j3 : UP := .ite 0 (.po (.k (.bool false)) <| .po (.sc 0) <| .ret [(false, [0])]) <| .join 1 u_impl_shapeValid_j2 <| .po (.k (.int .i64 0)) <| .po (.bin .eql false 11 0) <| .ite 0 (.po (.lenL 11) <| .po (.k (.int .i64 0)) <| .po (.bin .gtr false 1 0) <| .ite 0 (.po (.k (.bool true)) <| .jump 1 [0]) <| .po (.lenL 11) <| .po (.k (.int .i64 0)) <| .po (.bin .gtr false 1 0) <| .jump 1 [0]) <| .po (.k (.bool false)) <| .jump 1 [0]
def u_impl_shapeValid_j4 : UP := .ite 0 (.po (.k (.bool false)) <| .po (.sc 0) <| .ret [(false, [0])]) <| .join 1 u_impl_shapeValid_j3 <| .po (.k (.int .i64 5)) <| .po (.bin .eql false 10 0) <| .ite 0 (.po (.lenL 10) <| .po (.k (.int .i64 0)) <| .po (.bin .gtr false 1 0) <| .ite 0 (.po (.k (.bool true)) <| .po (.k (.bool true)) <| .po (.k (.bool true)) <| .po (.k (.bool true)) <| .po (.k (.bool true)) <| .jump 1 [0]) <| .po (.lenL 11) <| .po (.k (.int .i64 0)) <| .po (.bin .gtr false 1 0) <| .ite 0 (.po (.k (.bool true)) <| .po (.k (.bool true)) <| .po (.k (.bool true)) <| .po (.k (.bool true)) <| .jump 1 [0]) <| .po (.k (.int .i64 (-999))) <| .po (.bin .lss false 12 0) <| .ite 0 (.po (.k (.bool true)) <| .po (.k (.bool true)) <| .po (.k (.bool true)) <| .jump 1 [0]) <| .po (.k (.int .i64 99999)) <| .po (.bin .gtr false 14 0) <| .ite 0 (.po (.k (.bool true)) <| .po (.k (.bool true)) <| .jump 1 [0]) <| .po (.k (.int .i64 0)) <| .po (.bin .lss false 15 0) <| .ite 0 (.po (.k (.bool true)) <| .jump 1 [0]) <| .po (.k (.int .i64 99999)) <| .po (.bin .gtr false 17 0) <| .jump 1 [0]) <| .po (.k (.bool false)) <| .jump 1 [0]
def u_impl_shapeValid_j5 : UP := .ite 0 (.po (.k (.bool false)) <| .po (.sc 0) <| .ret [(false, [0])]) <| .join 1 u_impl_shapeValid_j4 <| .po (.k (.int .i64 5)) <| .po (.bin .neq false 9 0) <| .ite 0 (.po (.k (.int .i64 0)) <| .po (.bin .neq false 5 0) <| .ite 0 (.po (.k (.bool true)) <| .jump 1 [0]) <| .po (.k (.int .i64 0)) <| .po (.bin .neq false 6 0) <| .jump 1 [0]) <| .po (.k (.bool false)) <| .jump 1 [0]
def u_impl_shapeValid_l6 : UP := .po (.bin .lss false 0 2) <| .ite 0 (.po (.isI 1) <| .po (.idx 1 10 1) <| .po (.lenS 0) <| .po (.k (.int .i64 60)) <| .po (.bin .gtr false 1 0) <| .ite 0 (.po (.k (.bool false)) <| .po (.sc 0) <| .ret [(false, [0])]) <| .po (.k (.int .i64 1)) <| .po (.bin .add false 6 0) <| .jump 0 [0]) <| .sel [6, 7, 8, 9, 10, 11, 12, 13] <| .join 1 u_impl_shapeValid_j5 <| .po (.lenL 2) <| .po (.k (.int .i64 0)) <| .po (.bin .gtr false 1 0) <| .ite 0 (.po (.k (.int .i64 2)) <| .po (.bin .neq false 11 0) <| .ite 0 (.po (.k (.bool true)) <| .jump 1 [0]) <| .po (.lenL 10) <| .po (.k (.int .i64 0)) <| .po (.bin .gtr false 1 0) <| .ite 0 (.po (.k (.int .i64 4)) <| .po (.bin .neq false 16 0) <| .jump 1 [0]) <| .po (.k (.bool false)) <| .jump 1 [0]) <| .po (.k (.bool false)) <| .po (.lenL 9) <| .po (.k (.int .i64 0)) <| .po (.bin .gtr false 1 0) <| .ite 0 (.po (.k (.int .i64 4)) <| .po (.bin .neq false 15 0) <| .jump 1 [0]) <| .po (.k (.bool false)) <| .jump 1 [0]
def u_impl_shapeValid_j7 : UP := .ite 0 (.po (.k (.bool false)) <| .po (.sc 0) <| .ret [(false, [0])]) <| .po (.lenL 6) <| .po (.k (.int .i64 0)) <| .loop [0] u_impl_shapeValid_l6
def u_impl_shapeValid_u : UP := .po (.k (.bool false)) <| .cl 68 [(true, [8, 7, 6, 5, 4, 3, 2, 1])] [(false, [none], true)] <| .po (.k (.int .i64 0)) <| .po (.bin .lss false 10 0) <| .ite 0 (.po (.k (.bool true)) <| .po (.k (.bool true)) <| .po (.k (.bool true)) <| .po (.k (.bool true)) <| .po (.k (.bool false)) <| .po (.sc 0) <| .ret [(false, [0])]) <| .po (.k (.int .i64 5)) <| .po (.bin .gtr false 12 0) <| .ite 0 (.po (.k (.bool true)) <| .po (.k (.bool true)) <| .po (.k (.bool true)) <| .po (.k (.bool false)) <| .po (.sc 0) <| .ret [(false, [0])]) <| .po (.k (.int .i64 40)) <| .po (.bin .gtr false 5 0) <| .ite 0 (.po (.k (.bool true)) <| .po (.k (.bool true)) <| .po (.k (.bool false)) <| .po (.sc 0) <| .ret [(false, [0])]) <| .po (.k (.int .i64 3)) <| .sel [0, 7, 9, 10, 11, 12, 13, 14, 15, 16] <| .cl 84 [(false, [5]), (false, [0])] [(false, [none], true)] <| .po (.un .not 0) <| .ite 0 (.po (.k (.bool true)) <| .po (.k (.bool false)) <| .po (.sc 0) <| .ret [(false, [0])]) <| .po (.k (.int .i64 20)) <| .cl 84 [(false, [7]), (false, [0])] [(false, [none], true)] <| .po (.un .not 0) <| .ite 0 (.po (.k (.bool false)) <| .po (.sc 0) <| .ret [(false, [0])]) <| .sel [6, 7, 8, 9, 10, 11, 12, 13, 14] <| .join 1 u_impl_shapeValid_j7 <| .po (.lenL 5) <| .po (.k (.int .i64 0)) <| .po (.bin .gtr false 1 0) <| .ite 0 (.po (.lenL 8) <| .po (.bin .neq false 0 4) <| .ite 0 (.po (.k (.bool true)) <| .jump 0 [0]) <| .sel [10] <| .cl 85 [(false, [0])] [(false, [none], true)] <| .jump 0 [0]) <| .po (.k (.bool false)) <| .jump 0 [0]
theorem u_impl_shapeValid_g : toUPf Try.prog 67 Try.f67 owA u_impl_shapeValid_h u_impl_shapeValid_d = some ([(true, 8)], u_impl_shapeValid_u) := by kernel_rfl
end Go.Proofs.Ytkcljmgjbjdccaa

namespace Go.Proofs.Ytkcljmgjbjdccaa
open Go.RowKit
set_option maxRecDepth 100000
theorem iLen_m (k : Int) (its : List It) (ps : List Vec) (ns cl lv : List ByteArray) (c e : Int) (hb : BdV its ps ns cl lv) : Meets Try.prog 68 [(true, encV (.mk k its ps ns cl lv c e))] [(false, [.sc (.int .i64 (lnV k its.length ps.length))], true)] := by
  obtain ⟨b1, b2, -, -, -, -⟩ := hb
  simp only [encV, encV_mk, encSs]
  refine meets_upf Try.func68 u_impl_length_g rfl ?_; simp only [u_impl_length_u]
  unfold lnV
  repeat' (first | (with_reducible refine jn_in ?_) | (with_reducible refine cl_ok (by assumption) rfl ?_) | (with_reducible refine cl_okP (by assumption) rfl ?_) | (with_reducible refine br_if (fun hbr => ?_) (fun hbr => ?_)) | (with_reducible refine br_ifn (fun hbr => ?_) (fun hbr => ?_)) | (with_reducible refine br_nb (fun hbr => ?_) (fun hbr => ?_)) | (with_reducible refine br_b (fun hbr => ?_) (fun hbr => ?_)) | simp (disch := first | omega | (simp only [List.length_take, List.length_drop, List.length_append, List.map_cons, List.map_nil, List.length_map, List.length_cons, List.length_nil, List.length_set, List.length_replicate]; omega) | (simp only [List.length_cons, List.length_nil, Nat.zero_add, Nat.reduceAdd])) only [go_sem, ↓reduceIte, Nat.reduceAdd, Int.reduceNeg, Int.reduceAdd, Int.reduceSub, Int.reduceMul, Int.reduceLT, Int.reduceLE, Int.reduceEq, Int.reduceToNat, Nat.reduceBEq, e_sle, e_sge, e_shl1, e_orI, e_andI, e_shr, wrapu, wrap8, tn1, nat1, ix_s, ix_z, st_s, st_z, fl_s, fl_z, fl1_s, fl1_z, map_s, map_z, true_and])
  · rw [if_pos ‹_›]; rfl
  · rw [if_neg ‹_›]; rfl
def atB (k : Int) : Bool := decide (k = 1) || (decide (k = 2) || decide (k = 3))
theorem iAtm_m (v : Vec) (k : Int) (hk : ∃ its ps ns cl lv c e, v = .mk k its ps ns cl lv c e) : Meets Try.prog 27 [(true, encV v)] [(false, [.sc (.bool (atB k))], true)] := by
  obtain ⟨its, ps, ns, cl, lv, c, e, rfl⟩ := hk
  simp only [encV, encV_mk, encSs]
  refine meets_upf Try.func27 u_impl_isAtomic_g rfl ?_; simp only [u_impl_isAtomic_u]
  unfold atB
  repeat' (first | (with_reducible refine jn_in ?_) | (with_reducible refine cl_ok (by assumption) rfl ?_) | (with_reducible refine cl_okP (by assumption) rfl ?_) | (with_reducible refine br_if (fun hbr => ?_) (fun hbr => ?_)) | (with_reducible refine br_ifn (fun hbr => ?_) (fun hbr => ?_)) | (with_reducible refine br_nb (fun hbr => ?_) (fun hbr => ?_)) | (with_reducible refine br_b (fun hbr => ?_) (fun hbr => ?_)) | simp (disch := first | omega | (simp only [List.length_take, List.length_drop, List.length_append, List.map_cons, List.map_nil, List.length_map, List.length_cons, List.length_nil, List.length_set, List.length_replicate]; omega) | (simp only [List.length_cons, List.length_nil, Nat.zero_add, Nat.reduceAdd])) only [go_sem, ↓reduceIte, Nat.reduceAdd, Int.reduceNeg, Int.reduceAdd, Int.reduceSub, Int.reduceMul, Int.reduceLT, Int.reduceLE, Int.reduceEq, Int.reduceToNat, Nat.reduceBEq, e_sle, e_sge, e_shl1, e_orI, e_andI, e_shr, wrapu, wrap8, tn1, nat1, ix_s, ix_z, st_s, st_z, fl_s, fl_z, fl1_s, fl1_z, map_s, map_z, true_and])
  all_goals exact ret_b (by simp [*])
theorem dec1 (n : Nat) : decide (0 < (n : Int)) = !decide (n = 0) := by rw [Bool.eq_iff_iff]; simp; omega
def hA (k n : Int) (cl lv : List ByteArray) : Bool := decide (0 ≤ k ∧ k ≤ 5) && (decide (n ≤ 40) && (labB cl 3 && labB lv 20))
def hB (n : Int) (ns : List ByteArray) : Bool := decide (ns.length = 0) || (decide ((ns.length : Int) = n) && !allB (emP ns) ns.length)
def hC (k : Int) (np nl : Nat) : Bool := (decide (nl = 0) || decide (k = 2)) && (decide (np = 0) || decide (k = 4))
def hD (k c e : Int) : Bool := decide (k = 5) || (decide (c = 0) && decide (e = 0))
def hE (k c e : Int) (ni nn : Nat) : Bool := !decide (k = 5) || (decide (ni = 0) && (decide (nn = 0) && (decide (-999 ≤ c ∧ c ≤ 99999) && decide (0 ≤ e ∧ e ≤ 99999))))
def hF (k : Int) (ni nc : Nat) : Bool := !decide (k = 0) || (decide (ni = 0) && decide (nc = 0))
def iiB (k : Int) (m : Nat) (x : It) : Bool := atB k && (ivB k x && (decide (m = 0) || (decide (x = it0) || (decide (x.den = 1) && decide (1 ≤ x.num ∧ x.num ≤ (m : Int))))))
def hh (k n : Int) (its : List It) (np : Nat) (ns cl lv : List ByteArray) (c e : Int) : Bool :=
  hA k n cl lv && (hB n ns && (allB (nmP ns) ns.length && (hC k np lv.length && (hD k c e && (hE k c e its.length ns.length && (hF k its.length cl.length && allB (fun j => iiB k lv.length (its.getD j default)) its.length))))))
theorem iiB_eq (k : Int) (m : Nat) (x : It) : iiB k m x = (atB k && itlB k m x) := by
  unfold iiB itlB
  cases hv : ivB k x
  · rfl
  · have := ivB_den hv
    rw [show decide (x = it0) = decide (x.den = 0) from by rw [Bool.eq_iff_iff, decide_eq_true_eq, decide_eq_true_eq]; exact this]
theorem allB_and (b : Bool) (p : Nat → Bool) (n : Nat) : allB (fun j => b && p j) n = (decide (n = 0) || (b && allB p n)) := by
  cases n with
  | zero => rfl
  | succ n =>
    rw [decide_eq_false (by omega), Bool.false_or]
    cases b
    · rw [Bool.false_and]
      exact allB_no (i := 0) (by omega) rfl
    · simp only [Bool.true_and]
theorem hh_eq (k : Int) (its : List It) (np : Nat) (ns cl lv : List ByteArray) (c e : Int) : hh k (lnV k its.length np) its np ns cl lv c e = shB k its np ns cl lv c e := by
  unfold hh shB
  rw [show (fun j => iiB k lv.length (its.getD j default)) = (fun j => atB k && itlB k lv.length (its.getD j default)) from funext fun j => iiB_eq _ _ _, allB_and]
  unfold hA hB hC hD hE hF gA gB gC nmB atB
  have hl := lnV_nn k its.length np
  have hz : k = 0 → (lnV k its.length np = (its.length : Int) + np) := fun h => by unfold lnV; rw [if_neg (by omega)]
  have hx1 : its.length = 0 → allB (fun j => itlB k lv.length (its.getD j default)) its.length = true := fun h => by rw [h]; rfl
  generalize hln : lnV k its.length np = ln at *
  generalize allB (fun j => itlB k lv.length (its.getD j default)) its.length = x1 at hx1 ⊢
  generalize allB (nmP ns) ns.length = x2
  generalize allB (emP ns) ns.length = x3
  generalize labB cl 3 = x4
  generalize labB lv 20 = x5
  generalize ns.length = nn at *
  generalize cl.length = nc at *
  generalize lv.length = nl at *
  generalize its.length = ni at *
  cases x4
  · simp
  cases x5
  · simp
  cases x2
  · simp
  rw [Bool.eq_iff_iff]
  by_cases k5 : k = 5
  · subst k5
    cases x1 <;> cases x3 <;> grind
  by_cases k0 : k = 0
  · subst k0
    cases x1 <;> cases x3 <;> grind
  by_cases k4 : k = 4
  · subst k4
    cases x1 <;> cases x3 <;> grind
  rw [if_neg k5, if_neg k0, if_neg k4]
  cases x1 <;> cases x3 <;> grind
set_option maxHeartbeats 4000000 in
theorem iShp_m (v : Vec) (k : Int) (its : List It) (ps : List Vec) (ns cl lv : List ByteArray) (c e : Int) (hve : v = .mk k its ps ns cl lv c e) (hb : BdV its ps ns cl lv) : Meets Try.prog 67 [(true, encV v)] [(false, [.sc (.bool (shB k its ps.length ns cl lv c e))], true)] := by
  have h0 := iAtm_m v k ⟨_, _, _, _, _, _, _, hve⟩
  subst hve
  have h1 := iLen_m k its ps ns cl lv c e hb
  obtain ⟨b1, b2, b3, b4, b5, b6⟩ := hb
  have h2 := iEmp_m 9 ns b3
  have h3 := iLab_m 9 cl 3 b4
  have h4 := iLab_m 9 lv 20 b5
  have h8 := fun i => iItem_m k (its.getD i default)
  have h9 := fun i => iMiss_m (its.getD i default)
  simp only [encIt] at h8 h9
  rw [← hh_eq]
  have hlen := lnV_bd (k := k) b1 b2
  unfold hh
  generalize hln : lnV k its.length ps.length = ln at *
  simp only [encV, encV_mk, encSs] at h0 h1 ⊢
  refine meets_upf Try.func67 u_impl_shapeValid_g rfl ?_; simp only [u_impl_shapeValid_u]
  simp (disch := first | omega | (simp only [List.length_take, List.length_drop, List.length_append, List.map_cons, List.map_nil, List.length_map, List.length_cons, List.length_nil, List.length_set, List.length_replicate]; omega) | (simp only [List.length_cons, List.length_nil, Nat.zero_add, Nat.reduceAdd])) only [go_sem, ↓reduceIte, Nat.reduceAdd, Int.reduceNeg, Int.reduceAdd, Int.reduceSub, Int.reduceMul, Int.reduceLT, Int.reduceLE, Int.reduceEq, Int.reduceToNat, Nat.reduceBEq, e_sle, e_sge, e_shl1, e_orI, e_andI, e_shr, wrapu, wrap8, tn1, nat1, ix_s, ix_z, st_s, st_z, fl_s, fl_z, fl1_s, fl1_z, map_s, map_z, true_and]
  refine cl_ok h1 rfl ?_
  have hA0 : hA k ln cl lv = false → ∀ b, (hA k ln cl lv && b) = false := fun h b => by rw [h]; rfl
  simp (disch := first | omega | (simp only [List.length_take, List.length_drop, List.length_append, List.map_cons, List.map_nil, List.length_map, List.length_cons, List.length_nil, List.length_set, List.length_replicate]; omega) | (simp only [List.length_cons, List.length_nil, Nat.zero_add, Nat.reduceAdd])) only [go_sem, ↓reduceIte, Nat.reduceAdd, Int.reduceNeg, Int.reduceAdd, Int.reduceSub, Int.reduceMul, Int.reduceLT, Int.reduceLE, Int.reduceEq, Int.reduceToNat, Nat.reduceBEq, e_sle, e_sge, e_shl1, e_orI, e_andI, e_shr, wrapu, wrap8, tn1, nat1, ix_s, ix_z, st_s, st_z, fl_s, fl_z, fl1_s, fl1_z, map_s, map_z, true_and]
  refine br_if (fun hk1 => ?_) (fun hk1 => ?_)
  · repeat' (first | (with_reducible refine jn_in ?_) | (with_reducible refine cl_ok (by assumption) rfl ?_) | (with_reducible refine cl_okP (by assumption) rfl ?_) | (with_reducible refine br_if (fun hbr => ?_) (fun hbr => ?_)) | (with_reducible refine br_ifn (fun hbr => ?_) (fun hbr => ?_)) | (with_reducible refine br_nb (fun hbr => ?_) (fun hbr => ?_)) | (with_reducible refine br_b (fun hbr => ?_) (fun hbr => ?_)) | simp (disch := first | omega | (simp only [List.length_take, List.length_drop, List.length_append, List.map_cons, List.map_nil, List.length_map, List.length_cons, List.length_nil, List.length_set, List.length_replicate]; omega) | (simp only [List.length_cons, List.length_nil, Nat.zero_add, Nat.reduceAdd])) only [go_sem, ↓reduceIte, Nat.reduceAdd, Int.reduceNeg, Int.reduceAdd, Int.reduceSub, Int.reduceMul, Int.reduceLT, Int.reduceLE, Int.reduceEq, Int.reduceToNat, Nat.reduceBEq, e_sle, e_sge, e_shl1, e_orI, e_andI, e_shr, wrapu, wrap8, tn1, nat1, ix_s, ix_z, st_s, st_z, fl_s, fl_z, fl1_s, fl1_z, map_s, map_z, true_and])
    exact ret_b (hA0 (by unfold hA; rw [decide_eq_false (by omega)]; rfl) _)
  simp (disch := first | omega | (simp only [List.length_take, List.length_drop, List.length_append, List.map_cons, List.map_nil, List.length_map, List.length_cons, List.length_nil, List.length_set, List.length_replicate]; omega) | (simp only [List.length_cons, List.length_nil, Nat.zero_add, Nat.reduceAdd])) only [go_sem, ↓reduceIte, Nat.reduceAdd, Int.reduceNeg, Int.reduceAdd, Int.reduceSub, Int.reduceMul, Int.reduceLT, Int.reduceLE, Int.reduceEq, Int.reduceToNat, Nat.reduceBEq, e_sle, e_sge, e_shl1, e_orI, e_andI, e_shr, wrapu, wrap8, tn1, nat1, ix_s, ix_z, st_s, st_z, fl_s, fl_z, fl1_s, fl1_z, map_s, map_z, true_and]
  refine br_if (fun hk2 => ?_) (fun hk2 => ?_)
  · repeat' (first | (with_reducible refine jn_in ?_) | (with_reducible refine cl_ok (by assumption) rfl ?_) | (with_reducible refine cl_okP (by assumption) rfl ?_) | (with_reducible refine br_if (fun hbr => ?_) (fun hbr => ?_)) | (with_reducible refine br_ifn (fun hbr => ?_) (fun hbr => ?_)) | (with_reducible refine br_nb (fun hbr => ?_) (fun hbr => ?_)) | (with_reducible refine br_b (fun hbr => ?_) (fun hbr => ?_)) | simp (disch := first | omega | (simp only [List.length_take, List.length_drop, List.length_append, List.map_cons, List.map_nil, List.length_map, List.length_cons, List.length_nil, List.length_set, List.length_replicate]; omega) | (simp only [List.length_cons, List.length_nil, Nat.zero_add, Nat.reduceAdd])) only [go_sem, ↓reduceIte, Nat.reduceAdd, Int.reduceNeg, Int.reduceAdd, Int.reduceSub, Int.reduceMul, Int.reduceLT, Int.reduceLE, Int.reduceEq, Int.reduceToNat, Nat.reduceBEq, e_sle, e_sge, e_shl1, e_orI, e_andI, e_shr, wrapu, wrap8, tn1, nat1, ix_s, ix_z, st_s, st_z, fl_s, fl_z, fl1_s, fl1_z, map_s, map_z, true_and])
    exact ret_b (hA0 (by unfold hA; rw [decide_eq_false (by omega)]; rfl) _)
  simp (disch := first | omega | (simp only [List.length_take, List.length_drop, List.length_append, List.map_cons, List.map_nil, List.length_map, List.length_cons, List.length_nil, List.length_set, List.length_replicate]; omega) | (simp only [List.length_cons, List.length_nil, Nat.zero_add, Nat.reduceAdd])) only [go_sem, ↓reduceIte, Nat.reduceAdd, Int.reduceNeg, Int.reduceAdd, Int.reduceSub, Int.reduceMul, Int.reduceLT, Int.reduceLE, Int.reduceEq, Int.reduceToNat, Nat.reduceBEq, e_sle, e_sge, e_shl1, e_orI, e_andI, e_shr, wrapu, wrap8, tn1, nat1, ix_s, ix_z, st_s, st_z, fl_s, fl_z, fl1_s, fl1_z, map_s, map_z, true_and]
  refine br_if (fun hk3 => ?_) (fun hk3 => ?_)
  · repeat' (first | (with_reducible refine jn_in ?_) | (with_reducible refine cl_ok (by assumption) rfl ?_) | (with_reducible refine cl_okP (by assumption) rfl ?_) | (with_reducible refine br_if (fun hbr => ?_) (fun hbr => ?_)) | (with_reducible refine br_ifn (fun hbr => ?_) (fun hbr => ?_)) | (with_reducible refine br_nb (fun hbr => ?_) (fun hbr => ?_)) | (with_reducible refine br_b (fun hbr => ?_) (fun hbr => ?_)) | simp (disch := first | omega | (simp only [List.length_take, List.length_drop, List.length_append, List.map_cons, List.map_nil, List.length_map, List.length_cons, List.length_nil, List.length_set, List.length_replicate]; omega) | (simp only [List.length_cons, List.length_nil, Nat.zero_add, Nat.reduceAdd])) only [go_sem, ↓reduceIte, Nat.reduceAdd, Int.reduceNeg, Int.reduceAdd, Int.reduceSub, Int.reduceMul, Int.reduceLT, Int.reduceLE, Int.reduceEq, Int.reduceToNat, Nat.reduceBEq, e_sle, e_sge, e_shl1, e_orI, e_andI, e_shr, wrapu, wrap8, tn1, nat1, ix_s, ix_z, st_s, st_z, fl_s, fl_z, fl1_s, fl1_z, map_s, map_z, true_and])
    exact ret_b (hA0 (by unfold hA; rw [decide_eq_false (show ¬ ln ≤ 40 by omega), Bool.false_and, Bool.and_false]) _)
  simp (disch := first | omega | (simp only [List.length_take, List.length_drop, List.length_append, List.map_cons, List.map_nil, List.length_map, List.length_cons, List.length_nil, List.length_set, List.length_replicate]; omega) | (simp only [List.length_cons, List.length_nil, Nat.zero_add, Nat.reduceAdd])) only [go_sem, ↓reduceIte, Nat.reduceAdd, Int.reduceNeg, Int.reduceAdd, Int.reduceSub, Int.reduceMul, Int.reduceLT, Int.reduceLE, Int.reduceEq, Int.reduceToNat, Nat.reduceBEq, e_sle, e_sge, e_shl1, e_orI, e_andI, e_shr, wrapu, wrap8, tn1, nat1, ix_s, ix_z, st_s, st_z, fl_s, fl_z, fl1_s, fl1_z, map_s, map_z, true_and]
  refine cl_ok h3 rfl ?_
  cases hx3 : labB cl 3
  · repeat' (first | (with_reducible refine jn_in ?_) | (with_reducible refine cl_ok (by assumption) rfl ?_) | (with_reducible refine cl_okP (by assumption) rfl ?_) | (with_reducible refine br_if (fun hbr => ?_) (fun hbr => ?_)) | (with_reducible refine br_ifn (fun hbr => ?_) (fun hbr => ?_)) | (with_reducible refine br_nb (fun hbr => ?_) (fun hbr => ?_)) | (with_reducible refine br_b (fun hbr => ?_) (fun hbr => ?_)) | simp (disch := first | omega | (simp only [List.length_take, List.length_drop, List.length_append, List.map_cons, List.map_nil, List.length_map, List.length_cons, List.length_nil, List.length_set, List.length_replicate]; omega) | (simp only [List.length_cons, List.length_nil, Nat.zero_add, Nat.reduceAdd])) only [go_sem, ↓reduceIte, Nat.reduceAdd, Int.reduceNeg, Int.reduceAdd, Int.reduceSub, Int.reduceMul, Int.reduceLT, Int.reduceLE, Int.reduceEq, Int.reduceToNat, Nat.reduceBEq, e_sle, e_sge, e_shl1, e_orI, e_andI, e_shr, wrapu, wrap8, tn1, nat1, ix_s, ix_z, st_s, st_z, fl_s, fl_z, fl1_s, fl1_z, map_s, map_z, true_and])
    exact ret_b (hA0 (by unfold hA; rw [hx3, Bool.false_and, Bool.and_false, Bool.and_false]) _)
  simp (disch := first | omega | (simp only [List.length_take, List.length_drop, List.length_append, List.map_cons, List.map_nil, List.length_map, List.length_cons, List.length_nil, List.length_set, List.length_replicate]; omega) | (simp only [List.length_cons, List.length_nil, Nat.zero_add, Nat.reduceAdd])) only [go_sem, ↓reduceIte, Nat.reduceAdd, Int.reduceNeg, Int.reduceAdd, Int.reduceSub, Int.reduceMul, Int.reduceLT, Int.reduceLE, Int.reduceEq, Int.reduceToNat, Nat.reduceBEq, e_sle, e_sge, e_shl1, e_orI, e_andI, e_shr, wrapu, wrap8, tn1, nat1, ix_s, ix_z, st_s, st_z, fl_s, fl_z, fl1_s, fl1_z, map_s, map_z, true_and]
  refine cl_ok h4 rfl ?_
  cases hx4 : labB lv 20
  · repeat' (first | (with_reducible refine jn_in ?_) | (with_reducible refine cl_ok (by assumption) rfl ?_) | (with_reducible refine cl_okP (by assumption) rfl ?_) | (with_reducible refine br_if (fun hbr => ?_) (fun hbr => ?_)) | (with_reducible refine br_ifn (fun hbr => ?_) (fun hbr => ?_)) | (with_reducible refine br_nb (fun hbr => ?_) (fun hbr => ?_)) | (with_reducible refine br_b (fun hbr => ?_) (fun hbr => ?_)) | simp (disch := first | omega | (simp only [List.length_take, List.length_drop, List.length_append, List.map_cons, List.map_nil, List.length_map, List.length_cons, List.length_nil, List.length_set, List.length_replicate]; omega) | (simp only [List.length_cons, List.length_nil, Nat.zero_add, Nat.reduceAdd])) only [go_sem, ↓reduceIte, Nat.reduceAdd, Int.reduceNeg, Int.reduceAdd, Int.reduceSub, Int.reduceMul, Int.reduceLT, Int.reduceLE, Int.reduceEq, Int.reduceToNat, Nat.reduceBEq, e_sle, e_sge, e_shl1, e_orI, e_andI, e_shr, wrapu, wrap8, tn1, nat1, ix_s, ix_z, st_s, st_z, fl_s, fl_z, fl1_s, fl1_z, map_s, map_z, true_and])
    exact ret_b (hA0 (by unfold hA; rw [hx4, Bool.and_false, Bool.and_false, Bool.and_false]) _)
  have hA1 : hA k ln cl lv = true := by unfold hA; rw [hx3, hx4, decide_eq_true (show 0 ≤ k ∧ k ≤ 5 by omega), decide_eq_true (show ln ≤ 40 by omega)]; rfl
  rw [hA1, Bool.true_and]
  clear hA0 hx3 hx4
  simp (disch := first | omega | (simp only [List.length_take, List.length_drop, List.length_append, List.map_cons, List.map_nil, List.length_map, List.length_cons, List.length_nil, List.length_set, List.length_replicate]; omega) | (simp only [List.length_cons, List.length_nil, Nat.zero_add, Nat.reduceAdd])) only [go_sem, ↓reduceIte, Nat.reduceAdd, Int.reduceNeg, Int.reduceAdd, Int.reduceSub, Int.reduceMul, Int.reduceLT, Int.reduceLE, Int.reduceEq, Int.reduceToNat, Nat.reduceBEq, e_sle, e_sge, e_shl1, e_orI, e_andI, e_shr, wrapu, wrap8, tn1, nat1, ix_s, ix_z, st_s, st_z, fl_s, fl_z, fl1_s, fl1_z, map_s, map_z, true_and]
  refine jn_eq [.sc (.bool (!hB ln ns))] ?_ ?_
  · unfold hB
    repeat' (first | (with_reducible refine jn_in ?_) | (with_reducible refine cl_ok (by assumption) rfl ?_) | (with_reducible refine cl_okP (by assumption) rfl ?_) | (with_reducible refine br_if (fun hbr => ?_) (fun hbr => ?_)) | (with_reducible refine br_ifn (fun hbr => ?_) (fun hbr => ?_)) | (with_reducible refine br_nb (fun hbr => ?_) (fun hbr => ?_)) | (with_reducible refine br_b (fun hbr => ?_) (fun hbr => ?_)) | simp (disch := first | omega | (simp only [List.length_take, List.length_drop, List.length_append, List.map_cons, List.map_nil, List.length_map, List.length_cons, List.length_nil, List.length_set, List.length_replicate]; omega) | (simp only [List.length_cons, List.length_nil, Nat.zero_add, Nat.reduceAdd])) only [go_sem, ↓reduceIte, Nat.reduceAdd, Int.reduceNeg, Int.reduceAdd, Int.reduceSub, Int.reduceMul, Int.reduceLT, Int.reduceLE, Int.reduceEq, Int.reduceToNat, Nat.reduceBEq, e_sle, e_sge, e_shl1, e_orI, e_andI, e_shr, wrapu, wrap8, tn1, nat1, ix_s, ix_z, st_s, st_z, fl_s, fl_z, fl1_s, fl1_z, map_s, map_z, true_and])
    all_goals first
      | (refine bb ?_; simp [*]; done)
      | (refine bb ?_; simp_all; done)
      | (refine bb ?_; grind)
      | skip
  simp only [u_impl_shapeValid_j7]
  cases hxB : hB ln ns
  · repeat' (first | (with_reducible refine jn_in ?_) | (with_reducible refine cl_ok (by assumption) rfl ?_) | (with_reducible refine cl_okP (by assumption) rfl ?_) | (with_reducible refine br_if (fun hbr => ?_) (fun hbr => ?_)) | (with_reducible refine br_ifn (fun hbr => ?_) (fun hbr => ?_)) | (with_reducible refine br_nb (fun hbr => ?_) (fun hbr => ?_)) | (with_reducible refine br_b (fun hbr => ?_) (fun hbr => ?_)) | simp (disch := first | omega | (simp only [List.length_take, List.length_drop, List.length_append, List.map_cons, List.map_nil, List.length_map, List.length_cons, List.length_nil, List.length_set, List.length_replicate]; omega) | (simp only [List.length_cons, List.length_nil, Nat.zero_add, Nat.reduceAdd])) only [go_sem, ↓reduceIte, Nat.reduceAdd, Int.reduceNeg, Int.reduceAdd, Int.reduceSub, Int.reduceMul, Int.reduceLT, Int.reduceLE, Int.reduceEq, Int.reduceToNat, Nat.reduceBEq, e_sle, e_sge, e_shl1, e_orI, e_andI, e_shr, wrapu, wrap8, tn1, nat1, ix_s, ix_z, st_s, st_z, fl_s, fl_z, fl1_s, fl1_z, map_s, map_z, true_and])
    all_goals exact ret_b rfl
  rw [Bool.true_and]
  simp (disch := first | omega | (simp only [List.length_take, List.length_drop, List.length_append, List.map_cons, List.map_nil, List.length_map, List.length_cons, List.length_nil, List.length_set, List.length_replicate]; omega) | (simp only [List.length_cons, List.length_nil, Nat.zero_add, Nat.reduceAdd])) only [go_sem, ↓reduceIte, Nat.reduceAdd, Int.reduceNeg, Int.reduceAdd, Int.reduceSub, Int.reduceMul, Int.reduceLT, Int.reduceLE, Int.reduceEq, Int.reduceToNat, Nat.reduceBEq, e_sle, e_sge, e_shl1, e_orI, e_andI, e_shr, wrapu, wrap8, tn1, nat1, ix_s, ix_z, st_s, st_z, fl_s, fl_z, fl1_s, fl1_z, map_s, map_z, true_and]
  refine lp (fun i : Nat => [.sc (.int .i64 i)]) (fun i => i ≤ ns.length ∧ allB (nmP ns) i = true) (fun i => ns.length - i) 0 rfl ⟨Nat.zero_le _, rfl⟩ ?_
  rintro i ⟨hi, ha⟩
  simp only [u_impl_shapeValid_l6]
  by_cases hlt : i < ns.length
  · simp (disch := first | omega | (simp only [List.length_take, List.length_drop, List.length_append, List.map_cons, List.map_nil, List.length_map, List.length_cons, List.length_nil, List.length_set, List.length_replicate]; omega) | (simp only [List.length_cons, List.length_nil, Nat.zero_add, Nat.reduceAdd])) only [go_sem, ↓reduceIte, Nat.reduceAdd, Int.reduceNeg, Int.reduceAdd, Int.reduceSub, Int.reduceMul, Int.reduceLT, Int.reduceLE, Int.reduceEq, Int.reduceToNat, Nat.reduceBEq, e_sle, e_sge, e_shl1, e_orI, e_andI, e_shr, wrapu, wrap8, tn1, nat1, ix_s, ix_z, st_s, st_z, fl_s, fl_z, fl1_s, fl1_z, map_s, map_z, true_and]
    refine br_if (fun hx => ?_) (fun hx => absurd (by omega) hx)
    repeat' (first | (with_reducible refine jn_in ?_) | (with_reducible refine cl_ok (by assumption) rfl ?_) | (with_reducible refine cl_okP (by assumption) rfl ?_) | (with_reducible refine br_if (fun hbr => ?_) (fun hbr => ?_)) | (with_reducible refine br_ifn (fun hbr => ?_) (fun hbr => ?_)) | (with_reducible refine br_nb (fun hbr => ?_) (fun hbr => ?_)) | (with_reducible refine br_b (fun hbr => ?_) (fun hbr => ?_)) | simp (disch := first | omega | (simp only [List.length_take, List.length_drop, List.length_append, List.map_cons, List.map_nil, List.length_map, List.length_cons, List.length_nil, List.length_set, List.length_replicate]; omega) | (simp only [List.length_cons, List.length_nil, Nat.zero_add, Nat.reduceAdd])) only [go_sem, ↓reduceIte, Nat.reduceAdd, Int.reduceNeg, Int.reduceAdd, Int.reduceSub, Int.reduceMul, Int.reduceLT, Int.reduceLE, Int.reduceEq, Int.reduceToNat, Nat.reduceBEq, e_sle, e_sge, e_shl1, e_orI, e_andI, e_shr, wrapu, wrap8, tn1, nat1, ix_s, ix_z, st_s, st_z, fl_s, fl_z, fl1_s, fl1_z, map_s, map_z, true_and])
    all_goals first
      | omega
      | exact ret_b (by rw [allB_no (p := nmP ns) hlt (by (first | (simp [-List.getD_eq_getElem?_getD, nmP, *]; done) | (simp_all [-List.getD_eq_getElem?_getD, nmP]; done) | (simp [-List.getD_eq_getElem?_getD, nmP, *]; omega) | (simp_all [-List.getD_eq_getElem?_getD, nmP]; omega) | omega)), Bool.false_and])
      | exact ⟨i + 1, rfl, ⟨by omega, allB_step ha (by (first | (simp [-List.getD_eq_getElem?_getD, nmP, *]; done) | (simp_all [-List.getD_eq_getElem?_getD, nmP]; done) | (simp [-List.getD_eq_getElem?_getD, nmP, *]; omega) | (simp_all [-List.getD_eq_getElem?_getD, nmP]; omega) | omega))⟩, by omega⟩
      | skip
  obtain rfl : i = ns.length := by omega
  rw [ha, Bool.true_and]
  simp (disch := first | omega | (simp only [List.length_take, List.length_drop, List.length_append, List.map_cons, List.map_nil, List.length_map, List.length_cons, List.length_nil, List.length_set, List.length_replicate]; omega) | (simp only [List.length_cons, List.length_nil, Nat.zero_add, Nat.reduceAdd])) only [go_sem, ↓reduceIte, Nat.reduceAdd, Int.reduceNeg, Int.reduceAdd, Int.reduceSub, Int.reduceMul, Int.reduceLT, Int.reduceLE, Int.reduceEq, Int.reduceToNat, Nat.reduceBEq, e_sle, e_sge, e_shl1, e_orI, e_andI, e_shr, wrapu, wrap8, tn1, nat1, ix_s, ix_z, st_s, st_z, fl_s, fl_z, fl1_s, fl1_z, map_s, map_z, true_and]
  refine br_if (fun hx => absurd hx (by omega)) (fun _ => ?_)
  simp (disch := first | omega | (simp only [List.length_take, List.length_drop, List.length_append, List.map_cons, List.map_nil, List.length_map, List.length_cons, List.length_nil, List.length_set, List.length_replicate]; omega) | (simp only [List.length_cons, List.length_nil, Nat.zero_add, Nat.reduceAdd])) only [go_sem, ↓reduceIte, Nat.reduceAdd, Int.reduceNeg, Int.reduceAdd, Int.reduceSub, Int.reduceMul, Int.reduceLT, Int.reduceLE, Int.reduceEq, Int.reduceToNat, Nat.reduceBEq, e_sle, e_sge, e_shl1, e_orI, e_andI, e_shr, wrapu, wrap8, tn1, nat1, ix_s, ix_z, st_s, st_z, fl_s, fl_z, fl1_s, fl1_z, map_s, map_z, true_and]
  refine jn_eq [.sc (.bool (!hC k ps.length lv.length))] ?_ ?_
  · unfold hC
    repeat' (first | (with_reducible refine jn_in ?_) | (with_reducible refine cl_ok (by assumption) rfl ?_) | (with_reducible refine cl_okP (by assumption) rfl ?_) | (with_reducible refine br_if (fun hbr => ?_) (fun hbr => ?_)) | (with_reducible refine br_ifn (fun hbr => ?_) (fun hbr => ?_)) | (with_reducible refine br_nb (fun hbr => ?_) (fun hbr => ?_)) | (with_reducible refine br_b (fun hbr => ?_) (fun hbr => ?_)) | simp (disch := first | omega | (simp only [List.length_take, List.length_drop, List.length_append, List.map_cons, List.map_nil, List.length_map, List.length_cons, List.length_nil, List.length_set, List.length_replicate]; omega) | (simp only [List.length_cons, List.length_nil, Nat.zero_add, Nat.reduceAdd])) only [go_sem, ↓reduceIte, Nat.reduceAdd, Int.reduceNeg, Int.reduceAdd, Int.reduceSub, Int.reduceMul, Int.reduceLT, Int.reduceLE, Int.reduceEq, Int.reduceToNat, Nat.reduceBEq, e_sle, e_sge, e_shl1, e_orI, e_andI, e_shr, wrapu, wrap8, tn1, nat1, ix_s, ix_z, st_s, st_z, fl_s, fl_z, fl1_s, fl1_z, map_s, map_z, true_and])
    all_goals first
      | (refine bb ?_; simp [*]; done)
      | (refine bb ?_; simp_all; done)
      | (refine bb ?_; grind)
      | skip
  simp only [u_impl_shapeValid_j5]
  cases hxC : hC k ps.length lv.length
  · repeat' (first | (with_reducible refine jn_in ?_) | (with_reducible refine cl_ok (by assumption) rfl ?_) | (with_reducible refine cl_okP (by assumption) rfl ?_) | (with_reducible refine br_if (fun hbr => ?_) (fun hbr => ?_)) | (with_reducible refine br_ifn (fun hbr => ?_) (fun hbr => ?_)) | (with_reducible refine br_nb (fun hbr => ?_) (fun hbr => ?_)) | (with_reducible refine br_b (fun hbr => ?_) (fun hbr => ?_)) | simp (disch := first | omega | (simp only [List.length_take, List.length_drop, List.length_append, List.map_cons, List.map_nil, List.length_map, List.length_cons, List.length_nil, List.length_set, List.length_replicate]; omega) | (simp only [List.length_cons, List.length_nil, Nat.zero_add, Nat.reduceAdd])) only [go_sem, ↓reduceIte, Nat.reduceAdd, Int.reduceNeg, Int.reduceAdd, Int.reduceSub, Int.reduceMul, Int.reduceLT, Int.reduceLE, Int.reduceEq, Int.reduceToNat, Nat.reduceBEq, e_sle, e_sge, e_shl1, e_orI, e_andI, e_shr, wrapu, wrap8, tn1, nat1, ix_s, ix_z, st_s, st_z, fl_s, fl_z, fl1_s, fl1_z, map_s, map_z, true_and])
    all_goals exact ret_b rfl
  rw [Bool.true_and]
  simp (disch := first | omega | (simp only [List.length_take, List.length_drop, List.length_append, List.map_cons, List.map_nil, List.length_map, List.length_cons, List.length_nil, List.length_set, List.length_replicate]; omega) | (simp only [List.length_cons, List.length_nil, Nat.zero_add, Nat.reduceAdd])) only [go_sem, ↓reduceIte, Nat.reduceAdd, Int.reduceNeg, Int.reduceAdd, Int.reduceSub, Int.reduceMul, Int.reduceLT, Int.reduceLE, Int.reduceEq, Int.reduceToNat, Nat.reduceBEq, e_sle, e_sge, e_shl1, e_orI, e_andI, e_shr, wrapu, wrap8, tn1, nat1, ix_s, ix_z, st_s, st_z, fl_s, fl_z, fl1_s, fl1_z, map_s, map_z, true_and]
  refine jn_eq [.sc (.bool (!hD k c e))] ?_ ?_
  · unfold hD
    repeat' (first | (with_reducible refine jn_in ?_) | (with_reducible refine cl_ok (by assumption) rfl ?_) | (with_reducible refine cl_okP (by assumption) rfl ?_) | (with_reducible refine br_if (fun hbr => ?_) (fun hbr => ?_)) | (with_reducible refine br_ifn (fun hbr => ?_) (fun hbr => ?_)) | (with_reducible refine br_nb (fun hbr => ?_) (fun hbr => ?_)) | (with_reducible refine br_b (fun hbr => ?_) (fun hbr => ?_)) | simp (disch := first | omega | (simp only [List.length_take, List.length_drop, List.length_append, List.map_cons, List.map_nil, List.length_map, List.length_cons, List.length_nil, List.length_set, List.length_replicate]; omega) | (simp only [List.length_cons, List.length_nil, Nat.zero_add, Nat.reduceAdd])) only [go_sem, ↓reduceIte, Nat.reduceAdd, Int.reduceNeg, Int.reduceAdd, Int.reduceSub, Int.reduceMul, Int.reduceLT, Int.reduceLE, Int.reduceEq, Int.reduceToNat, Nat.reduceBEq, e_sle, e_sge, e_shl1, e_orI, e_andI, e_shr, wrapu, wrap8, tn1, nat1, ix_s, ix_z, st_s, st_z, fl_s, fl_z, fl1_s, fl1_z, map_s, map_z, true_and])
    all_goals first
      | (refine bb ?_; simp [*]; done)
      | (refine bb ?_; simp_all; done)
      | (refine bb ?_; grind)
      | skip
  simp only [u_impl_shapeValid_j4]
  cases hxD : hD k c e
  · repeat' (first | (with_reducible refine jn_in ?_) | (with_reducible refine cl_ok (by assumption) rfl ?_) | (with_reducible refine cl_okP (by assumption) rfl ?_) | (with_reducible refine br_if (fun hbr => ?_) (fun hbr => ?_)) | (with_reducible refine br_ifn (fun hbr => ?_) (fun hbr => ?_)) | (with_reducible refine br_nb (fun hbr => ?_) (fun hbr => ?_)) | (with_reducible refine br_b (fun hbr => ?_) (fun hbr => ?_)) | simp (disch := first | omega | (simp only [List.length_take, List.length_drop, List.length_append, List.map_cons, List.map_nil, List.length_map, List.length_cons, List.length_nil, List.length_set, List.length_replicate]; omega) | (simp only [List.length_cons, List.length_nil, Nat.zero_add, Nat.reduceAdd])) only [go_sem, ↓reduceIte, Nat.reduceAdd, Int.reduceNeg, Int.reduceAdd, Int.reduceSub, Int.reduceMul, Int.reduceLT, Int.reduceLE, Int.reduceEq, Int.reduceToNat, Nat.reduceBEq, e_sle, e_sge, e_shl1, e_orI, e_andI, e_shr, wrapu, wrap8, tn1, nat1, ix_s, ix_z, st_s, st_z, fl_s, fl_z, fl1_s, fl1_z, map_s, map_z, true_and])
    all_goals exact ret_b rfl
  rw [Bool.true_and]
  simp (disch := first | omega | (simp only [List.length_take, List.length_drop, List.length_append, List.map_cons, List.map_nil, List.length_map, List.length_cons, List.length_nil, List.length_set, List.length_replicate]; omega) | (simp only [List.length_cons, List.length_nil, Nat.zero_add, Nat.reduceAdd])) only [go_sem, ↓reduceIte, Nat.reduceAdd, Int.reduceNeg, Int.reduceAdd, Int.reduceSub, Int.reduceMul, Int.reduceLT, Int.reduceLE, Int.reduceEq, Int.reduceToNat, Nat.reduceBEq, e_sle, e_sge, e_shl1, e_orI, e_andI, e_shr, wrapu, wrap8, tn1, nat1, ix_s, ix_z, st_s, st_z, fl_s, fl_z, fl1_s, fl1_z, map_s, map_z, true_and]
  refine jn_eq [.sc (.bool (!hE k c e its.length ns.length))] ?_ ?_
  · unfold hE
    repeat' (first | (with_reducible refine jn_in ?_) | (with_reducible refine cl_ok (by assumption) rfl ?_) | (with_reducible refine cl_okP (by assumption) rfl ?_) | (with_reducible refine br_if (fun hbr => ?_) (fun hbr => ?_)) | (with_reducible refine br_ifn (fun hbr => ?_) (fun hbr => ?_)) | (with_reducible refine br_nb (fun hbr => ?_) (fun hbr => ?_)) | (with_reducible refine br_b (fun hbr => ?_) (fun hbr => ?_)) | simp (disch := first | omega | (simp only [List.length_take, List.length_drop, List.length_append, List.map_cons, List.map_nil, List.length_map, List.length_cons, List.length_nil, List.length_set, List.length_replicate]; omega) | (simp only [List.length_cons, List.length_nil, Nat.zero_add, Nat.reduceAdd])) only [go_sem, ↓reduceIte, Nat.reduceAdd, Int.reduceNeg, Int.reduceAdd, Int.reduceSub, Int.reduceMul, Int.reduceLT, Int.reduceLE, Int.reduceEq, Int.reduceToNat, Nat.reduceBEq, e_sle, e_sge, e_shl1, e_orI, e_andI, e_shr, wrapu, wrap8, tn1, nat1, ix_s, ix_z, st_s, st_z, fl_s, fl_z, fl1_s, fl1_z, map_s, map_z, true_and])
    all_goals first
      | (refine bb ?_; simp [*]; done)
      | (refine bb ?_; simp_all; done)
      | (refine bb ?_; grind)
      | (refine bb ?_
         rw [decide_eq_true (show k = 5 by assumption), decide_eq_true (show its.length = 0 by omega), decide_eq_true (show ns.length = 0 by omega), decide_eq_true (show -999 ≤ c ∧ c ≤ 99999 by omega), show decide (0 ≤ e ∧ e ≤ 99999) = !decide (99999 < e) from by rw [Bool.eq_iff_iff]; simp; omega]
         simp; done)
      | skip
  simp only [u_impl_shapeValid_j3]
  cases hxE : hE k c e its.length ns.length
  · repeat' (first | (with_reducible refine jn_in ?_) | (with_reducible refine cl_ok (by assumption) rfl ?_) | (with_reducible refine cl_okP (by assumption) rfl ?_) | (with_reducible refine br_if (fun hbr => ?_) (fun hbr => ?_)) | (with_reducible refine br_ifn (fun hbr => ?_) (fun hbr => ?_)) | (with_reducible refine br_nb (fun hbr => ?_) (fun hbr => ?_)) | (with_reducible refine br_b (fun hbr => ?_) (fun hbr => ?_)) | simp (disch := first | omega | (simp only [List.length_take, List.length_drop, List.length_append, List.map_cons, List.map_nil, List.length_map, List.length_cons, List.length_nil, List.length_set, List.length_replicate]; omega) | (simp only [List.length_cons, List.length_nil, Nat.zero_add, Nat.reduceAdd])) only [go_sem, ↓reduceIte, Nat.reduceAdd, Int.reduceNeg, Int.reduceAdd, Int.reduceSub, Int.reduceMul, Int.reduceLT, Int.reduceLE, Int.reduceEq, Int.reduceToNat, Nat.reduceBEq, e_sle, e_sge, e_shl1, e_orI, e_andI, e_shr, wrapu, wrap8, tn1, nat1, ix_s, ix_z, st_s, st_z, fl_s, fl_z, fl1_s, fl1_z, map_s, map_z, true_and])
    all_goals exact ret_b rfl
  rw [Bool.true_and]
  simp (disch := first | omega | (simp only [List.length_take, List.length_drop, List.length_append, List.map_cons, List.map_nil, List.length_map, List.length_cons, List.length_nil, List.length_set, List.length_replicate]; omega) | (simp only [List.length_cons, List.length_nil, Nat.zero_add, Nat.reduceAdd])) only [go_sem, ↓reduceIte, Nat.reduceAdd, Int.reduceNeg, Int.reduceAdd, Int.reduceSub, Int.reduceMul, Int.reduceLT, Int.reduceLE, Int.reduceEq, Int.reduceToNat, Nat.reduceBEq, e_sle, e_sge, e_shl1, e_orI, e_andI, e_shr, wrapu, wrap8, tn1, nat1, ix_s, ix_z, st_s, st_z, fl_s, fl_z, fl1_s, fl1_z, map_s, map_z, true_and]
  refine jn_eq [.sc (.bool (!hF k its.length cl.length))] ?_ ?_
  · unfold hF
    repeat' (first | (with_reducible refine jn_in ?_) | (with_reducible refine cl_ok (by assumption) rfl ?_) | (with_reducible refine cl_okP (by assumption) rfl ?_) | (with_reducible refine br_if (fun hbr => ?_) (fun hbr => ?_)) | (with_reducible refine br_ifn (fun hbr => ?_) (fun hbr => ?_)) | (with_reducible refine br_nb (fun hbr => ?_) (fun hbr => ?_)) | (with_reducible refine br_b (fun hbr => ?_) (fun hbr => ?_)) | simp (disch := first | omega | (simp only [List.length_take, List.length_drop, List.length_append, List.map_cons, List.map_nil, List.length_map, List.length_cons, List.length_nil, List.length_set, List.length_replicate]; omega) | (simp only [List.length_cons, List.length_nil, Nat.zero_add, Nat.reduceAdd])) only [go_sem, ↓reduceIte, Nat.reduceAdd, Int.reduceNeg, Int.reduceAdd, Int.reduceSub, Int.reduceMul, Int.reduceLT, Int.reduceLE, Int.reduceEq, Int.reduceToNat, Nat.reduceBEq, e_sle, e_sge, e_shl1, e_orI, e_andI, e_shr, wrapu, wrap8, tn1, nat1, ix_s, ix_z, st_s, st_z, fl_s, fl_z, fl1_s, fl1_z, map_s, map_z, true_and])
    all_goals first
      | (refine bb ?_; simp [*]; done)
      | (refine bb ?_; simp_all; done)
      | (refine bb ?_; grind)
      | (refine bb ?_
         rw [decide_eq_true (show k = 0 by assumption), decide_eq_true (show its.length = 0 by omega), dec1]
         simp; done)
      | skip
  simp only [u_impl_shapeValid_j2]
  cases hxF : hF k its.length cl.length
  · repeat' (first | (with_reducible refine jn_in ?_) | (with_reducible refine cl_ok (by assumption) rfl ?_) | (with_reducible refine cl_okP (by assumption) rfl ?_) | (with_reducible refine br_if (fun hbr => ?_) (fun hbr => ?_)) | (with_reducible refine br_ifn (fun hbr => ?_) (fun hbr => ?_)) | (with_reducible refine br_nb (fun hbr => ?_) (fun hbr => ?_)) | (with_reducible refine br_b (fun hbr => ?_) (fun hbr => ?_)) | simp (disch := first | omega | (simp only [List.length_take, List.length_drop, List.length_append, List.map_cons, List.map_nil, List.length_map, List.length_cons, List.length_nil, List.length_set, List.length_replicate]; omega) | (simp only [List.length_cons, List.length_nil, Nat.zero_add, Nat.reduceAdd])) only [go_sem, ↓reduceIte, Nat.reduceAdd, Int.reduceNeg, Int.reduceAdd, Int.reduceSub, Int.reduceMul, Int.reduceLT, Int.reduceLE, Int.reduceEq, Int.reduceToNat, Nat.reduceBEq, e_sle, e_sge, e_shl1, e_orI, e_andI, e_shr, wrapu, wrap8, tn1, nat1, ix_s, ix_z, st_s, st_z, fl_s, fl_z, fl1_s, fl1_z, map_s, map_z, true_and])
    all_goals exact ret_b rfl
  rw [Bool.true_and]
  simp (disch := first | omega | (simp only [List.length_take, List.length_drop, List.length_append, List.map_cons, List.map_nil, List.length_map, List.length_cons, List.length_nil, List.length_set, List.length_replicate]; omega) | (simp only [List.length_cons, List.length_nil, Nat.zero_add, Nat.reduceAdd])) only [go_sem, ↓reduceIte, Nat.reduceAdd, Int.reduceNeg, Int.reduceAdd, Int.reduceSub, Int.reduceMul, Int.reduceLT, Int.reduceLE, Int.reduceEq, Int.reduceToNat, Nat.reduceBEq, e_sle, e_sge, e_shl1, e_orI, e_andI, e_shr, wrapu, wrap8, tn1, nat1, ix_s, ix_z, st_s, st_z, fl_s, fl_z, fl1_s, fl1_z, map_s, map_z, true_and]
  refine lp (fun i : Nat => [.sc (.int .i64 i)]) (fun i => i ≤ its.length ∧ allB (fun j => iiB k lv.length (its.getD j default)) i = true) (fun i => its.length - i) 0 rfl ⟨Nat.zero_le _, rfl⟩ ?_
  rintro i ⟨hi2, ha2⟩
  simp only [u_impl_shapeValid_l1]
  by_cases hlt2 : i < its.length
  · have h8i := h8 i
    have h9i := h9 i
    cases hat : atB k
    · rw [hat] at h0
      repeat' (first | (with_reducible refine jn_in ?_) | (with_reducible refine cl_ok (by assumption) rfl ?_) | (with_reducible refine cl_okP (by assumption) rfl ?_) | (with_reducible refine br_if (fun hbr => ?_) (fun hbr => ?_)) | (with_reducible refine br_ifn (fun hbr => ?_) (fun hbr => ?_)) | (with_reducible refine br_nb (fun hbr => ?_) (fun hbr => ?_)) | (with_reducible refine br_b (fun hbr => ?_) (fun hbr => ?_)) | simp (disch := first | omega | (simp only [List.length_take, List.length_drop, List.length_append, List.map_cons, List.map_nil, List.length_map, List.length_cons, List.length_nil, List.length_set, List.length_replicate]; omega) | (simp only [List.length_cons, List.length_nil, Nat.zero_add, Nat.reduceAdd])) only [go_sem, ↓reduceIte, Nat.reduceAdd, Int.reduceNeg, Int.reduceAdd, Int.reduceSub, Int.reduceMul, Int.reduceLT, Int.reduceLE, Int.reduceEq, Int.reduceToNat, Nat.reduceBEq, e_sle, e_sge, e_shl1, e_orI, e_andI, e_shr, wrapu, wrap8, tn1, nat1, ix_s, ix_z, st_s, st_z, fl_s, fl_z, fl1_s, fl1_z, map_s, map_z, u_impl_shapeValid_j0, ix_it, encIt])
      all_goals first
        | omega
        | exact ret_b (by rw [allB_no (p := fun j => iiB k lv.length (its.getD j default)) hlt2 (by unfold iiB; rw [hat]; rfl)])
        | skip
    · rw [hat] at h0
      repeat' (first | (with_reducible refine jn_in ?_) | (with_reducible refine cl_ok (by assumption) rfl ?_) | (with_reducible refine cl_okP (by assumption) rfl ?_) | (with_reducible refine br_if (fun hbr => ?_) (fun hbr => ?_)) | (with_reducible refine br_ifn (fun hbr => ?_) (fun hbr => ?_)) | (with_reducible refine br_nb (fun hbr => ?_) (fun hbr => ?_)) | (with_reducible refine br_b (fun hbr => ?_) (fun hbr => ?_)) | simp (disch := first | omega | (simp only [List.length_take, List.length_drop, List.length_append, List.map_cons, List.map_nil, List.length_map, List.length_cons, List.length_nil, List.length_set, List.length_replicate]; omega) | (simp only [List.length_cons, List.length_nil, Nat.zero_add, Nat.reduceAdd])) only [go_sem, ↓reduceIte, Nat.reduceAdd, Int.reduceNeg, Int.reduceAdd, Int.reduceSub, Int.reduceMul, Int.reduceLT, Int.reduceLE, Int.reduceEq, Int.reduceToNat, Nat.reduceBEq, e_sle, e_sge, e_shl1, e_orI, e_andI, e_shr, wrapu, wrap8, tn1, nat1, ix_s, ix_z, st_s, st_z, fl_s, fl_z, fl1_s, fl1_z, map_s, map_z, u_impl_shapeValid_j0, ix_it, encIt])
      all_goals first
        | omega
        | exact ret_b (by rw [allB_no (p := fun j => iiB k lv.length (its.getD j default)) hlt2 (by unfold iiB; rw [hat]; (first | (simp [-List.getD_eq_getElem?_getD, true_and, *]; done) | (simp_all [-List.getD_eq_getElem?_getD, true_and]; done) | (simp [-List.getD_eq_getElem?_getD, true_and, *]; omega) | (simp_all [-List.getD_eq_getElem?_getD, true_and]; omega) | omega))])
        | exact ret_b (by rw [allB_no (p := fun j => iiB k lv.length (its.getD j default)) hlt2 (by grind [iiB])])
        | exact ⟨i + 1, rfl, ⟨by omega, allB_step ha2 (by unfold iiB; rw [hat]; (first | (simp [-List.getD_eq_getElem?_getD, true_and, *]; done) | (simp_all [-List.getD_eq_getElem?_getD, true_and]; done) | (simp [-List.getD_eq_getElem?_getD, true_and, *]; omega) | (simp_all [-List.getD_eq_getElem?_getD, true_and]; omega) | omega))⟩, by omega⟩
        | exact ⟨i + 1, rfl, ⟨by omega, allB_step ha2 (by grind [iiB])⟩, by omega⟩
        | skip
  obtain rfl : i = its.length := by omega
  repeat' (first | (with_reducible refine jn_in ?_) | (with_reducible refine cl_ok (by assumption) rfl ?_) | (with_reducible refine cl_okP (by assumption) rfl ?_) | (with_reducible refine br_if (fun hbr => ?_) (fun hbr => ?_)) | (with_reducible refine br_ifn (fun hbr => ?_) (fun hbr => ?_)) | (with_reducible refine br_nb (fun hbr => ?_) (fun hbr => ?_)) | (with_reducible refine br_b (fun hbr => ?_) (fun hbr => ?_)) | simp (disch := first | omega | (simp only [List.length_take, List.length_drop, List.length_append, List.map_cons, List.map_nil, List.length_map, List.length_cons, List.length_nil, List.length_set, List.length_replicate]; omega) | (simp only [List.length_cons, List.length_nil, Nat.zero_add, Nat.reduceAdd])) only [go_sem, ↓reduceIte, Nat.reduceAdd, Int.reduceNeg, Int.reduceAdd, Int.reduceSub, Int.reduceMul, Int.reduceLT, Int.reduceLE, Int.reduceEq, Int.reduceToNat, Nat.reduceBEq, e_sle, e_sge, e_shl1, e_orI, e_andI, e_shr, wrapu, wrap8, tn1, nat1, ix_s, ix_z, st_s, st_z, fl_s, fl_z, fl1_s, fl1_z, map_s, map_z, true_and])
  all_goals first | omega | exact ret_b ha2 | skip
def IPv (n : Nat) : Prop := ∀ v, wtV v ≤ 1048576 → dpB n v = true → Meets Try.prog 51 [(true, encV v)] [(false, [.sc (.bool (vcB n v))], true)]
theorem iPv_step (n : Nat) (ih : ∀ m, n = m + 1 → IPv m) : IPv n := by
  intro v hw hd
  have hv : ∃ k its ps ns cl lv c e, v = .mk k its ps ns cl lv c e := by
    obtain ⟨k, its, ps, ns, cl, lv, c, e⟩ := v
    exact ⟨_, _, _, _, _, _, _, _, rfl⟩
  obtain ⟨k, its, ps, ns, cl, lv, c, e, hve⟩ := hv
  subst hve
  have hb := bdV hw
  have h1 := iShp_m _ k its ps ns cl lv c e rfl hb
  obtain ⟨b1, b2, b3, b4, b5, b6⟩ := hb
  rw [vcB_mk]
  generalize shB k its ps.length ns cl lv c e = sb at *
  simp only [encV, encV_mk, encSs] at h1 ⊢
  refine meets_upf Try.func51 u_impl_partsValid_g rfl ?_; simp only [u_impl_partsValid_u]
  simp (disch := first | omega | (simp only [List.length_take, List.length_drop, List.length_append, List.map_cons, List.map_nil, List.length_map, List.length_cons, List.length_nil, List.length_set, List.length_replicate]; omega) | (simp only [List.length_cons, List.length_nil, Nat.zero_add, Nat.reduceAdd])) only [go_sem, ↓reduceIte, Nat.reduceAdd, Int.reduceNeg, Int.reduceAdd, Int.reduceSub, Int.reduceMul, Int.reduceLT, Int.reduceLE, Int.reduceEq, Int.reduceToNat, Nat.reduceBEq, e_sle, e_sge, e_shl1, e_orI, e_andI, e_shr, wrapu, wrap8, tn1, nat1, ix_s, ix_z, st_s, st_z, fl_s, fl_z, fl1_s, fl1_z, map_s, map_z, true_and]
  refine cl_ok h1 rfl ?_
  cases sb
  · repeat' (first | (with_reducible refine jn_in ?_) | (with_reducible refine cl_ok (by assumption) rfl ?_) | (with_reducible refine cl_okP (by assumption) rfl ?_) | (with_reducible refine br_if (fun hbr => ?_) (fun hbr => ?_)) | (with_reducible refine br_ifn (fun hbr => ?_) (fun hbr => ?_)) | (with_reducible refine br_nb (fun hbr => ?_) (fun hbr => ?_)) | (with_reducible refine br_b (fun hbr => ?_) (fun hbr => ?_)) | simp (disch := first | omega | (simp only [List.length_take, List.length_drop, List.length_append, List.map_cons, List.map_nil, List.length_map, List.length_cons, List.length_nil, List.length_set, List.length_replicate]; omega) | (simp only [List.length_cons, List.length_nil, Nat.zero_add, Nat.reduceAdd])) only [go_sem, ↓reduceIte, Nat.reduceAdd, Int.reduceNeg, Int.reduceAdd, Int.reduceSub, Int.reduceMul, Int.reduceLT, Int.reduceLE, Int.reduceEq, Int.reduceToNat, Nat.reduceBEq, e_sle, e_sge, e_shl1, e_orI, e_andI, e_shr, wrapu, wrap8, tn1, nat1, ix_s, ix_z, st_s, st_z, fl_s, fl_z, fl1_s, fl1_z, map_s, map_z, true_and])
    all_goals exact ret_b rfl
  rw [Bool.true_and]
  simp (disch := first | omega | (simp only [List.length_take, List.length_drop, List.length_append, List.map_cons, List.map_nil, List.length_map, List.length_cons, List.length_nil, List.length_set, List.length_replicate]; omega) | (simp only [List.length_cons, List.length_nil, Nat.zero_add, Nat.reduceAdd])) only [go_sem, ↓reduceIte, Nat.reduceAdd, Int.reduceNeg, Int.reduceAdd, Int.reduceSub, Int.reduceMul, Int.reduceLT, Int.reduceLE, Int.reduceEq, Int.reduceToNat, Nat.reduceBEq, e_sle, e_sge, e_shl1, e_orI, e_andI, e_shr, wrapu, wrap8, tn1, nat1, ix_s, ix_z, st_s, st_z, fl_s, fl_z, fl1_s, fl1_z, map_s, map_z, true_and]
  refine lp (fun i : Nat => [.sc (.int .i64 i)]) (fun i => i ≤ ps.length ∧ allB (kidB n ps) i = true) (fun i => ps.length - i) 0 rfl ⟨Nat.zero_le _, rfl⟩ ?_
  rintro i ⟨hi2, ha2⟩
  simp only [u_impl_partsValid_l0]
  by_cases hlt2 : i < ps.length
  · rcases n with _ | m
    · rw [dpB] at hd
      exact absurd (allB_iff.1 hd i hlt2) (by decide)
    · have hm := getD_mem hlt2
      rw [dpB] at hd
      have hc := ih m rfl _ (b6 _ hm) (allB_iff.1 hd i hlt2)
      have hk : kidB (m + 1) ps i = vcB m (ps.getD i default) := rfl
      have hix : eIdx 8 (some (.sl 34 8 (ps.map encV))) (some (.sc (.int .i64 (i : Int)))) = some (encV (ps.getD i default)) := by rw [ix_V (by omega) (by omega), Int.toNat_natCast]
      generalize ps.getD i default = x at hc hix hk
      generalize vcB m x = b at hc hk
      obtain ⟨x0, x1, x2, x3, x4, x5, x6, x7⟩ := x
      simp only [encV, encV_mk, encSs] at hc hix
      cases b
      · repeat' (first | (with_reducible refine jn_in ?_) | (with_reducible refine cl_ok (by assumption) rfl ?_) | (with_reducible refine cl_okP (by assumption) rfl ?_) | (with_reducible refine br_if (fun hbr => ?_) (fun hbr => ?_)) | (with_reducible refine br_ifn (fun hbr => ?_) (fun hbr => ?_)) | (with_reducible refine br_nb (fun hbr => ?_) (fun hbr => ?_)) | (with_reducible refine br_b (fun hbr => ?_) (fun hbr => ?_)) | simp (disch := first | omega | (simp only [List.length_take, List.length_drop, List.length_append, List.map_cons, List.map_nil, List.length_map, List.length_cons, List.length_nil, List.length_set, List.length_replicate]; omega) | (simp only [List.length_cons, List.length_nil, Nat.zero_add, Nat.reduceAdd])) only [go_sem, ↓reduceIte, Nat.reduceAdd, Int.reduceNeg, Int.reduceAdd, Int.reduceSub, Int.reduceMul, Int.reduceLT, Int.reduceLE, Int.reduceEq, Int.reduceToNat, Nat.reduceBEq, e_sle, e_sge, e_shl1, e_orI, e_andI, e_shr, wrapu, wrap8, tn1, nat1, ix_s, ix_z, st_s, st_z, fl_s, fl_z, fl1_s, fl1_z, map_s, map_z, hix])
        all_goals first
          | omega
          | exact ret_b (by rw [allB_no (p := kidB (m + 1) ps) hlt2 hk])
          | skip
      · repeat' (first | (with_reducible refine jn_in ?_) | (with_reducible refine cl_ok (by assumption) rfl ?_) | (with_reducible refine cl_okP (by assumption) rfl ?_) | (with_reducible refine br_if (fun hbr => ?_) (fun hbr => ?_)) | (with_reducible refine br_ifn (fun hbr => ?_) (fun hbr => ?_)) | (with_reducible refine br_nb (fun hbr => ?_) (fun hbr => ?_)) | (with_reducible refine br_b (fun hbr => ?_) (fun hbr => ?_)) | simp (disch := first | omega | (simp only [List.length_take, List.length_drop, List.length_append, List.map_cons, List.map_nil, List.length_map, List.length_cons, List.length_nil, List.length_set, List.length_replicate]; omega) | (simp only [List.length_cons, List.length_nil, Nat.zero_add, Nat.reduceAdd])) only [go_sem, ↓reduceIte, Nat.reduceAdd, Int.reduceNeg, Int.reduceAdd, Int.reduceSub, Int.reduceMul, Int.reduceLT, Int.reduceLE, Int.reduceEq, Int.reduceToNat, Nat.reduceBEq, e_sle, e_sge, e_shl1, e_orI, e_andI, e_shr, wrapu, wrap8, tn1, nat1, ix_s, ix_z, st_s, st_z, fl_s, fl_z, fl1_s, fl1_z, map_s, map_z, hix])
        all_goals first
          | omega
          | exact ⟨i + 1, rfl, ⟨by omega, allB_step ha2 hk⟩, by omega⟩
          | skip
  · obtain rfl : i = ps.length := by omega
    repeat' (first | (with_reducible refine jn_in ?_) | (with_reducible refine cl_ok (by assumption) rfl ?_) | (with_reducible refine cl_okP (by assumption) rfl ?_) | (with_reducible refine br_if (fun hbr => ?_) (fun hbr => ?_)) | (with_reducible refine br_ifn (fun hbr => ?_) (fun hbr => ?_)) | (with_reducible refine br_nb (fun hbr => ?_) (fun hbr => ?_)) | (with_reducible refine br_b (fun hbr => ?_) (fun hbr => ?_)) | simp (disch := first | omega | (simp only [List.length_take, List.length_drop, List.length_append, List.map_cons, List.map_nil, List.length_map, List.length_cons, List.length_nil, List.length_set, List.length_replicate]; omega) | (simp only [List.length_cons, List.length_nil, Nat.zero_add, Nat.reduceAdd])) only [go_sem, ↓reduceIte, Nat.reduceAdd, Int.reduceNeg, Int.reduceAdd, Int.reduceSub, Int.reduceMul, Int.reduceLT, Int.reduceLE, Int.reduceEq, Int.reduceToNat, Nat.reduceBEq, e_sle, e_sge, e_shl1, e_orI, e_andI, e_shr, wrapu, wrap8, tn1, nat1, ix_s, ix_z, st_s, st_z, fl_s, fl_z, fl1_s, fl1_z, map_s, map_z, true_and])
    all_goals first | omega | exact ret_b ha2 | skip
theorem iPv_m : ∀ n, IPv n
  | 0 => iPv_step 0 fun m e => by omega
  | n + 1 => iPv_step (n + 1) fun m e => by obtain rfl : n = m := by omega
                                            exact iPv_m n
def INe (n : Nat) : Prop := ∀ v, wtV v ≤ 1048576 → Meets Try.prog 50 [(true, encV v), (false, [.sc (.int .i64 n)])] [(false, [.sc (.int .i64 (neN n v))], true)]
theorem iNe_zero : INe 0 := by
  rintro ⟨k, its, ps, ns, cl, lv, c, e⟩ hw
  unfold neN
  simp only [encV, encV_mk, encSs]
  refine meets_upf Try.func50 u_impl_nest_g rfl ?_; simp only [u_impl_nest_u]
  repeat' (first | (with_reducible refine jn_in ?_) | (with_reducible refine cl_ok (by assumption) rfl ?_) | (with_reducible refine cl_okP (by assumption) rfl ?_) | (with_reducible refine br_if (fun hbr => ?_) (fun hbr => ?_)) | (with_reducible refine br_ifn (fun hbr => ?_) (fun hbr => ?_)) | (with_reducible refine br_nb (fun hbr => ?_) (fun hbr => ?_)) | (with_reducible refine br_b (fun hbr => ?_) (fun hbr => ?_)) | simp (disch := first | omega | (simp only [List.length_take, List.length_drop, List.length_append, List.map_cons, List.map_nil, List.length_map, List.length_cons, List.length_nil, List.length_set, List.length_replicate]; omega) | (simp only [List.length_cons, List.length_nil, Nat.zero_add, Nat.reduceAdd])) only [go_sem, ↓reduceIte, Nat.reduceAdd, Int.reduceNeg, Int.reduceAdd, Int.reduceSub, Int.reduceMul, Int.reduceLT, Int.reduceLE, Int.reduceEq, Int.reduceToNat, Nat.reduceBEq, e_sle, e_sge, e_shl1, e_orI, e_andI, e_shr, wrapu, wrap8, tn1, nat1, ix_s, ix_z, st_s, st_z, fl_s, fl_z, fl1_s, fl1_z, map_s, map_z, true_and])
  all_goals first | rfl | omega
theorem neN_mk (n : Nat) (k : Int) (its : List It) (ps : List Vec) (ns cl lv : List ByteArray) (c e : Int) : neN (n + 1) (.mk k its ps ns cl lv c e) = (ps.map fun p => neN n p + 1).foldl max 0 := by rw [neN]
theorem iNe_step (n : Nat) (hn : n ≤ 1000) (ih : INe n) : INe (n + 1) := by
  rintro ⟨k, its, ps, ns, cl, lv, c, e⟩ hw
  obtain ⟨b1, b2, b3, b4, b5, b6⟩ := bdV hw
  rw [neN_mk]
  simp only [encV, encV_mk, encSs]
  have hs : ((n + 1 : Nat) : Int) - 1 = (n : Int) := by omega
  have h0 : ¬ ((n + 1 : Nat) : Int) = 0 := by omega
  generalize ((n + 1 : Nat) : Int) = n1 at *
  refine meets_upf Try.func50 u_impl_nest_g rfl ?_; simp only [u_impl_nest_u]
  simp (disch := first | omega | (simp only [List.length_take, List.length_drop, List.length_append, List.map_cons, List.map_nil, List.length_map, List.length_cons, List.length_nil, List.length_set, List.length_replicate]; omega) | (simp only [List.length_cons, List.length_nil, Nat.zero_add, Nat.reduceAdd])) only [go_sem, ↓reduceIte, Nat.reduceAdd, Int.reduceNeg, Int.reduceAdd, Int.reduceSub, Int.reduceMul, Int.reduceLT, Int.reduceLE, Int.reduceEq, Int.reduceToNat, Nat.reduceBEq, e_sle, e_sge, e_shl1, e_orI, e_andI, e_shr, wrapu, wrap8, tn1, nat1, ix_s, ix_z, st_s, st_z, fl_s, fl_z, fl1_s, fl1_z, map_s, map_z, true_and]
  refine br_if (fun hx => absurd hx h0) (fun _ => ?_)
  simp (disch := first | omega | (simp only [List.length_take, List.length_drop, List.length_append, List.map_cons, List.map_nil, List.length_map, List.length_cons, List.length_nil, List.length_set, List.length_replicate]; omega) | (simp only [List.length_cons, List.length_nil, Nat.zero_add, Nat.reduceAdd])) only [go_sem, ↓reduceIte, Nat.reduceAdd, Int.reduceNeg, Int.reduceAdd, Int.reduceSub, Int.reduceMul, Int.reduceLT, Int.reduceLE, Int.reduceEq, Int.reduceToNat, Nat.reduceBEq, e_sle, e_sge, e_shl1, e_orI, e_andI, e_shr, wrapu, wrap8, tn1, nat1, ix_s, ix_z, st_s, st_z, fl_s, fl_z, fl1_s, fl1_z, map_s, map_z, true_and]
  refine lp (fun i : Nat => [.sc (.int .i64 i), .sc (.int .i64 (((ps.take i).map fun p => neN n p + 1).foldl max 0 : Nat))]) (fun i => i ≤ ps.length) (fun i => ps.length - i) 0 rfl (Nat.zero_le _) ?_
  intro i hi
  simp only [u_impl_nest_l0]
  have hbd : ((ps.take i).map fun p => neN n p + 1).foldl max 0 ≤ n + 2 := by
    rw [foldl_max_le]
    refine ⟨by omega, fun x hx => ?_⟩
    obtain ⟨p, hp, rfl⟩ := List.mem_map.1 hx
    have := neN_bd n p
    omega
  by_cases hlt : i < ps.length
  · have hm := getD_mem hlt
    have hc := ih _ (b6 _ hm)
    have hstep : ((ps.take (i + 1)).map fun p => neN n p + 1).foldl max 0 = max (((ps.take i).map fun p => neN n p + 1).foldl max 0) (neN n (ps.getD i default) + 1) := by
      rw [take_succD hlt, List.map_append, List.foldl_append]; rfl
    have hnb := neN_bd n (ps.getD i default)
    have hix : eIdx 8 (some (.sl 34 8 (ps.map encV))) (some (.sc (.int .i64 (i : Int)))) = some (encV (ps.getD i default)) := by rw [ix_V (by omega) (by omega), Int.toNat_natCast]
    generalize ps.getD i default = x at hc hix hstep hnb
    generalize ((ps.take i).map fun p => neN n p + 1).foldl max 0 = cur at *
    generalize neN n x = y at *
    obtain ⟨x0, x1, x2, x3, x4, x5, x6, x7⟩ := x
    simp only [encV, encV_mk, encSs] at hc hix
    repeat' (first | (with_reducible refine jn_in ?_) | (with_reducible refine cl_ok (by assumption) rfl ?_) | (with_reducible refine cl_okP (by assumption) rfl ?_) | (with_reducible refine br_if (fun hbr => ?_) (fun hbr => ?_)) | (with_reducible refine br_ifn (fun hbr => ?_) (fun hbr => ?_)) | (with_reducible refine br_nb (fun hbr => ?_) (fun hbr => ?_)) | (with_reducible refine br_b (fun hbr => ?_) (fun hbr => ?_)) | simp (disch := first | omega | (simp only [List.length_take, List.length_drop, List.length_append, List.map_cons, List.map_nil, List.length_map, List.length_cons, List.length_nil, List.length_set, List.length_replicate]; omega) | (simp only [List.length_cons, List.length_nil, Nat.zero_add, Nat.reduceAdd])) only [go_sem, ↓reduceIte, Nat.reduceAdd, Int.reduceNeg, Int.reduceAdd, Int.reduceSub, Int.reduceMul, Int.reduceLT, Int.reduceLE, Int.reduceEq, Int.reduceToNat, Nat.reduceBEq, e_sle, e_sge, e_shl1, e_orI, e_andI, e_shr, wrapu, wrap8, tn1, nat1, ix_s, ix_z, st_s, st_z, fl_s, fl_z, fl1_s, fl1_z, map_s, map_z, hix, hs])
    all_goals first
      | omega
      | exact ⟨i + 1, by rw [hstep]; congr 4; omega, by omega, by omega⟩
      | skip
  · obtain rfl : i = ps.length := by omega
    rw [List.take_length] at *
    repeat' (first | (with_reducible refine jn_in ?_) | (with_reducible refine cl_ok (by assumption) rfl ?_) | (with_reducible refine cl_okP (by assumption) rfl ?_) | (with_reducible refine br_if (fun hbr => ?_) (fun hbr => ?_)) | (with_reducible refine br_ifn (fun hbr => ?_) (fun hbr => ?_)) | (with_reducible refine br_nb (fun hbr => ?_) (fun hbr => ?_)) | (with_reducible refine br_b (fun hbr => ?_) (fun hbr => ?_)) | simp (disch := first | omega | (simp only [List.length_take, List.length_drop, List.length_append, List.map_cons, List.map_nil, List.length_map, List.length_cons, List.length_nil, List.length_set, List.length_replicate]; omega) | (simp only [List.length_cons, List.length_nil, Nat.zero_add, Nat.reduceAdd])) only [go_sem, ↓reduceIte, Nat.reduceAdd, Int.reduceNeg, Int.reduceAdd, Int.reduceSub, Int.reduceMul, Int.reduceLT, Int.reduceLE, Int.reduceEq, Int.reduceToNat, Nat.reduceBEq, e_sle, e_sge, e_shl1, e_orI, e_andI, e_shr, wrapu, wrap8, tn1, nat1, ix_s, ix_z, st_s, st_z, fl_s, fl_z, fl1_s, fl1_z, map_s, map_z, true_and])
    all_goals first | omega | exact ret_z rfl | skip
theorem iNe_m : ∀ n, n ≤ 1000 → INe n
  | 0, _ => iNe_zero
  | n + 1, h => iNe_step n (by omega) (iNe_m n (by omega))
def ICel (n : Nat) : Prop := ∀ v, wtV v ≤ 1048576 → vcB n v = true → Meets Try.prog 52 [(true, encV v)] [(false, [.sc (.int .i64 (ceN n v))], true)]
theorem iCel_step (n : Nat) (hn : n ≤ 3) (ih : ∀ m, n = m + 1 → ICel m) : ICel n := by
  rintro ⟨k, its, ps, ns, cl, lv, c, e⟩ hw hv
  have hb := bdV hw
  have hbd : ((ceN n (.mk k its ps ns cl lv c e) : Nat) : Int) ≤ 3000000 := by have := ceN_bd n hn _ hv; omega
  have h1 := iLen_m k its ps ns cl lv c e hb
  obtain ⟨b1, b2, b3, b4, b5, b6⟩ := hb
  have hlen := lnV_bd (k := k) b1 b2
  rw [ceN_mk] at hbd ⊢
  rw [vcB_mk] at hv
  have hkid := (Bool.and_eq_true _ _ ▸ hv).2
  generalize hln : lnV k its.length ps.length = ln at *
  simp only [encV, encV_mk, encSs] at h1 ⊢
  refine meets_upf Try.func52 u_impl_cells_g rfl ?_; simp only [u_impl_cells_u]
  simp (disch := first | omega | (simp only [List.length_take, List.length_drop, List.length_append, List.map_cons, List.map_nil, List.length_map, List.length_cons, List.length_nil, List.length_set, List.length_replicate]; omega) | (simp only [List.length_cons, List.length_nil, Nat.zero_add, Nat.reduceAdd])) only [go_sem, ↓reduceIte, Nat.reduceAdd, Int.reduceNeg, Int.reduceAdd, Int.reduceSub, Int.reduceMul, Int.reduceLT, Int.reduceLE, Int.reduceEq, Int.reduceToNat, Nat.reduceBEq, e_sle, e_sge, e_shl1, e_orI, e_andI, e_shr, wrapu, wrap8, tn1, nat1, ix_s, ix_z, st_s, st_z, fl_s, fl_z, fl1_s, fl1_z, map_s, map_z, true_and]
  refine cl_ok h1 rfl ?_
  simp (disch := first | omega | (simp only [List.length_take, List.length_drop, List.length_append, List.map_cons, List.map_nil, List.length_map, List.length_cons, List.length_nil, List.length_set, List.length_replicate]; omega) | (simp only [List.length_cons, List.length_nil, Nat.zero_add, Nat.reduceAdd])) only [go_sem, ↓reduceIte, Nat.reduceAdd, Int.reduceNeg, Int.reduceAdd, Int.reduceSub, Int.reduceMul, Int.reduceLT, Int.reduceLE, Int.reduceEq, Int.reduceToNat, Nat.reduceBEq, e_sle, e_sge, e_shl1, e_orI, e_andI, e_shr, wrapu, wrap8, tn1, nat1, ix_s, ix_z, st_s, st_z, fl_s, fl_z, fl1_s, fl1_z, map_s, map_z, true_and]
  refine lp (fun i : Nat => [.sc (.int .i64 i), .sc (.int .i64 (ln + (sumBy (kidC n) (ps.take i) : Nat)))]) (fun i => i ≤ ps.length) (fun i => ps.length - i) 0 (by simp [gL, sumBy]) (Nat.zero_le _) ?_
  intro i hi
  simp only [u_impl_cells_l0]
  have hs1 := sumBy_le (kidC n) ps i
  by_cases hlt : i < ps.length
  · have hs2 := sumBy_le (kidC n) ps (i + 1)
    have hm := getD_mem hlt
    rcases n with _ | m
    · exact absurd (allB_iff.1 hkid i hlt) (by show ¬ false = true; decide)
    · have hk : vcB m (ps.getD i default) = true := allB_iff.1 hkid i hlt
      have hc := ih m rfl _ (b6 _ hm) hk
      have hq : kidC (m + 1) (ps.getD i default) = ceN m (ps.getD i default) := rfl
      have hs3 := sumBy_succ (kidC (m + 1)) hlt
      have hix : eIdx 8 (some (.sl 34 8 (ps.map encV))) (some (.sc (.int .i64 (i : Int)))) = some (encV (ps.getD i default)) := by rw [ix_V (by omega) (by omega), Int.toNat_natCast]
      generalize ps.getD i default = x at hc hix hq hs3
      rw [hq] at hs3
      generalize ceN m x = y at hc hs3
      obtain ⟨x0, x1, x2, x3, x4, x5, x6, x7⟩ := x
      simp only [encV, encV_mk, encSs] at hc hix
      repeat' (first | (with_reducible refine jn_in ?_) | (with_reducible refine cl_ok (by assumption) rfl ?_) | (with_reducible refine cl_okP (by assumption) rfl ?_) | (with_reducible refine br_if (fun hbr => ?_) (fun hbr => ?_)) | (with_reducible refine br_ifn (fun hbr => ?_) (fun hbr => ?_)) | (with_reducible refine br_nb (fun hbr => ?_) (fun hbr => ?_)) | (with_reducible refine br_b (fun hbr => ?_) (fun hbr => ?_)) | simp (disch := first | omega | (simp only [List.length_take, List.length_drop, List.length_append, List.map_cons, List.map_nil, List.length_map, List.length_cons, List.length_nil, List.length_set, List.length_replicate]; omega) | (simp only [List.length_cons, List.length_nil, Nat.zero_add, Nat.reduceAdd])) only [go_sem, ↓reduceIte, Nat.reduceAdd, Int.reduceNeg, Int.reduceAdd, Int.reduceSub, Int.reduceMul, Int.reduceLT, Int.reduceLE, Int.reduceEq, Int.reduceToNat, Nat.reduceBEq, e_sle, e_sge, e_shl1, e_orI, e_andI, e_shr, wrapu, wrap8, tn1, nat1, ix_s, ix_z, st_s, st_z, fl_s, fl_z, fl1_s, fl1_z, map_s, map_z, hix])
      all_goals first
        | omega
        | exact ⟨i + 1, by congr 4; omega, by omega, by omega⟩
        | skip
  · obtain rfl : i = ps.length := by omega
    rw [List.take_length] at *
    repeat' (first | (with_reducible refine jn_in ?_) | (with_reducible refine cl_ok (by assumption) rfl ?_) | (with_reducible refine cl_okP (by assumption) rfl ?_) | (with_reducible refine br_if (fun hbr => ?_) (fun hbr => ?_)) | (with_reducible refine br_ifn (fun hbr => ?_) (fun hbr => ?_)) | (with_reducible refine br_nb (fun hbr => ?_) (fun hbr => ?_)) | (with_reducible refine br_b (fun hbr => ?_) (fun hbr => ?_)) | simp (disch := first | omega | (simp only [List.length_take, List.length_drop, List.length_append, List.map_cons, List.map_nil, List.length_map, List.length_cons, List.length_nil, List.length_set, List.length_replicate]; omega) | (simp only [List.length_cons, List.length_nil, Nat.zero_add, Nat.reduceAdd])) only [go_sem, ↓reduceIte, Nat.reduceAdd, Int.reduceNeg, Int.reduceAdd, Int.reduceSub, Int.reduceMul, Int.reduceLT, Int.reduceLE, Int.reduceEq, Int.reduceToNat, Nat.reduceBEq, e_sle, e_sge, e_shl1, e_orI, e_andI, e_shr, wrapu, wrap8, tn1, nat1, ix_s, ix_z, st_s, st_z, fl_s, fl_z, fl1_s, fl1_z, map_s, map_z, true_and])
    all_goals first | omega | exact ret_z (by omega) | skip
theorem iCel_m : ∀ n, n ≤ 3 → ICel n
  | 0, h => iCel_step 0 h fun m e => by omega
  | n + 1, h => iCel_step (n + 1) h fun m e => by obtain rfl : n = m := by omega
                                                  exact iCel_m n (by omega)
theorem iIsVec_m (v : Vec) (hw : wtV v ≤ 1048576) : Meets Try.prog 26 [(true, encV v)] [(false, [.sc (.bool (isVc v))], true)] := by
  have h1 := iNe_m 4 (by omega) v hw
  have h2 := iPv_m 3 v hw
  have h3 := iCel_m 3 (by omega) v hw
  have h4 := vcB_dpB 3 v
  have h5 := neN_dp 3 v
  rw [show ((4 : Nat) : Int) = 4 from rfl] at h1
  unfold isVc
  generalize ceN 3 v = y at *
  generalize neN 4 v = z at *
  generalize dpB 3 v = d at *
  generalize vcB 3 v = b at *
  obtain ⟨k, its, ps, ns, cl, lv, c, e⟩ := v
  simp only [encV, encV_mk, encSs] at h1 h2 h3 ⊢
  refine meets_upf Try.func26 u_impl_IsVector_g rfl ?_; simp only [u_impl_IsVector_u]
  cases d
  · have hz : ¬ (z : Int) ≤ 3 := fun h => by have := h5.1 (by omega); cases this
    have hb : b = false := by cases b; rfl; exact absurd (h4 rfl) (by decide)
    subst hb
    repeat' (first | (with_reducible refine jn_in ?_) | (with_reducible refine cl_ok (by assumption) rfl ?_) | (with_reducible refine cl_okP (by assumption) rfl ?_) | (with_reducible refine br_if (fun hbr => ?_) (fun hbr => ?_)) | (with_reducible refine br_ifn (fun hbr => ?_) (fun hbr => ?_)) | (with_reducible refine br_nb (fun hbr => ?_) (fun hbr => ?_)) | (with_reducible refine br_b (fun hbr => ?_) (fun hbr => ?_)) | simp (disch := first | omega | (simp only [List.length_take, List.length_drop, List.length_append, List.map_cons, List.map_nil, List.length_map, List.length_cons, List.length_nil, List.length_set, List.length_replicate]; omega) | (simp only [List.length_cons, List.length_nil, Nat.zero_add, Nat.reduceAdd])) only [go_sem, ↓reduceIte, Nat.reduceAdd, Int.reduceNeg, Int.reduceAdd, Int.reduceSub, Int.reduceMul, Int.reduceLT, Int.reduceLE, Int.reduceEq, Int.reduceToNat, Nat.reduceBEq, e_sle, e_sge, e_shl1, e_orI, e_andI, e_shr, wrapu, wrap8, tn1, nat1, ix_s, ix_z, st_s, st_z, fl_s, fl_z, fl1_s, fl1_z, map_s, map_z, true_and])
    all_goals first | omega | exact ret_b rfl
  · have hz : (z : Int) ≤ 3 := by have := h5.2 rfl; omega
    have h2' := h2 rfl
    cases b
    · repeat' (first | (with_reducible refine jn_in ?_) | (with_reducible refine cl_ok (by assumption) rfl ?_) | (with_reducible refine cl_okP (by assumption) rfl ?_) | (with_reducible refine br_if (fun hbr => ?_) (fun hbr => ?_)) | (with_reducible refine br_ifn (fun hbr => ?_) (fun hbr => ?_)) | (with_reducible refine br_nb (fun hbr => ?_) (fun hbr => ?_)) | (with_reducible refine br_b (fun hbr => ?_) (fun hbr => ?_)) | simp (disch := first | omega | (simp only [List.length_take, List.length_drop, List.length_append, List.map_cons, List.map_nil, List.length_map, List.length_cons, List.length_nil, List.length_set, List.length_replicate]; omega) | (simp only [List.length_cons, List.length_nil, Nat.zero_add, Nat.reduceAdd])) only [go_sem, ↓reduceIte, Nat.reduceAdd, Int.reduceNeg, Int.reduceAdd, Int.reduceSub, Int.reduceMul, Int.reduceLT, Int.reduceLE, Int.reduceEq, Int.reduceToNat, Nat.reduceBEq, e_sle, e_sge, e_shl1, e_orI, e_andI, e_shr, wrapu, wrap8, tn1, nat1, ix_s, ix_z, st_s, st_z, fl_s, fl_z, fl1_s, fl1_z, map_s, map_z, true_and])
      all_goals first | omega | exact ret_b rfl
    · have h3' := h3 rfl
      repeat' (first | (with_reducible refine jn_in ?_) | (with_reducible refine cl_ok (by assumption) rfl ?_) | (with_reducible refine cl_okP (by assumption) rfl ?_) | (with_reducible refine br_if (fun hbr => ?_) (fun hbr => ?_)) | (with_reducible refine br_ifn (fun hbr => ?_) (fun hbr => ?_)) | (with_reducible refine br_nb (fun hbr => ?_) (fun hbr => ?_)) | (with_reducible refine br_b (fun hbr => ?_) (fun hbr => ?_)) | simp (disch := first | omega | (simp only [List.length_take, List.length_drop, List.length_append, List.map_cons, List.map_nil, List.length_map, List.length_cons, List.length_nil, List.length_set, List.length_replicate]; omega) | (simp only [List.length_cons, List.length_nil, Nat.zero_add, Nat.reduceAdd])) only [go_sem, ↓reduceIte, Nat.reduceAdd, Int.reduceNeg, Int.reduceAdd, Int.reduceSub, Int.reduceMul, Int.reduceLT, Int.reduceLE, Int.reduceEq, Int.reduceToNat, Nat.reduceBEq, e_sle, e_sge, e_shl1, e_orI, e_andI, e_shr, wrapu, wrap8, tn1, nat1, ix_s, ix_z, st_s, st_z, fl_s, fl_z, fl1_s, fl1_z, map_s, map_z, true_and])
      all_goals first | omega | exact ret_b rfl
end Go.Proofs.Ytkcljmgjbjdccaa

namespace Go.Proofs.Ytkcljmgjbjdccaa
open Go.RowKit
set_option maxRecDepth 100000
def u_laws_eqNode_h : List Hint := []
def u_laws_eqNode_d : List (Nat × Nat × Bool × List Nat) := []
def u_laws_eqNode_u : UP := .po (.k (.bool false)) <| .po (.bin .neq false 10 5) <| .ite 0 (.po (.k (.bool false)) <| .po (.sc 0) <| .ret [(false, [0])]) <| .po (.bin .neq false 10 5) <| .ite 0 (.po (.k (.bool false)) <| .po (.sc 0) <| .ret [(false, [0])]) <| .po (.bin .neq false 10 5) <| .ite 0 (.po (.k (.bool false)) <| .po (.sc 0) <| .ret [(false, [0])]) <| .sel [4, 5, 9, 10] <| .cl 32 [(false, [3]), (false, [1])] [(false, [none], true)] <| .po (.un .not 0) <| .ite 0 (.po (.k (.bool false)) <| .po (.sc 0) <| .ret [(false, [0])]) <| .po (.bin .neq false 4 2) <| .ite 0 (.po (.k (.bool false)) <| .po (.sc 0) <| .ret [(false, [0])]) <| .po (.k (.bool true)) <| .po (.sc 0) <| .ret [(false, [0])]
theorem u_laws_eqNode_g : toUPf Try.prog 29 Try.f29 owA u_laws_eqNode_h u_laws_eqNode_d = some ([(true, 5), (true, 5)], u_laws_eqNode_u) := by kernel_rfl
def u_laws_eqNodeS_h : List Hint := [⟨3000004, 1, ⟨[(5, .p false [.d 7]), (10, .p false [.d 5]), (4, .p false [.d 2]), (0, .p false [.d 0]), (1, .p false [.d 1])], [], 0, 0, 8, [(5, false), (2, false)]⟩, []⟩]
def u_laws_eqNodeS_d : List (Nat × Nat × Bool × List Nat) := [(6, 10, false, [])]
def u_laws_eqNodeS_l0 : UP := .po (.lenL 3) <| .po (.bin .lss false 1 0) <| .ite 0 (.po (.isI 2) <| .po (.idx 5 5 2) <| .po (.isI 7) <| .po (.idx 5 9 7) <| .sel [0, 1, 2, 3, 4, 5, 6, 7, 8, 9, 12] <| .cl 29 [(true, [9, 8, 7, 6, 5]), (true, [4, 3, 2, 1, 0])] [(false, [none], true)] <| .po (.un .not 0) <| .po (.sc 0) <| .ite 0 (.po (.k (.bool false)) <| .po (.sc 0) <| .ret [(false, [0])]) <| .po (.k (.int .i64 1)) <| .po (.bin .add false 13 0) <| .jump 0 [0]) <| .po (.k (.bool true)) <| .po (.sc 0) <| .ret [(false, [0])]
def u_laws_eqNodeS_u : UP := .po (.k (.bool false)) <| .po (.lenL 2) <| .po (.lenL 2) <| .po (.bin .neq false 1 0) <| .ite 0 (.po (.k (.bool false)) <| .po (.sc 0) <| .ret [(false, [0])]) <| .po (.k (.int .i64 0)) <| .sel [0, 5, 6] <| .loop [0] u_laws_eqNodeS_l0
theorem u_laws_eqNodeS_g : toUPf Try.prog 9 Try.f9 owA u_laws_eqNodeS_h u_laws_eqNodeS_d = some ([(false, 1), (false, 1)], u_laws_eqNodeS_u) := by kernel_rfl
end Go.Proofs.Ytkcljmgjbjdccaa

namespace Go.Proofs.Ytkcljmgjbjdccaa
open Go.RowKit Go.ChangeShapes Go.WideShapes Go.Deep
set_option maxRecDepth 100000
structure Nod where
  kind : Int
  num : Int
  text : ByteArray
  labels : List ByteArray
  kids : Int
  deriving DecidableEq
instance : Inhabited Nod := ⟨⟨default, default, default, default, default⟩⟩
def encNod (x : Nod) : List DV := [.sc (.int .i64 x.kind), .sc (.int .i64 x.num), .sc (.string x.text), encSs x.labels, .sc (.int .i64 x.kids)]
def encNods (l : List Nod) : DV := .sl 52 5 (l.map encNod)
def wtNod (x : Nod) : Nat := x.text.size + wtSs x.labels
def wtNods (l : List Nod) : Nat := l.length + sumOf wtNod l
theorem ix_Nod {t : Nat} {l : List Nod} {kd : IntKind} {z : Int} (h : 0 ≤ z) (h1 : z < l.length) : eIdx 5 (some (.sl t 5 (l.map encNod))) (some (.sc (.int kd z))) = some (encNod (l.getD z.toNat default)) := e_idx_map (fun _ => rfl) h h1
theorem eqNod_m (x : Nod) (hw : wtNod x ≤ 10000000000) : Meets Try.prog 29 [(true, encNod x), (true, encNod x)] [(false, [.sc (.bool true)], true)] := by
  obtain ⟨x0, x1, x2, x3, x4⟩ := x
  simp only [wtNod] at hw
  have clabels := eqSs_m x3 (wtSs_len (n := 100000000000) (by omega))
  refine meets_upf Try.func29 u_laws_eqNode_g rfl ?_; simp only [u_laws_eqNode_u]
  simp only [encNod]
  repeat' (first | (with_reducible refine jn_in ?_) | (with_reducible refine cl_ok (by assumption) rfl ?_) | (with_reducible refine cl_okP (by assumption) rfl ?_) | (with_reducible refine br_if (fun hbr => ?_) (fun hbr => ?_)) | (with_reducible refine br_ifn (fun hbr => ?_) (fun hbr => ?_)) | (with_reducible refine br_nb (fun hbr => ?_) (fun hbr => ?_)) | (with_reducible refine br_b (fun hbr => ?_) (fun hbr => ?_)) | simp (disch := first | omega | (simp only [List.length_take, List.length_drop, List.length_append, List.map_cons, List.map_nil, List.length_map, List.length_cons, List.length_nil, List.length_set, List.length_replicate]; omega) | (simp only [List.length_cons, List.length_nil, Nat.zero_add, Nat.reduceAdd])) only [go_sem, ↓reduceIte, Nat.reduceAdd, Int.reduceNeg, Int.reduceAdd, Int.reduceSub, Int.reduceMul, Int.reduceLT, Int.reduceLE, Int.reduceEq, Int.reduceToNat, Nat.reduceBEq, e_sle, e_sge, e_shl1, e_orI, e_andI, e_shr, wrapu, wrap8, tn1, nat1, ix_s, ix_z, st_s, st_z, fl_s, fl_z, fl1_s, fl1_z, map_s, map_z, eq_self])
  rfl
theorem eqNods_m (l : List Nod) (h : wtNods l ≤ 10000000000) : Meets Try.prog 9 [(false, [encNods l]), (false, [encNods l])] [(false, [.sc (.bool true)], true)] := by
  have hl : l.length ≤ 10000000000 := by unfold wtNods at h; omega
  have hz : ∀ x ∈ l, wtNod x ≤ 10000000000 := fun x hx => by have := sumOf_mem wtNod hx; unfold wtNods at h; omega
  refine meets_upf Try.func9 u_laws_eqNodeS_g rfl ?_; simp only [u_laws_eqNodeS_u]
  simp only [encNods]
  simp (disch := first | omega | (simp only [List.length_take, List.length_drop, List.length_append, List.map_cons, List.map_nil, List.length_map, List.length_cons, List.length_nil, List.length_set, List.length_replicate]; omega) | (simp only [List.length_cons, List.length_nil, Nat.zero_add, Nat.reduceAdd])) only [go_sem, ↓reduceIte, Nat.reduceAdd, Int.reduceNeg, Int.reduceAdd, Int.reduceSub, Int.reduceMul, Int.reduceLT, Int.reduceLE, Int.reduceEq, Int.reduceToNat, Nat.reduceBEq, e_sle, e_sge, e_shl1, e_orI, e_andI, e_shr, wrapu, wrap8, tn1, nat1, ix_s, ix_z, st_s, st_z, fl_s, fl_z, fl1_s, fl1_z, map_s, map_z, eq_self]
  refine lp_n l.length (fun i => [.sc (.int .i64 i)]) rfl fun i hi => ?_
  simp only [u_laws_eqNodeS_l0]
  by_cases hlt : i < l.length
  · have hc := eqNod_m (l.getD i default) (hz _ (getD_mem hlt))
    have hix : eIdx 5 (some (.sl 52 5 (l.map encNod))) (some (.sc (.int .i64 (i : Int)))) = some (encNod (l.getD i default)) := by rw [ix_Nod (by omega) (by omega), Int.toNat_natCast]
    simp only [encNod, encSs, encZs] at hc hix
    repeat' (first | (with_reducible refine jn_in ?_) | (with_reducible refine cl_ok (by assumption) rfl ?_) | (with_reducible refine cl_okP (by assumption) rfl ?_) | (with_reducible refine br_if (fun hbr => ?_) (fun hbr => ?_)) | (with_reducible refine br_ifn (fun hbr => ?_) (fun hbr => ?_)) | (with_reducible refine br_nb (fun hbr => ?_) (fun hbr => ?_)) | (with_reducible refine br_b (fun hbr => ?_) (fun hbr => ?_)) | simp (disch := first | omega | (simp only [List.length_take, List.length_drop, List.length_append, List.map_cons, List.map_nil, List.length_map, List.length_cons, List.length_nil, List.length_set, List.length_replicate]; omega) | (simp only [List.length_cons, List.length_nil, Nat.zero_add, Nat.reduceAdd])) only [go_sem, ↓reduceIte, Nat.reduceAdd, Int.reduceNeg, Int.reduceAdd, Int.reduceSub, Int.reduceMul, Int.reduceLT, Int.reduceLE, Int.reduceEq, Int.reduceToNat, Nat.reduceBEq, e_sle, e_sge, e_shl1, e_orI, e_andI, e_shr, wrapu, wrap8, tn1, nat1, ix_s, ix_z, st_s, st_z, fl_s, fl_z, fl1_s, fl1_z, map_s, map_z, hix])
    all_goals omega
  · obtain rfl : i = l.length := by omega
    repeat' (first | (with_reducible refine jn_in ?_) | (with_reducible refine cl_ok (by assumption) rfl ?_) | (with_reducible refine cl_okP (by assumption) rfl ?_) | (with_reducible refine br_if (fun hbr => ?_) (fun hbr => ?_)) | (with_reducible refine br_ifn (fun hbr => ?_) (fun hbr => ?_)) | (with_reducible refine br_nb (fun hbr => ?_) (fun hbr => ?_)) | (with_reducible refine br_b (fun hbr => ?_) (fun hbr => ?_)) | simp (disch := first | omega | (simp only [List.length_take, List.length_drop, List.length_append, List.map_cons, List.map_nil, List.length_map, List.length_cons, List.length_nil, List.length_set, List.length_replicate]; omega) | (simp only [List.length_cons, List.length_nil, Nat.zero_add, Nat.reduceAdd])) only [go_sem, ↓reduceIte, Nat.reduceAdd, Int.reduceNeg, Int.reduceAdd, Int.reduceSub, Int.reduceMul, Int.reduceLT, Int.reduceLE, Int.reduceEq, Int.reduceToNat, Nat.reduceBEq, e_sle, e_sge, e_shl1, e_orI, e_andI, e_shr, wrapu, wrap8, tn1, nat1, ix_s, ix_z, st_s, st_z, fl_s, fl_z, fl1_s, fl1_z, map_s, map_z, true_and])
    · omega
    · rfl
end Go.Proofs.Ytkcljmgjbjdccaa

