/- Proved: for every input the law 'FnInverses' returns true and its arguments read behind the call as before: part 5 of its proof. No condition. -/
import Derived.WalkKit
import Derived.Lib.Hide
import Derived.WalkSpells
import Derived.Laws.OwnMore
import Derived.Deep.AppendLies
import Derived.Deep.Draws
import Derived.Maps.AppendAt
import Derived.RegionTactic
import Derived.OwnWalk
import Derived.Below
import Derived.Laws.AppendOwnNone
import Derived.Deep.QuietTactic
import Derived.BigQuiet
import Derived.StillTailTactics
import Derived.Laws.Cells
import Derived.Laws.IdiomCopy
import Derived.ChangeKeysEq
import Derived.Laws.BytesArg
import Derived.Laws.StructEq
import Derived.Laws.Tables
import Derived.Great.BuildSlice
import Derived.StillTail
import Derived.OrdersHeld
import Derived.Test.YtolkglnkdfcceaaProg
import Derived.Deep.Slices
import Derived.Deep.Fields
import Derived.ChangeSame
import Derived.OpenShut
import Derived.Laws.ResultCell
import Derived.Deep.RegionWith
import Derived.Test.YtolkglnkdfcceaaRows
import Derived.ProofKit
import Derived.ShutString
import Derived.ChangeOld
import Derived.SizedLaws
import Derived.Test.YtolkglnkdfcceaaFnInversesQ4
set_option linter.unusedVariables false
set_option linter.unusedSimpArgs false
namespace Go.Proofs.Ytolkglnkdfcceaa
open Go.RowKit
set_option maxRecDepth 100000
def u_impl_reduce_h : List Hint := [⟨3000027, 2, ⟨[(17, .p false [.d 66]), (138, .p false [.d 64]), (16, .p false [.ptr 6 6 0]), (124, .p false [.d 55]), (15, .p false [.d 40]), (103, .p false [.d 41]), (14, .p false [.d 42]), (13, .p false [.ptr 5 5 0]), (63, .p false [.d 43]), (10, .p false [.d 44]), (59, .p false [.d 45]), (53, .p false [.d 46]), (9, .p false [.d 47]), (8, .p false [.d 48]), (36, .p false [.d 49]), (6, .p false [.own 4 4]), (7, .p false [.d 15]), (5, .p false [.ptr 3 3 0]), (4, .p false [.d 5]), (3, .p false [.nil]), (2, .p false [.ptr 1 1 0]), (1, .p false [.ptr 0 0 0]), (0, .p true [.d 0, .d 1, .d 2])], [(0, .var 0 28 [.d 0, .d 1, .d 2]), (1, .var 1 28 [.d 3, .d 4, .nil]), (3, .var 3 28 [.d 0, .d 1, .own 2 2]), (2, .row 2 33 3 67), (4, .row 4 67 5 51), (5, .var 5 33 [.d 52, .d 53, .d 54]), (6, .var 6 33 [.d 56, .d 57, .d 58])], 7, 7, 68, [(64, false), (62, false), (55, true), (5, false)]⟩, []⟩, ⟨2000009, 5, ⟨[(138, .p false [.d 56]), (16, .p false [.ptr 6 6 0]), (124, .p false [.d 55]), (15, .p false [.d 40]), (103, .p false [.d 41]), (14, .p false [.d 42]), (13, .p false [.ptr 5 5 0]), (63, .p false [.d 43]), (10, .p false [.d 44]), (59, .p false [.d 45]), (53, .p false [.d 46]), (9, .p false [.d 47]), (8, .p false [.d 48]), (36, .p false [.d 49]), (6, .p false [.own 4 4]), (7, .p false [.d 15]), (5, .p false [.ptr 3 3 0]), (4, .p false [.d 5]), (3, .p false [.nil]), (2, .p false [.ptr 1 1 0]), (1, .p false [.ptr 0 0 0]), (0, .p true [.d 0, .d 1, .d 2])], [(0, .var 0 28 [.d 0, .d 1, .d 2]), (1, .var 1 28 [.d 3, .d 4, .nil]), (3, .var 3 28 [.d 0, .d 1, .own 2 2]), (2, .row 2 33 3 57), (4, .row 4 67 5 51), (5, .var 5 33 [.d 52, .d 53, .d 54]), (6, .var 6 33 [.d 58, .d 59, .d 60])], 7, 7, 61, [(55, true), (5, false)]⟩, []⟩, ⟨3000022, 15, ⟨[(15, .p false [.d 40]), (103, .p false [.d 41]), (14, .p false [.d 42]), (13, .p false [.ptr 5 5 0]), (63, .p false [.d 43]), (10, .p false [.d 44]), (59, .p false [.d 45]), (53, .p false [.d 46]), (9, .p false [.d 47]), (8, .p false [.d 48]), (36, .p false [.d 49]), (6, .p false [.own 4 4]), (7, .p false [.d 15]), (5, .p false [.ptr 3 3 0]), (4, .p false [.d 5]), (3, .p false [.nil]), (2, .p false [.ptr 1 1 0]), (1, .p false [.ptr 0 0 0]), (0, .p true [.d 0, .d 1, .d 2])], [(0, .var 0 28 [.d 0, .d 1, .d 2]), (1, .var 1 28 [.d 3, .d 4, .nil]), (3, .var 3 28 [.d 0, .d 1, .own 2 2]), (2, .row 2 33 3 50), (4, .row 4 67 5 51), (5, .var 5 33 [.d 52, .d 53, .d 54])], 6, 6, 55, [(5, false)]⟩, []⟩, ⟨3000018, 2, ⟨[(14, .p false [.d 36]), (13, .p false [.ptr 5 5 0]), (63, .p false [.d 28]), (10, .p false [.d 26]), (59, .p false [.d 24]), (53, .p false [.d 22]), (9, .p false [.d 23]), (8, .p false [.d 21]), (36, .p false [.d 20]), (6, .p false [.own 4 4]), (7, .p false [.d 15]), (5, .p false [.ptr 3 3 0]), (4, .p false [.d 5]), (3, .p false [.nil]), (2, .p false [.ptr 1 1 0]), (1, .p false [.ptr 0 0 0]), (0, .p true [.d 0, .d 1, .d 2])], [(0, .var 0 28 [.d 0, .d 1, .d 2]), (1, .var 1 28 [.d 3, .d 4, .nil]), (3, .var 3 28 [.d 0, .d 1, .own 2 2]), (2, .row 2 33 3 37), (4, .row 4 67 5 17), (5, .var 5 33 [.d 29, .d 30, .d 31])], 6, 6, 38, [(28, false), (24, false), (20, true), (18, true), (5, false)]⟩, []⟩, ⟨3000012, 2, ⟨[(10, .p false [.d 26]), (59, .p false [.d 24]), (53, .p false [.d 22]), (9, .p false [.d 23]), (8, .p false [.d 21]), (36, .p false [.d 20]), (6, .p false [.own 4 4]), (7, .p false [.d 15]), (5, .p false [.ptr 3 3 0]), (4, .p false [.d 5]), (3, .p false [.nil]), (2, .p false [.ptr 1 1 0]), (1, .p false [.ptr 0 0 0]), (0, .p true [.d 0, .d 1, .d 2])], [(0, .var 0 28 [.d 0, .d 1, .d 2]), (1, .var 1 28 [.d 3, .d 4, .nil]), (3, .var 3 28 [.d 0, .d 1, .own 2 2]), (2, .row 2 33 3 27), (4, .row 4 67 5 17)], 5, 5, 28, [(24, false), (20, true), (18, true), (5, false)]⟩, []⟩, ⟨2000001, 7, ⟨[(59, .p false [.d 21]), (53, .p false [.d 22]), (9, .p false [.d 23]), (8, .p false [.d 24]), (36, .p false [.d 25]), (6, .p false [.own 4 4]), (7, .p false [.d 15]), (5, .p false [.ptr 3 3 0]), (4, .p false [.d 5]), (3, .p false [.nil]), (2, .p false [.ptr 1 1 0]), (1, .p false [.ptr 0 0 0]), (0, .p true [.d 0, .d 1, .d 2])], [(0, .var 0 28 [.d 0, .d 1, .d 2]), (1, .var 1 28 [.d 3, .d 4, .nil]), (3, .var 3 28 [.d 0, .d 1, .own 2 2]), (2, .row 2 33 3 26), (4, .row 4 67 5 27)], 5, 5, 28, [(5, false)]⟩, [⟨true, 6, 0, 67, 5⟩]⟩, ⟨2000002, 2, ⟨[(53, .p false [.d 22]), (9, .p false [.d 23]), (8, .p false [.d 21]), (36, .p false [.d 20]), (6, .p false [.own 4 4]), (7, .p false [.d 15]), (5, .p false [.ptr 3 3 0]), (4, .p false [.d 5]), (3, .p false [.nil]), (2, .p false [.ptr 1 1 0]), (1, .p false [.ptr 0 0 0]), (0, .p true [.d 0, .d 1, .d 2])], [(0, .var 0 28 [.d 0, .d 1, .d 2]), (1, .var 1 28 [.d 3, .d 4, .nil]), (3, .var 3 28 [.d 0, .d 1, .own 2 2]), (2, .row 2 33 3 16), (4, .row 4 67 5 17)], 5, 5, 24, [(20, true), (18, true), (5, false)]⟩, []⟩, ⟨3000008, 1, ⟨[(9, .p false [.d 22]), (8, .p false [.d 21]), (36, .p false [.d 20]), (6, .p false [.own 4 4]), (7, .p false [.d 15]), (5, .p false [.ptr 3 3 0]), (4, .p false [.d 5]), (3, .p false [.nil]), (2, .p false [.ptr 1 1 0]), (1, .p false [.ptr 0 0 0]), (0, .p true [.d 0, .d 1, .d 2])], [(0, .var 0 28 [.d 0, .d 1, .d 2]), (1, .var 1 28 [.d 3, .d 4, .nil]), (3, .var 3 28 [.d 0, .d 1, .own 2 2]), (2, .row 2 33 3 16), (4, .row 4 67 5 17)], 5, 5, 23, [(20, true), (18, true), (5, false)]⟩, []⟩, ⟨3000004, 3, ⟨[(6, .p false [.own 4 4]), (7, .p false [.d 15]), (5, .p false [.ptr 3 3 0]), (4, .p false [.d 5]), (3, .p false [.nil]), (2, .p false [.ptr 1 1 0]), (1, .p false [.ptr 0 0 0]), (0, .p true [.d 0, .d 1, .d 2])], [(0, .var 0 28 [.d 0, .d 1, .d 2]), (1, .var 1 28 [.d 3, .d 4, .nil]), (3, .var 3 28 [.d 0, .d 1, .own 2 2]), (2, .row 2 33 3 16), (4, .row 4 67 5 17)], 5, 5, 18, [(5, false)]⟩, [⟨true, 6, 0, 67, 5⟩]⟩]
def u_impl_reduce_d : List (Nat × Nat × Bool × List Nat) := [(29, 20, false, []), (20, 15, false, []), (15, 17, false, [3, 4, 5]), (14, 14, false, []), (1, 9, false, [])]
def u_impl_reduce_l0 : UP := .po (.bin .lss false 0 7) <| .ite 0 (.sel [1, 5, 6, 7, 8] <| .cl 44 [(true, [4, 3, 1]), (false, [0]), (false, [2])] [(true, [none, none, none], true)] <| .po (.k (.int .i64 0)) <| .po (.bin .eql false 3 0) <| .ite 0 (.po (.k (.int .i64 1)) <| .po (.bin .add false 6 0) <| .jump 3 [0]) <| .jump 2 [0, 5]) <| .po (.k (.bool false)) <| .jump 2 [0, 2]
def u_impl_reduce_l1 : UP := .po (.bin .lss false 1 10) <| .ite 0 (.po (.sc 11) <| .po (.bin .mul false 10 11) <| .po (.sc 0) <| .po (.bin .add false 0 3) <| .po (.sc 0) <| .po (.sc 14) <| .po (.sc 13) <| .sel [0, 3, 4, 7, 8, 9, 11, 12, 13, 14] <| .cl 44 [(true, [9, 8, 1]), (false, [7]), (false, [2])] [(true, [none, none, none], true)] <| .po (.sc 8) <| .po (.sc 7) <| .po (.sc 6) <| .po (.sc 12) <| .po (.sc 11) <| .cl 44 [(true, [12, 11, 4]), (false, [9]), (false, [5])] [(true, [none, none, none], true)] <| .sel [0, 1, 2, 3, 4, 5, 6, 7, 8, 9, 10, 11] <| .cl 43 [(true, [11, 10, 9]), (true, [2, 1, 0])] [(true, [none, none, none], true)] <| .sel [0, 1, 2, 6, 7, 8, 9, 10, 11] <| .cl 68 [(true, [5, 4, 3]), (true, [2, 1, 0])] [(true, [none, none, none], true)] <| .po (.isI 9) <| .po (.chk 3 10 9) <| .po (.sc 2) <| .po (.sc 1) <| .po (.sc 0) <| .po (.set 3 10 9 0 [2, 1, 0]) <| .po (.k (.int .i64 1)) <| .po (.bin .add false 13 0) <| .jump 6 [0, 2]) <| .jump 5 [4, 1, 7, 6, 5]
def u_impl_reduce_j2 : UP := .po (.k (.int .i64 1)) <| .po (.bin .add false 20 0) <| .jump 4 [0, 20, 19, 18, 17, 16, 15, 14, 13, 12, 5, 10, 9, 8, 7]
def u_impl_reduce_l3 : UP := .po (.bin .lss false 14 34) <| .ite 0 (.sel [1, 2, 3, 4, 5, 6, 7, 8, 9, 10, 11, 12, 13, 14, 15, 33, 34, 35] <| .join 5 u_impl_reduce_j2 <| .sel [4, 6, 14, 15, 16, 17] <| .cl 44 [(true, [5, 4, 0]), (false, [2]), (false, [3])] [(true, [none, none, none], true)] <| .po (.k (.int .i64 0)) <| .po (.k (.int .i64 0)) <| .po (.k (.string ⟨#[]⟩)) <| .po (.bin .eql false 8 7) <| .ite 0 (.po (.k (.bool true)) <| .jump 5 [0, 8, 7, 6, 5]) <| .po (.k (.int .i64 0)) <| .po (.bin .eql false 7 0) <| .ite 0 (.jump 5 [0, 9, 8, 7, 6]) <| .po (.k (.int .i64 0)) <| .sel [0, 1, 7, 8, 9, 10, 11, 12, 14, 15] <| .loop [0, 5] u_impl_reduce_l1) <| .po (.bin .neq false 8 7) <| .po (.k (.int .i64 0)) <| .po (.k (.int .i64 0)) <| .po (.k (.int .i64 0)) <| .po (.k (.string ⟨#[]⟩)) <| .po (.k (.bool false)) <| .po (.sc 39) <| .po (.sc 9) <| .po (.sc 8) <| .po (.sc 7) <| .po (.sc 5) <| .po (.mk 67 5 [[39, 9, 8, 7, 5]]) <| .po (.flat 0) <| .po (.app 67 5 48 11 0) <| .sel [0, 13, 14, 15, 16, 17, 18] <| .cl 62 [(false, [1])] [(false, [none], true)] <| .po (.un .not 0) <| .ite 0 (.po (.k (.int .i64 0)) <| .po (.k (.int .i64 0)) <| .po (.k (.bool false)) <| .po (.sc 2) <| .po (.sc 1) <| .po (.e 33 3) <| .po (.e 67 5) <| .po (.sc 2) <| .ret [(true, [4, 3, 1]), (false, [0]), (false, [2])]) <| .jump 1 [8, 7, 6, 5, 4, 3, 2]
def u_impl_reduce_l4 : UP := .po (.bin .lss false 1 16) <| .ite 0 (.po (.sc 17) <| .po (.bin .mul false 13 17) <| .po (.sc 0) <| .po (.bin .add false 0 3) <| .po (.sc 0) <| .po (.sc 20) <| .po (.sc 19) <| .sel [0, 3, 4, 6, 7, 8, 15, 19, 20] <| .cl 44 [(true, [8, 7, 1]), (false, [6]), (false, [2])] [(true, [none, none, none], true)] <| .po (.sc 8) <| .po (.sc 7) <| .po (.sc 6) <| .cl 67 [(true, [2, 1, 0]), (true, [8, 7, 6])] [(true, [none, none, none], true)] <| .po (.isI 6) <| .po (.chk 3 7 6) <| .po (.sc 2) <| .po (.sc 1) <| .po (.sc 0) <| .po (.set 3 7 6 0 [2, 1, 0]) <| .po (.k (.int .i64 1)) <| .po (.bin .add false 10 0) <| .jump 3 [0, 2]) <| .po (.k (.int .i64 0)) <| .loop [0, 1, 3, 8, 10, 11, 13, 12, 14, 15, 2, 16, 7, 6, 5] u_impl_reduce_l3
def u_impl_reduce_l5 : UP := .po (.bin .lss false 1 11) <| .ite 0 (.po (.sc 12) <| .po (.bin .mul false 7 12) <| .po (.sc 0) <| .po (.bin .add false 0 3) <| .po (.sc 0) <| .po (.sc 14) <| .po (.bin .mul false 7 14) <| .po (.sc 0) <| .po (.bin .add false 0 5) <| .po (.sc 0) <| .po (.sc 2) <| .po (.sc 0) <| .po (.isI 0) <| .po (.chk 3 5 0) <| .po (.idx 3 5 0) <| .po (.isI 5) <| .po (.chk 3 8 5) <| .po (.idx 3 8 5) <| .po (.isI 8) <| .po (.chk 3 11 8) <| .po (.sc 5) <| .po (.sc 4) <| .po (.sc 3) <| .po (.set 3 11 8 0 [5, 4, 3]) <| .po (.isI 7) <| .po (.chk 3 0 7) <| .po (.sc 3) <| .po (.sc 2) <| .po (.sc 1) <| .po (.set 3 0 7 0 [3, 2, 1]) <| .po (.k (.int .i64 1)) <| .po (.bin .add false 15 0) <| .jump 2 [0, 2]) <| .cl 44 [(true, [13, 12, 1]), (false, [7]), (false, [11])] [(true, [none, none, none], true)] <| .po (.k (.int .i64 0)) <| .po (.k (.int .i64 0)) <| .po (.k (.string ⟨#[]⟩)) <| .po (.k (.int .i64 0)) <| .sel [0, 4, 5, 6, 7, 8, 9, 11, 12, 13, 14, 15, 16, 18, 19, 20] <| .loop [0, 5] u_impl_reduce_l4
def u_impl_reduce_j6 : UP := .po (.bin .eql false 0 8) <| .ite 0 (.jump 1 [0, 2, 1, 3, 4, 6, 5]) <| .po (.k (.int .i64 0)) <| .loop [0, 7] u_impl_reduce_l5
def u_impl_reduce_j7 : UP := .po (.k (.int .i64 1)) <| .po (.bin .add false 11 0) <| .jump 0 [0, 3, 2]
def u_impl_reduce_l8 : UP := .po (.bin .lss false 2 6) <| .ite 0 (.po (.lenL 1) <| .po (.bin .lss false 0 9) <| .ite 0 (.sel [0, 3, 4, 5, 9, 10] <| .join 7 u_impl_reduce_j7 <| .po (.lenL 1) <| .join 2 u_impl_reduce_j6 <| .loop [0] u_impl_reduce_l0) <| .po (.k (.bool true)) <| .po (.sc 11) <| .po (.sc 10) <| .po (.sc 0) <| .ret [(true, [11, 10, 5]), (false, [4]), (false, [0])]) <| .po (.k (.bool false)) <| .po (.k (.bool true)) <| .po (.sc 10) <| .po (.sc 9) <| .po (.sc 0) <| .ret [(true, [10, 9, 4]), (false, [3]), (false, [0])]
def u_impl_reduce_u : UP := .po (.k (.int .i64 0)) <| .po (.k (.int .i64 0)) <| .po (.k (.bool false)) <| .po (.sc 5) <| .po (.sc 4) <| .cl 66 [(false, [3])] [(false, [some (33, 3)], true)] <| .po (.k (.int .i64 0)) <| .po (.k (.int .i64 0)) <| .po (.k (.int .i64 0)) <| .po (.k (.int .i64 0)) <| .po (.k (.int .i64 0)) <| .po (.k (.int .i64 0)) <| .po (.k (.int .i64 0)) <| .po (.e 67 5) <| .sel [0, 1, 8, 13, 14] <| .loop [1, 2, 0] u_impl_reduce_l8
theorem u_impl_reduce_g : toUPf Try.prog 50 Try.f50 owA u_impl_reduce_h u_impl_reduce_d = some ([(true, 3)], u_impl_reduce_u) := by kernel_rfl
end Go.Proofs.Ytolkglnkdfcceaa

namespace Go.Proofs.Ytolkglnkdfcceaa
open Go.RowKit
def celF (W : Nat) (l : List It) (i j : Nat) : It := l.getD (i * W + j) default
def fup (f : Nat → Nat → It) (i k : Nat) (x : It) : Nat → Nat → It := fun a b => if a = i ∧ b = k then x else f a b
theorem grid_getD {W R i k : Nat} (f : Nat → Nat → It) (hi : i < R) (hk : k < W) : (gridL W f (R * W)).getD (i * W + k) default = f i k := by
  rw [List.getD_eq_getElem?_getD, gridL_get f hk (grid_lt hi hk)]; rfl
theorem grid_set {W R i k : Nat} (f : Nat → Nat → It) (x : It) (hi : i < R) (hk : k < W) : (gridL W f (R * W)).set (i * W + k) x = gridL W (fup f i k x) (R * W) := by
  apply List.ext_getElem?
  intro t
  rw [List.getElem?_set]
  have hlt := grid_lt hi hk
  obtain ⟨g1, g2⟩ := grid_ix (i := i) hk
  by_cases h : i * W + k = t
  · subst h
    rw [if_pos rfl, gridL_len, if_pos hlt, gridL_get _ hk hlt]
    simp [fup]
  · rw [if_neg h]
    unfold gridL
    rw [List.getElem?_map, List.getElem?_map]
    cases ht : (List.range (R * W))[t]? with
    | none => rfl
    | some u =>
      have hu : u = t := by
        have := List.getElem?_eq_some_iff.1 ht
        obtain ⟨_, e⟩ := this
        simpa using e.symm
      subst hu
      simp only [Option.map_some, fup]
      rw [if_neg]
      rintro ⟨e1, e2⟩
      apply h
      have := Nat.div_add_mod u W
      rw [e1, e2, Nat.mul_comm] at this
      exact this
theorem grid_of {W R : Nat} {l : List It} (hl : l.length = R * W) : l = gridL W (celF W l) (R * W) := by
  apply List.ext_getElem?
  intro t
  unfold gridL celF
  rw [List.getElem?_map]
  by_cases h : t < R * W
  · rw [List.getElem?_range h, List.getElem?_eq_getElem (by omega)]
    simp only [Option.map_some]
    have e : t / W * W + t % W = t := by rw [Nat.mul_comm]; exact Nat.div_add_mod t W
    rw [e, List.getD_eq_getElem?_getD, List.getElem?_eq_getElem (by omega)]; rfl
  · rw [List.getElem?_eq_none (by omega), List.getElem?_eq_none (by simp; omega)]; rfl
def nz (f : Nat → Nat → It) (c R r : Nat) : Nat := ((List.range R).find? fun i => decide (r ≤ i) && !decide ((f i c).num = 0)).getD R
theorem nz_is {f : Nat → Nat → It} {c R r k : Nat} (hk : k ≤ R) (hr : r ≤ k) (h1 : ∀ i, r ≤ i → i < k → (f i c).num = 0) (h2 : k = R ∨ (f k c).num ≠ 0) : nz f c R r = k := by
  unfold nz
  rcases Nat.lt_or_ge k R with h | h
  · have h3 : (f k c).num ≠ 0 := by rcases h2 with h2 | h2
                                    · omega
                                    · exact h2
    have : (List.range R).find? (fun i => decide (r ≤ i) && !decide ((f i c).num = 0)) = some k := by
      rw [List.find?_range_eq_some]
      refine ⟨by simp [hr, h3], List.mem_range.2 h, fun j hj => ?_⟩
      by_cases hrj : r ≤ j
      · simp [h1 j hrj hj]
      · simp [hrj]
    rw [this]; rfl
  · have : (List.range R).find? (fun i => decide (r ≤ i) && !decide ((f i c).num = 0)) = none := by
      rw [List.find?_range_eq_none]
      intro j hj
      by_cases hrj : r ≤ j
      · simp [h1 j hrj (by omega)]
      · simp [hrj]
    rw [this]
    show R = k
    omega
def swapJ (r k : Nat) (f : Nat → Nat → It) (J : Nat) : Nat → Nat → It := fun a b => if b < J then (if a = r then f k b else if a = k then f r b else f a b) else f a b
def divJ (r : Nat) (p : It) (g : Nat → Nat → It) (J : Nat) : Nat → Nat → It := fun a b => if b < J ∧ a = r then divN (g a b) p else g a b
def sdJ (r k : Nat) (p : It) (f : Nat → Nat → It) (J : Nat) : Nat → Nat → It := fun a b => if b < J then (if a = r then divN (f k b) p else if a = k then f r b else f a b) else f a b
def elJ (r c W : Nat) (g : Nat → Nat → It) (i J : Nat) : Nat → Nat → It := fun a b => if (a < i ∧ b < W ∨ a = i ∧ b < J) ∧ a ≠ r ∧ (g a c).num ≠ 0 then subN (g a b) (mulN (g a c) (g r b)) else g a b
variable {r k c W i j : Nat} {f g : Nat → Nat → It} {p : It}
theorem swapJ_0 : swapJ r k f 0 = f := by funext a b; simp [swapJ]
theorem swapJ_at {a : Nat} : swapJ r k f j a j = f a j := by simp [swapJ]
theorem swapJ_r (h : j < W) : swapJ r k f W r j = f k j := by simp [swapJ, h]
theorem swapJ_step : fup (fup (swapJ r k f j) r j (f k j)) k j (f r j) = swapJ r k f (j + 1) := by
  funext a b
  unfold fup swapJ
  rcases Nat.lt_trichotomy b j with h | h | h
  · simp [show b ≠ j by omega, show b < j by omega, show b < j + 1 by omega]
  · subst h
    by_cases h1 : a = k
    · subst h1; by_cases h2 : a = r <;> simp [h2]
    · by_cases h2 : a = r
      · subst h2; simp [h1]
      · simp [h1, h2]
  · simp [show b ≠ j by omega, show ¬ b < j by omega, show ¬ b < j + 1 by omega]
theorem divJ_0 : divJ r p g 0 = g := by funext a b; simp [divJ]
theorem divJ_at {a : Nat} : divJ r p g j a j = g a j := by simp [divJ]
theorem divJ_step : fup (divJ r p g j) r j (divN (g r j) p) = divJ r p g (j + 1) := by
  funext a b
  unfold fup divJ
  rcases Nat.lt_trichotomy b j with h | h | h
  · simp [show b ≠ j by omega, show b < j by omega, show b < j + 1 by omega]
  · subst h; by_cases h2 : a = r <;> simp [h2]
  · simp [show b ≠ j by omega, show ¬ b < j by omega, show ¬ b < j + 1 by omega]
theorem div_swap : divJ r p (swapJ r k f W) W = sdJ r k p f W := by
  funext a b
  unfold divJ swapJ sdJ
  by_cases h : b < W
  · by_cases h2 : a = r <;> simp [h, h2]
  · simp [h]
theorem sdJ_0 : sdJ r k p f 0 = f := by funext a b; simp [sdJ]
theorem sdJ_at {a : Nat} : sdJ r k p f j a j = f a j := by simp [sdJ]
theorem sdJ_step : fup (fup (sdJ r k p f j) k j (f r j)) r j (divN (f k j) p) = sdJ r k p f (j + 1) := by
  funext a b
  unfold fup sdJ
  rcases Nat.lt_trichotomy b j with h | h | h
  · simp [show b ≠ j by omega, show b < j by omega, show b < j + 1 by omega]
  · subst h
    by_cases h1 : a = r
    · subst h1; simp
    · by_cases h2 : a = k <;> simp [h1, h2]
  · simp [show b ≠ j by omega, show ¬ b < j by omega, show ¬ b < j + 1 by omega]
theorem elJ_0 : elJ r c W g 0 0 = g := by funext a b; simp [elJ]
theorem elJ_at : elJ r c W g i j i j = g i j := by simp [elJ]
theorem elJ_c (hc : c < W) : elJ r c W g i 0 i c = g i c := by simp [elJ]
theorem elJ_r {b : Nat} : elJ r c W g i j r b = g r b := by simp [elJ]
theorem elJ_W : elJ r c W g i W = elJ r c W g (i + 1) 0 := by
  funext a b
  unfold elJ
  have : (a < i ∧ b < W ∨ a = i ∧ b < W) ↔ (a < i + 1 ∧ b < W ∨ a = i + 1 ∧ b < 0) := by omega
  simp only [this]
theorem elJ_skip (h : i = r ∨ (g i c).num = 0) : elJ r c W g i 0 = elJ r c W g (i + 1) 0 := by
  funext a b
  unfold elJ
  by_cases ha : a = i
  · subst ha
    rcases h with h | h
    · simp [h]
    · simp [h]
  · have : (a < i ∧ b < W ∨ a = i ∧ b < 0) ↔ (a < i + 1 ∧ b < W ∨ a = i + 1 ∧ b < 0) := by omega
    simp only [this]
theorem elJ_step (h1 : i ≠ r) (h2 : (g i c).num ≠ 0) (hj : j < W) : fup (elJ r c W g i j) i j (subN (g i j) (mulN (g i c) (g r j))) = elJ r c W g i (j + 1) := by
  funext a b
  unfold fup elJ
  by_cases ha : a = i
  · subst ha
    rcases Nat.lt_trichotomy b j with h | h | h
    · simp [h1, h2, show b ≠ j by omega, show b < j by omega, show b < j + 1 by omega]
    · subst h; simp [h1, h2]
    · simp [h1, h2, show b ≠ j by omega, show ¬ b < j by omega, show ¬ b < j + 1 by omega]
  · simp [ha]
def stepF (W R r k c : Nat) (f : Nat → Nat → It) : Nat → Nat → It := elJ r c W (sdJ r k (f k c) f W) R 0
abbrev Stp := Nat × It × Bool
def red1 (W R c : Nat) (f : Nat → Nat → It) (st : List Stp) : Option ((Nat → Nat → It) × List Stp) :=
  if R ≤ st.length then some (f, st) else if nz f c R st.length = R then some (f, st)
  else if allN (gridL W (stepF W R st.length (nz f c R st.length) c f) (R * W)) = true then some (stepF W R st.length (nz f c R st.length) c f, st ++ [(c, f (nz f c R st.length) c, decide (nz f c R st.length ≠ st.length))]) else none
def redS (W R : Nat) (f0 : Nat → Nat → It) : Nat → Option ((Nat → Nat → It) × List Stp)
  | 0 => some (f0, [])
  | c + 1 => match redS W R f0 c with
    | none => none
    | some (f, st) => red1 W R c f st
theorem redS_step {W R : Nat} {f0 f : Nat → Nat → It} {st : List Stp} {c : Nat} (h : redS W R f0 c = some (f, st)) : redS W R f0 (c + 1) = red1 W R c f st := by simp only [redS, h]
theorem redS_none {W R : Nat} {f0 : Nat → Nat → It} {c : Nat} (h : redS W R f0 c = none) : ∀ {d}, c ≤ d → redS W R f0 d = none := by
  intro d hd
  induction d with
  | zero => obtain rfl : c = 0 := by omega
            exact h
  | succ d ih =>
    rcases Nat.lt_or_ge d c with h1 | h1
    · obtain rfl : c = d + 1 := by omega
      exact h
    · simp only [redS, ih h1]
theorem redS_idle {W R : Nat} {f0 f : Nat → Nat → It} {st : List Stp} {c : Nat} (h : redS W R f0 c = some (f, st)) (hs : R ≤ st.length) : ∀ {d}, c ≤ d → redS W R f0 d = some (f, st) := by
  intro d hd
  induction d with
  | zero => obtain rfl : c = 0 := by omega
            exact h
  | succ d ih =>
    rcases Nat.lt_or_ge d c with h1 | h1
    · obtain rfl : c = d + 1 := by omega
      exact h
    · rw [redS_step (ih h1)]; unfold red1; rw [if_pos hs]
theorem redS_len {W R : Nat} {f0 : Nat → Nat → It} : ∀ {c : Nat} {f : Nat → Nat → It} {st : List Stp}, redS W R f0 c = some (f, st) → st.length ≤ c ∧ st.length ≤ R
  | 0, f, st, h => by simp only [redS] at h; injection h with h; injection h with _ h; subst h; simp
  | c + 1, f, st, h => by
    simp only [redS] at h
    split at h
    · cases h
    · rename_i g s1 h1
      obtain ⟨i1, i2⟩ := redS_len h1
      unfold red1 at h
      split at h
      · injection h with h; injection h with _ h; subst h; omega
      · split at h
        · injection h with h; injection h with _ h; subst h; omega
        · split at h
          · injection h with h; injection h with _ h; subst h; simp; omega
          · cases h
end Go.Proofs.Ytolkglnkdfcceaa

namespace Go.Proofs.Ytolkglnkdfcceaa
open Go.RowKit
set_option maxRecDepth 100000
def encSt (x : Stp) : List DV := [.sc (.int .i64 (x.1 : Nat)), .sc (.int .i64 x.2.1.num), .sc (.int .i64 x.2.1.den), .sc (.string x.2.1.text), .sc (.bool x.2.2)]
def encSts (l : List Stp) : DV := .sl 67 5 (l.map encSt)
def resI (W R : Nat) : Option ((Nat → Nat → It) × List Stp) → List Rs
  | none => [(true, encMt ⟨0, 0, []⟩, true), (false, [encSts []], true), (false, [.sc (.bool false)], true)]
  | some (f, st) => [(true, encMt ⟨R, W, gridL W f (R * W)⟩, true), (false, [encSts st], true), (false, [.sc (.bool true)], true)]
theorem cellAt_g {W R i j : Nat} {r : Int} (f : Nat → Nat → It) (hi : i < R) (hj : j < W) (hR : R ≤ 100) (hW : W ≤ 100) :
    Meets Try.prog 44 [(true, encMt ⟨r, W, gridL W f (R * W)⟩), (false, [.sc (.int .i64 (i : Nat))]), (false, [.sc (.int .i64 (j : Nat))])] [(true, encIt (f i j), true)] := by
  have h1 := grid_lt hi hj
  have h2 : R * W ≤ 100 * 100 := Nat.mul_le_mul hR hW
  exact cellAt_m r W i j _ _ (gridL_get f hj h1) (by omega)
theorem nm (a b : Nat) : (a : Int) * (b : Int) = ((a * b : Nat) : Int) := rfl
theorem na (a b : Nat) : (a : Int) + (b : Int) = ((a + b : Nat) : Int) := rfl
theorem fl1_st {t : Nat} {a b c : Int} {d : ByteArray} {e : Bool} : eFlat (some (.sl t 5 [[.sc (.int .i64 a), .sc (.int .i64 b), .sc (.int .i64 c), .sc (.string d), .sc (.bool e)]])) = some [] := rfl
section
variable {W R i k t : Nat} {f : Nat → Nat → It} {kd : IntKind} {x : It}
theorem ix_g (hi : i < R) (hk : k < W) : eIdx 3 (some (.sl t 3 ((gridL W f (R * W)).map encIt))) (some (.sc (.int kd ((i * W + k : Nat) : Int)))) = some (encIt (f i k)) := by
  have := grid_lt hi hk
  rw [ix_it (by omega) (by rw [gridL_len]; omega), Int.toNat_natCast, grid_getD f hi hk]
theorem chk_g (hi : i < R) (hk : k < W) : eChk 3 (some (.sl t 3 ((gridL W f (R * W)).map encIt))) (some (.sc (.int kd ((i * W + k : Nat) : Int)))) = some [] := by
  have := grid_lt hi hk
  exact e_chk_map (by omega) (by rw [gridL_len]; omega)
theorem st_g (hi : i < R) (hk : k < W) : eSet 3 0 (some (.sl t 3 ((gridL W f (R * W)).map encIt))) (some (.sc (.int kd ((i * W + k : Nat) : Int)))) (some [.sc (.int .i64 x.num), .sc (.int .i64 x.den), .sc (.string x.text)]) = some [.sl t 3 ((gridL W (fup f i k x) (R * W)).map encIt)] := by
  have := grid_lt hi hk
  rw [st_it (by omega) (by rw [gridL_len]; omega) rfl, Int.toNat_natCast, ← grid_set f x hi hk, List.map_set]; rfl
end
def Jst (W R c : Nat) (f0 : Nat → Nat → It) (vs : List DV) : Prop := ∃ x0 x1 x2 x3 x4 f' st', vs = [x0, x1, x2, x3, x4, .sl 33 3 ((gridL W f' (R * W)).map encIt), .sl 67 5 (st'.map encSt)] ∧ redS W R f0 (c + 1) = some (f', st')
def Jnz (R c r : Nat) (f : Nat → Nat → It) (vs : List DV) : Prop := ∃ x0, vs = [x0, .sc (.int .i64 (nz f c R r : Nat))] ∧ r ≤ nz f c R r ∧ nz f c R r ≤ R
set_option maxHeartbeats 8000000 in
theorem implRed_m (R W : Nat) (f0 : Nat → Nat → It) (hR : R ≤ 100) (hW : W ≤ 100) :
    Meets Try.prog 50 [(true, encMt ⟨R, W, gridL W f0 (R * W)⟩)] (resI W R (redS W R f0 W)) := by
  have hRW : R * W ≤ 100 * 100 := Nat.mul_le_mul hR hW
  have hcp := copyItems_m (gridL W f0 (R * W)) (by rw [gridL_len]; omega)
  refine meets_upf Try.func50 u_impl_reduce_g rfl ?_; simp only [u_impl_reduce_u]
  simp only [encMt, encIts] at hcp ⊢
  simp (disch := first | omega | (simp only [List.length_take, List.length_drop, List.length_append, List.map_cons, List.map_nil, List.length_map, List.length_cons, List.length_nil, List.length_set, List.length_replicate]; omega) | (simp only [List.length_cons, List.length_nil, Nat.zero_add, Nat.reduceAdd])) only [go_sem, ↓reduceIte, Nat.reduceAdd, Int.reduceNeg, Int.reduceAdd, Int.reduceSub, Int.reduceMul, Int.reduceLT, Int.reduceLE, Int.reduceEq, Int.reduceToNat, Nat.reduceBEq, true_and]
  refine cl_ok hcp rfl ?_
  simp (disch := first | omega | (simp only [List.length_take, List.length_drop, List.length_append, List.map_cons, List.map_nil, List.length_map, List.length_cons, List.length_nil, List.length_set, List.length_replicate]; omega) | (simp only [List.length_cons, List.length_nil, Nat.zero_add, Nat.reduceAdd])) only [go_sem, ↓reduceIte, Nat.reduceAdd, Int.reduceNeg, Int.reduceAdd, Int.reduceSub, Int.reduceMul, Int.reduceLT, Int.reduceLE, Int.reduceEq, Int.reduceToNat, Nat.reduceBEq, true_and]
  refine lp (fun s : Nat × (Nat → Nat → It) × List Stp => [.sc (.int .i64 (s.1 : Nat)), .sl 33 3 ((gridL W s.2.1 (R * W)).map encIt), .sl 67 5 (s.2.2.map encSt)]) (fun s => s.1 ≤ W ∧ redS W R f0 s.1 = some (s.2.1, s.2.2)) (fun s => W - s.1) (0, f0, []) rfl ⟨by simp, rfl⟩ ?_
  rintro ⟨c, f, st⟩ ⟨g1, g2⟩
  simp only at g1 g2 ⊢
  obtain ⟨g3, g4⟩ := redS_len g2
  simp only [u_impl_reduce_l8]
  simp (disch := first | omega | (simp only [List.length_take, List.length_drop, List.length_append, List.map_cons, List.map_nil, List.length_map, List.length_cons, List.length_nil, List.length_set, List.length_replicate]; omega) | (simp only [List.length_cons, List.length_nil, Nat.zero_add, Nat.reduceAdd])) only [go_sem, ↓reduceIte, Nat.reduceAdd, Int.reduceNeg, Int.reduceAdd, Int.reduceSub, Int.reduceMul, Int.reduceLT, Int.reduceLE, Int.reduceEq, Int.reduceToNat, Nat.reduceBEq, true_and]
  refine br_if (fun hc => ?_) (fun hc => ?_)
  rotate_left
  · obtain rfl : c = W := by omega
    rw [g2]
    simp (disch := first | omega | (simp only [List.length_take, List.length_drop, List.length_append, List.map_cons, List.map_nil, List.length_map, List.length_cons, List.length_nil, List.length_set, List.length_replicate]; omega) | (simp only [List.length_cons, List.length_nil, Nat.zero_add, Nat.reduceAdd])) only [go_sem, ↓reduceIte, Nat.reduceAdd, Int.reduceNeg, Int.reduceAdd, Int.reduceSub, Int.reduceMul, Int.reduceLT, Int.reduceLE, Int.reduceEq, Int.reduceToNat, Nat.reduceBEq, true_and]
    rfl
  simp (disch := first | omega | (simp only [List.length_take, List.length_drop, List.length_append, List.map_cons, List.map_nil, List.length_map, List.length_cons, List.length_nil, List.length_set, List.length_replicate]; omega) | (simp only [List.length_cons, List.length_nil, Nat.zero_add, Nat.reduceAdd])) only [go_sem, ↓reduceIte, Nat.reduceAdd, Int.reduceNeg, Int.reduceAdd, Int.reduceSub, Int.reduceMul, Int.reduceLT, Int.reduceLE, Int.reduceEq, Int.reduceToNat, Nat.reduceBEq, true_and]
  refine br_if (fun hr => ?_) (fun hr => ?_)
  rotate_left
  · rw [redS_idle g2 (by omega) g1]
    simp (disch := first | omega | (simp only [List.length_take, List.length_drop, List.length_append, List.map_cons, List.map_nil, List.length_map, List.length_cons, List.length_nil, List.length_set, List.length_replicate]; omega) | (simp only [List.length_cons, List.length_nil, Nat.zero_add, Nat.reduceAdd])) only [go_sem, ↓reduceIte, Nat.reduceAdd, Int.reduceNeg, Int.reduceAdd, Int.reduceSub, Int.reduceMul, Int.reduceLT, Int.reduceLE, Int.reduceEq, Int.reduceToNat, Nat.reduceBEq, true_and]
    rfl
  simp (disch := first | omega | (simp only [List.length_take, List.length_drop, List.length_append, List.map_cons, List.map_nil, List.length_map, List.length_cons, List.length_nil, List.length_set, List.length_replicate]; omega) | (simp only [List.length_cons, List.length_nil, Nat.zero_add, Nat.reduceAdd])) only [go_sem, ↓reduceIte, Nat.reduceAdd, Int.reduceNeg, Int.reduceAdd, Int.reduceSub, Int.reduceMul, Int.reduceLT, Int.reduceLE, Int.reduceEq, Int.reduceToNat, Nat.reduceBEq, true_and]
  have hrR : st.length < R := by omega
  have hcW : c < W := by omega
  generalize hrr : st.length = r at *
  refine jn (Jst W R c f0) ?_ ?_
  rotate_left
  · rintro vs - ⟨x0, x1, x2, x3, x4, f', st', rfl, h1⟩
    simp only [u_impl_reduce_j7]
    simp (disch := first | omega | (simp only [List.length_take, List.length_drop, List.length_append, List.map_cons, List.map_nil, List.length_map, List.length_cons, List.length_nil, List.length_set, List.length_replicate]; omega) | (simp only [List.length_cons, List.length_nil, Nat.zero_add, Nat.reduceAdd])) only [go_sem, ↓reduceIte, Nat.reduceAdd, Int.reduceNeg, Int.reduceAdd, Int.reduceSub, Int.reduceMul, Int.reduceLT, Int.reduceLE, Int.reduceEq, Int.reduceToNat, Nat.reduceBEq, nat1]
    exact ⟨(c + 1, f', st'), rfl, ⟨by simp only; omega, h1⟩, by simp only; omega⟩
  have hstep := redS_step g2
  unfold red1 at hstep
  rw [hrr, if_neg (by omega)] at hstep
  simp (disch := first | omega | (simp only [List.length_take, List.length_drop, List.length_append, List.map_cons, List.map_nil, List.length_map, List.length_cons, List.length_nil, List.length_set, List.length_replicate]; omega) | (simp only [List.length_cons, List.length_nil, Nat.zero_add, Nat.reduceAdd])) only [go_sem, ↓reduceIte, Nat.reduceAdd, Int.reduceNeg, Int.reduceAdd, Int.reduceSub, Int.reduceMul, Int.reduceLT, Int.reduceLE, Int.reduceEq, Int.reduceToNat, Nat.reduceBEq, hrr]
  refine jn (Jnz R c r f) ?_ ?_
  · refine lp (fun k : Nat => [.sc (.int .i64 (k : Nat))]) (fun k => r ≤ k ∧ k ≤ R ∧ ∀ i, r ≤ i → i < k → (f i c).num = 0) (fun k => R - k) r (by simp (disch := first | omega | (simp only [List.length_take, List.length_drop, List.length_append, List.map_cons, List.map_nil, List.length_map, List.length_cons, List.length_nil, List.length_set, List.length_replicate]; omega) | (simp only [List.length_cons, List.length_nil, Nat.zero_add, Nat.reduceAdd])) only [go_sem, ↓reduceIte, Nat.reduceAdd, Int.reduceNeg, Int.reduceAdd, Int.reduceSub, Int.reduceMul, Int.reduceLT, Int.reduceLE, Int.reduceEq, Int.reduceToNat, Nat.reduceBEq, hrr]) ⟨Nat.le_refl _, by omega, fun i h1 h2 => by omega⟩ ?_
    rintro k ⟨k1, k2, k3⟩
    simp only [u_impl_reduce_l0]
    simp (disch := first | omega | (simp only [List.length_take, List.length_drop, List.length_append, List.map_cons, List.map_nil, List.length_map, List.length_cons, List.length_nil, List.length_set, List.length_replicate]; omega) | (simp only [List.length_cons, List.length_nil, Nat.zero_add, Nat.reduceAdd])) only [go_sem, ↓reduceIte, Nat.reduceAdd, Int.reduceNeg, Int.reduceAdd, Int.reduceSub, Int.reduceMul, Int.reduceLT, Int.reduceLE, Int.reduceEq, Int.reduceToNat, Nat.reduceBEq, true_and]
    refine br_if (fun hk => ?_) (fun hk => ?_)
    · have hkR : k < R := by omega
      simp (disch := first | omega | (simp only [List.length_take, List.length_drop, List.length_append, List.map_cons, List.map_nil, List.length_map, List.length_cons, List.length_nil, List.length_set, List.length_replicate]; omega) | (simp only [List.length_cons, List.length_nil, Nat.zero_add, Nat.reduceAdd])) only [go_sem, ↓reduceIte, Nat.reduceAdd, Int.reduceNeg, Int.reduceAdd, Int.reduceSub, Int.reduceMul, Int.reduceLT, Int.reduceLE, Int.reduceEq, Int.reduceToNat, Nat.reduceBEq, true_and]
      refine cl_ok (cellAt_g f hkR hcW hR hW) rfl ?_
      simp (disch := first | omega | (simp only [List.length_take, List.length_drop, List.length_append, List.map_cons, List.map_nil, List.length_map, List.length_cons, List.length_nil, List.length_set, List.length_replicate]; omega) | (simp only [List.length_cons, List.length_nil, Nat.zero_add, Nat.reduceAdd])) only [go_sem, ↓reduceIte, Nat.reduceAdd, Int.reduceNeg, Int.reduceAdd, Int.reduceSub, Int.reduceMul, Int.reduceLT, Int.reduceLE, Int.reduceEq, Int.reduceToNat, Nat.reduceBEq, encIt]
      refine br_if (fun h0 => ?_) (fun h0 => ?_)
      · simp (disch := first | omega | (simp only [List.length_take, List.length_drop, List.length_append, List.map_cons, List.map_nil, List.length_map, List.length_cons, List.length_nil, List.length_set, List.length_replicate]; omega) | (simp only [List.length_cons, List.length_nil, Nat.zero_add, Nat.reduceAdd])) only [go_sem, ↓reduceIte, Nat.reduceAdd, Int.reduceNeg, Int.reduceAdd, Int.reduceSub, Int.reduceMul, Int.reduceLT, Int.reduceLE, Int.reduceEq, Int.reduceToNat, Nat.reduceBEq, nat1]
        exact ⟨k + 1, rfl, ⟨by omega, by omega, fun i h1 h2 => by
          rcases Nat.lt_or_ge i k with h | h
          · exact k3 i h1 h
          · obtain rfl : i = k := by omega
            exact h0⟩, by omega⟩
      · have hn := nz_is k2 k1 k3 (.inr h0)
        simp (disch := first | omega | (simp only [List.length_take, List.length_drop, List.length_append, List.map_cons, List.map_nil, List.length_map, List.length_cons, List.length_nil, List.length_set, List.length_replicate]; omega) | (simp only [List.length_cons, List.length_nil, Nat.zero_add, Nat.reduceAdd])) only [go_sem, ↓reduceIte, Nat.reduceAdd, Int.reduceNeg, Int.reduceAdd, Int.reduceSub, Int.reduceMul, Int.reduceLT, Int.reduceLE, Int.reduceEq, Int.reduceToNat, Nat.reduceBEq, true_and]
        exact ⟨_, by rw [hn], by omega, by omega⟩
    · obtain rfl : k = R := by omega
      have hn := nz_is k2 k1 k3 (.inl rfl)
      simp (disch := first | omega | (simp only [List.length_take, List.length_drop, List.length_append, List.map_cons, List.map_nil, List.length_map, List.length_cons, List.length_nil, List.length_set, List.length_replicate]; omega) | (simp only [List.length_cons, List.length_nil, Nat.zero_add, Nat.reduceAdd])) only [go_sem, ↓reduceIte, Nat.reduceAdd, Int.reduceNeg, Int.reduceAdd, Int.reduceSub, Int.reduceMul, Int.reduceLT, Int.reduceLE, Int.reduceEq, Int.reduceToNat, Nat.reduceBEq, true_and]
      exact ⟨_, by rw [hn], by omega, by omega⟩
  rintro vs - ⟨x0, rfl, n1, n2⟩
  generalize hk0 : nz f c R r = k at *
  simp only [u_impl_reduce_j6]
  simp (disch := first | omega | (simp only [List.length_take, List.length_drop, List.length_append, List.map_cons, List.map_nil, List.length_map, List.length_cons, List.length_nil, List.length_set, List.length_replicate]; omega) | (simp only [List.length_cons, List.length_nil, Nat.zero_add, Nat.reduceAdd])) only [go_sem, ↓reduceIte, Nat.reduceAdd, Int.reduceNeg, Int.reduceAdd, Int.reduceSub, Int.reduceMul, Int.reduceLT, Int.reduceLE, Int.reduceEq, Int.reduceToNat, Nat.reduceBEq, true_and]
  refine br_if (fun hk => ?_) (fun hk => ?_)
  · rw [if_pos (by omega)] at hstep
    simp (disch := first | omega | (simp only [List.length_take, List.length_drop, List.length_append, List.map_cons, List.map_nil, List.length_map, List.length_cons, List.length_nil, List.length_set, List.length_replicate]; omega) | (simp only [List.length_cons, List.length_nil, Nat.zero_add, Nat.reduceAdd])) only [go_sem, ↓reduceIte, Nat.reduceAdd, Int.reduceNeg, Int.reduceAdd, Int.reduceSub, Int.reduceMul, Int.reduceLT, Int.reduceLE, Int.reduceEq, Int.reduceToNat, Nat.reduceBEq, true_and]
    exact ⟨_, _, _, _, _, f, st, rfl, hstep⟩
  have hkR : k < R := by omega
  rw [if_neg (by omega)] at hstep
  have bR : ∀ i, i < R → i * W ≤ 10000 := fun i hi => by
    have : i * W ≤ 100 * 100 := Nat.mul_le_mul (by omega) hW
    omega
  have br := bR r hrR
  have bk := bR k hkR
  simp (disch := first | omega | (simp only [List.length_take, List.length_drop, List.length_append, List.map_cons, List.map_nil, List.length_map, List.length_cons, List.length_nil, List.length_set, List.length_replicate]; omega) | (simp only [List.length_cons, List.length_nil, Nat.zero_add, Nat.reduceAdd])) only [go_sem, ↓reduceIte, Nat.reduceAdd, Int.reduceNeg, Int.reduceAdd, Int.reduceSub, Int.reduceMul, Int.reduceLT, Int.reduceLE, Int.reduceEq, Int.reduceToNat, Nat.reduceBEq, true_and]
  refine lp_n W (fun j => [.sc (.int .i64 (j : Nat)), .sl 33 3 ((gridL W (swapJ r k f j) (R * W)).map encIt)]) (by rw [swapJ_0]; rfl) fun j hj => ?_
  simp only [u_impl_reduce_l5]
  simp (disch := first | omega | (simp only [List.length_take, List.length_drop, List.length_append, List.map_cons, List.map_nil, List.length_map, List.length_cons, List.length_nil, List.length_set, List.length_replicate]; omega) | (simp only [List.length_cons, List.length_nil, Nat.zero_add, Nat.reduceAdd])) only [go_sem, ↓reduceIte, Nat.reduceAdd, Int.reduceNeg, Int.reduceAdd, Int.reduceSub, Int.reduceMul, Int.reduceLT, Int.reduceLE, Int.reduceEq, Int.reduceToNat, Nat.reduceBEq, true_and]
  refine br_if (fun h => ?_) (fun h => ?_)
  · have hjW : j < W := by omega
    simp (disch := first | omega | (simp only [List.length_take, List.length_drop, List.length_append, List.map_cons, List.map_nil, List.length_map, List.length_cons, List.length_nil, List.length_set, List.length_replicate]; omega) | (simp only [List.length_cons, List.length_nil, Nat.zero_add, Nat.reduceAdd])) only [go_sem, ↓reduceIte, Nat.reduceAdd, Int.reduceNeg, Int.reduceAdd, Int.reduceSub, Int.reduceMul, Int.reduceLT, Int.reduceLE, Int.reduceEq, Int.reduceToNat, Nat.reduceBEq, nm, na, ix_g, chk_g, encIt, st_g, swapJ_at, swapJ_step, nat1]
    exact hjW
  obtain rfl : W = j := by omega
  simp (disch := first | omega | (simp only [List.length_take, List.length_drop, List.length_append, List.map_cons, List.map_nil, List.length_map, List.length_cons, List.length_nil, List.length_set, List.length_replicate]; omega) | (simp only [List.length_cons, List.length_nil, Nat.zero_add, Nat.reduceAdd])) only [go_sem, ↓reduceIte, Nat.reduceAdd, Int.reduceNeg, Int.reduceAdd, Int.reduceSub, Int.reduceMul, Int.reduceLT, Int.reduceLE, Int.reduceEq, Int.reduceToNat, Nat.reduceBEq, true_and]
  refine cl_ok (cellAt_g (swapJ r k f W) hrR hcW hR hW) rfl ?_
  simp (disch := first | omega | (simp only [List.length_take, List.length_drop, List.length_append, List.map_cons, List.map_nil, List.length_map, List.length_cons, List.length_nil, List.length_set, List.length_replicate]; omega) | (simp only [List.length_cons, List.length_nil, Nat.zero_add, Nat.reduceAdd])) only [go_sem, ↓reduceIte, Nat.reduceAdd, Int.reduceNeg, Int.reduceAdd, Int.reduceSub, Int.reduceMul, Int.reduceLT, Int.reduceLE, Int.reduceEq, Int.reduceToNat, Nat.reduceBEq, encIt, swapJ_r hcW]
  generalize hp : f k c = p at *
  refine lp_n W (fun i => [.sc (.int .i64 (i : Nat)), .sl 33 3 ((gridL W (divJ r p (swapJ r k f W) i) (R * W)).map encIt)]) (by rw [divJ_0]; rfl) fun i hi => ?_
  simp only [u_impl_reduce_l4]
  simp (disch := first | omega | (simp only [List.length_take, List.length_drop, List.length_append, List.map_cons, List.map_nil, List.length_map, List.length_cons, List.length_nil, List.length_set, List.length_replicate]; omega) | (simp only [List.length_cons, List.length_nil, Nat.zero_add, Nat.reduceAdd])) only [go_sem, ↓reduceIte, Nat.reduceAdd, Int.reduceNeg, Int.reduceAdd, Int.reduceSub, Int.reduceMul, Int.reduceLT, Int.reduceLE, Int.reduceEq, Int.reduceToNat, Nat.reduceBEq, true_and]
  refine br_if (fun h => ?_) (fun h => ?_)
  · have hiW : i < W := by omega
    simp (disch := first | omega | (simp only [List.length_take, List.length_drop, List.length_append, List.map_cons, List.map_nil, List.length_map, List.length_cons, List.length_nil, List.length_set, List.length_replicate]; omega) | (simp only [List.length_cons, List.length_nil, Nat.zero_add, Nat.reduceAdd])) only [go_sem, ↓reduceIte, Nat.reduceAdd, Int.reduceNeg, Int.reduceAdd, Int.reduceSub, Int.reduceMul, Int.reduceLT, Int.reduceLE, Int.reduceEq, Int.reduceToNat, Nat.reduceBEq, nm, na]
    refine cl_ok (cellAt_g _ hrR hiW hR hW) rfl ?_
    simp (disch := first | omega | (simp only [List.length_take, List.length_drop, List.length_append, List.map_cons, List.map_nil, List.length_map, List.length_cons, List.length_nil, List.length_set, List.length_replicate]; omega) | (simp only [List.length_cons, List.length_nil, Nat.zero_add, Nat.reduceAdd])) only [go_sem, ↓reduceIte, Nat.reduceAdd, Int.reduceNeg, Int.reduceAdd, Int.reduceSub, Int.reduceMul, Int.reduceLT, Int.reduceLE, Int.reduceEq, Int.reduceToNat, Nat.reduceBEq, encIt, divJ_at]
    refine cl_ok (mImplDiv _ p) rfl ?_
    simp (disch := first | omega | (simp only [List.length_take, List.length_drop, List.length_append, List.map_cons, List.map_nil, List.length_map, List.length_cons, List.length_nil, List.length_set, List.length_replicate]; omega) | (simp only [List.length_cons, List.length_nil, Nat.zero_add, Nat.reduceAdd])) only [go_sem, ↓reduceIte, Nat.reduceAdd, Int.reduceNeg, Int.reduceAdd, Int.reduceSub, Int.reduceMul, Int.reduceLT, Int.reduceLE, Int.reduceEq, Int.reduceToNat, Nat.reduceBEq, nm, na, ix_g, chk_g, encIt, st_g, divJ_at, divJ_step, nat1]
    exact hiW
  obtain rfl : W = i := by omega
  rw [div_swap]
  have hgf : elJ r c W (sdJ r k p f W) R 0 = stepF W R r k c f := by unfold stepF; rw [hp]
  generalize sdJ r k p f W = g at *
  simp (disch := first | omega | (simp only [List.length_take, List.length_drop, List.length_append, List.map_cons, List.map_nil, List.length_map, List.length_cons, List.length_nil, List.length_set, List.length_replicate]; omega) | (simp only [List.length_cons, List.length_nil, Nat.zero_add, Nat.reduceAdd])) only [go_sem, ↓reduceIte, Nat.reduceAdd, Int.reduceNeg, Int.reduceAdd, Int.reduceSub, Int.reduceMul, Int.reduceLT, Int.reduceLE, Int.reduceEq, Int.reduceToNat, Nat.reduceBEq, true_and]
  refine lp_n R (fun i => [.sc (.int .i64 (i : Nat)), .sc (.bool (decide ((W : Int) < W))), .sc (.int .i64 (W : Nat)), .sc (.bool (decide ((W : Int) < W))), .sc (.int .i64 (W : Nat)), .sc (.bool (decide ((k : Int) = R))), x0, .sc (.int .i64 (k : Nat)), .sc (.int .i64 (r : Nat)), .sc (.bool (decide ((r : Int) < R))),
    .sl 33 3 ((gridL W (elJ r c W g i 0) (R * W)).map encIt), .sl 67 5 (st.map encSt), .sc (.int .i64 p.num), .sc (.int .i64 p.den), .sc (.string p.text)]) (by rw [elJ_0]; rfl) fun i hi => ?_
  simp only [u_impl_reduce_l3]
  simp (disch := first | omega | (simp only [List.length_take, List.length_drop, List.length_append, List.map_cons, List.map_nil, List.length_map, List.length_cons, List.length_nil, List.length_set, List.length_replicate]; omega) | (simp only [List.length_cons, List.length_nil, Nat.zero_add, Nat.reduceAdd])) only [go_sem, ↓reduceIte, Nat.reduceAdd, Int.reduceNeg, Int.reduceAdd, Int.reduceSub, Int.reduceMul, Int.reduceLT, Int.reduceLE, Int.reduceEq, Int.reduceToNat, Nat.reduceBEq, true_and]
  refine br_if (fun h => ?_) (fun h => ?_)
  · have hiR : i < R := by omega
    have bi := bR i hiR
    simp (disch := first | omega | (simp only [List.length_take, List.length_drop, List.length_append, List.map_cons, List.map_nil, List.length_map, List.length_cons, List.length_nil, List.length_set, List.length_replicate]; omega) | (simp only [List.length_cons, List.length_nil, Nat.zero_add, Nat.reduceAdd])) only [go_sem, ↓reduceIte, Nat.reduceAdd, Int.reduceNeg, Int.reduceAdd, Int.reduceSub, Int.reduceMul, Int.reduceLT, Int.reduceLE, Int.reduceEq, Int.reduceToNat, Nat.reduceBEq, true_and]
    refine jn (fun vs => ∃ y0 y2 y3 y4, vs = [y0, .sl 33 3 ((gridL W (elJ r c W g (i + 1) 0) (R * W)).map encIt), y2, y3, y4]) ?_ ?_
    rotate_left
    · rintro vs - ⟨y0, y2, y3, y4, rfl⟩
      simp only [u_impl_reduce_j2]
      simp (disch := first | omega | (simp only [List.length_take, List.length_drop, List.length_append, List.map_cons, List.map_nil, List.length_map, List.length_cons, List.length_nil, List.length_set, List.length_replicate]; omega) | (simp only [List.length_cons, List.length_nil, Nat.zero_add, Nat.reduceAdd])) only [go_sem, ↓reduceIte, Nat.reduceAdd, Int.reduceNeg, Int.reduceAdd, Int.reduceSub, Int.reduceMul, Int.reduceLT, Int.reduceLE, Int.reduceEq, Int.reduceToNat, Nat.reduceBEq, nat1]
      exact hiR
    simp (disch := first | omega | (simp only [List.length_take, List.length_drop, List.length_append, List.map_cons, List.map_nil, List.length_map, List.length_cons, List.length_nil, List.length_set, List.length_replicate]; omega) | (simp only [List.length_cons, List.length_nil, Nat.zero_add, Nat.reduceAdd])) only [go_sem, ↓reduceIte, Nat.reduceAdd, Int.reduceNeg, Int.reduceAdd, Int.reduceSub, Int.reduceMul, Int.reduceLT, Int.reduceLE, Int.reduceEq, Int.reduceToNat, Nat.reduceBEq, true_and]
    refine cl_ok (cellAt_g _ hiR hcW hR hW) rfl ?_
    simp (disch := first | omega | (simp only [List.length_take, List.length_drop, List.length_append, List.map_cons, List.map_nil, List.length_map, List.length_cons, List.length_nil, List.length_set, List.length_replicate]; omega) | (simp only [List.length_cons, List.length_nil, Nat.zero_add, Nat.reduceAdd])) only [go_sem, ↓reduceIte, Nat.reduceAdd, Int.reduceNeg, Int.reduceAdd, Int.reduceSub, Int.reduceMul, Int.reduceLT, Int.reduceLE, Int.reduceEq, Int.reduceToNat, Nat.reduceBEq, encIt, elJ_c hcW]
    refine br_if (fun hir => ?_) (fun hir => ?_)
    · simp (disch := first | omega | (simp only [List.length_take, List.length_drop, List.length_append, List.map_cons, List.map_nil, List.length_map, List.length_cons, List.length_nil, List.length_set, List.length_replicate]; omega) | (simp only [List.length_cons, List.length_nil, Nat.zero_add, Nat.reduceAdd])) only [go_sem, ↓reduceIte, Nat.reduceAdd, Int.reduceNeg, Int.reduceAdd, Int.reduceSub, Int.reduceMul, Int.reduceLT, Int.reduceLE, Int.reduceEq, Int.reduceToNat, Nat.reduceBEq, elJ_skip (g := g) (c := c) (W := W) (i := i) (r := r) (Or.inl (by omega))]
      exact ⟨_, _, _, _, rfl⟩
    simp (disch := first | omega | (simp only [List.length_take, List.length_drop, List.length_append, List.map_cons, List.map_nil, List.length_map, List.length_cons, List.length_nil, List.length_set, List.length_replicate]; omega) | (simp only [List.length_cons, List.length_nil, Nat.zero_add, Nat.reduceAdd])) only [go_sem, ↓reduceIte, Nat.reduceAdd, Int.reduceNeg, Int.reduceAdd, Int.reduceSub, Int.reduceMul, Int.reduceLT, Int.reduceLE, Int.reduceEq, Int.reduceToNat, Nat.reduceBEq, true_and]
    refine br_if (fun hn => ?_) (fun hn => ?_)
    · simp (disch := first | omega | (simp only [List.length_take, List.length_drop, List.length_append, List.map_cons, List.map_nil, List.length_map, List.length_cons, List.length_nil, List.length_set, List.length_replicate]; omega) | (simp only [List.length_cons, List.length_nil, Nat.zero_add, Nat.reduceAdd])) only [go_sem, ↓reduceIte, Nat.reduceAdd, Int.reduceNeg, Int.reduceAdd, Int.reduceSub, Int.reduceMul, Int.reduceLT, Int.reduceLE, Int.reduceEq, Int.reduceToNat, Nat.reduceBEq, elJ_skip (g := g) (c := c) (W := W) (i := i) (r := r) (Or.inr hn)]
      exact ⟨_, _, _, _, rfl⟩
    have hir' : i ≠ r := by omega
    simp (disch := first | omega | (simp only [List.length_take, List.length_drop, List.length_append, List.map_cons, List.map_nil, List.length_map, List.length_cons, List.length_nil, List.length_set, List.length_replicate]; omega) | (simp only [List.length_cons, List.length_nil, Nat.zero_add, Nat.reduceAdd])) only [go_sem, ↓reduceIte, Nat.reduceAdd, Int.reduceNeg, Int.reduceAdd, Int.reduceSub, Int.reduceMul, Int.reduceLT, Int.reduceLE, Int.reduceEq, Int.reduceToNat, Nat.reduceBEq, true_and]
    refine lp_n W (fun j => [.sc (.int .i64 (j : Nat)), .sl 33 3 ((gridL W (elJ r c W g i j) (R * W)).map encIt)]) rfl fun j hj => ?_
    simp only [u_impl_reduce_l1]
    simp (disch := first | omega | (simp only [List.length_take, List.length_drop, List.length_append, List.map_cons, List.map_nil, List.length_map, List.length_cons, List.length_nil, List.length_set, List.length_replicate]; omega) | (simp only [List.length_cons, List.length_nil, Nat.zero_add, Nat.reduceAdd])) only [go_sem, ↓reduceIte, Nat.reduceAdd, Int.reduceNeg, Int.reduceAdd, Int.reduceSub, Int.reduceMul, Int.reduceLT, Int.reduceLE, Int.reduceEq, Int.reduceToNat, Nat.reduceBEq, true_and]
    refine br_if (fun h => ?_) (fun h => ?_)
    · have hjW : j < W := by omega
      simp (disch := first | omega | (simp only [List.length_take, List.length_drop, List.length_append, List.map_cons, List.map_nil, List.length_map, List.length_cons, List.length_nil, List.length_set, List.length_replicate]; omega) | (simp only [List.length_cons, List.length_nil, Nat.zero_add, Nat.reduceAdd])) only [go_sem, ↓reduceIte, Nat.reduceAdd, Int.reduceNeg, Int.reduceAdd, Int.reduceSub, Int.reduceMul, Int.reduceLT, Int.reduceLE, Int.reduceEq, Int.reduceToNat, Nat.reduceBEq, nm, na]
      refine cl_ok (cellAt_g _ hiR hjW hR hW) rfl ?_
      simp (disch := first | omega | (simp only [List.length_take, List.length_drop, List.length_append, List.map_cons, List.map_nil, List.length_map, List.length_cons, List.length_nil, List.length_set, List.length_replicate]; omega) | (simp only [List.length_cons, List.length_nil, Nat.zero_add, Nat.reduceAdd])) only [go_sem, ↓reduceIte, Nat.reduceAdd, Int.reduceNeg, Int.reduceAdd, Int.reduceSub, Int.reduceMul, Int.reduceLT, Int.reduceLE, Int.reduceEq, Int.reduceToNat, Nat.reduceBEq, encIt, elJ_at]
      refine cl_ok (cellAt_g _ hrR hjW hR hW) rfl ?_
      simp (disch := first | omega | (simp only [List.length_take, List.length_drop, List.length_append, List.map_cons, List.map_nil, List.length_map, List.length_cons, List.length_nil, List.length_set, List.length_replicate]; omega) | (simp only [List.length_cons, List.length_nil, Nat.zero_add, Nat.reduceAdd])) only [go_sem, ↓reduceIte, Nat.reduceAdd, Int.reduceNeg, Int.reduceAdd, Int.reduceSub, Int.reduceMul, Int.reduceLT, Int.reduceLE, Int.reduceEq, Int.reduceToNat, Nat.reduceBEq, encIt, elJ_r]
      refine cl_ok (mImplMul (g i c) (g r j)) rfl ?_
      simp (disch := first | omega | (simp only [List.length_take, List.length_drop, List.length_append, List.map_cons, List.map_nil, List.length_map, List.length_cons, List.length_nil, List.length_set, List.length_replicate]; omega) | (simp only [List.length_cons, List.length_nil, Nat.zero_add, Nat.reduceAdd])) only [go_sem, ↓reduceIte, Nat.reduceAdd, Int.reduceNeg, Int.reduceAdd, Int.reduceSub, Int.reduceMul, Int.reduceLT, Int.reduceLE, Int.reduceEq, Int.reduceToNat, Nat.reduceBEq, encIt]
      refine cl_ok (mImplSub (g i j) _) rfl ?_
      simp (disch := first | omega | (simp only [List.length_take, List.length_drop, List.length_append, List.map_cons, List.map_nil, List.length_map, List.length_cons, List.length_nil, List.length_set, List.length_replicate]; omega) | (simp only [List.length_cons, List.length_nil, Nat.zero_add, Nat.reduceAdd])) only [go_sem, ↓reduceIte, Nat.reduceAdd, Int.reduceNeg, Int.reduceAdd, Int.reduceSub, Int.reduceMul, Int.reduceLT, Int.reduceLE, Int.reduceEq, Int.reduceToNat, Nat.reduceBEq, nm, na, ix_g, chk_g, encIt, st_g, elJ_step hir' hn hjW, nat1]
      exact hjW
    · obtain rfl : W = j := by omega
      simp (disch := first | omega | (simp only [List.length_take, List.length_drop, List.length_append, List.map_cons, List.map_nil, List.length_map, List.length_cons, List.length_nil, List.length_set, List.length_replicate]; omega) | (simp only [List.length_cons, List.length_nil, Nat.zero_add, Nat.reduceAdd])) only [go_sem, ↓reduceIte, Nat.reduceAdd, Int.reduceNeg, Int.reduceAdd, Int.reduceSub, Int.reduceMul, Int.reduceLT, Int.reduceLE, Int.reduceEq, Int.reduceToNat, Nat.reduceBEq, elJ_W]
      exact ⟨_, _, _, _, rfl⟩
  obtain rfl : R = i := by omega
  rw [hgf]
  have hall := allNumbers_m (gridL W (stepF W R r k c f) (R * W)) (by rw [gridL_len]; omega)
  simp only [encIts] at hall
  have hlen : (st ++ [(c, p, decide (k ≠ r))]).length ≤ 200 := by simp; omega
  generalize hsf : stepF W R r k c f = sf at *
  have hst : (st.map encSt) ++ [[.sc (.int .i64 (c : Nat)), .sc (.int .i64 p.num), .sc (.int .i64 p.den), .sc (.string p.text), .sc (.bool (!decide ((k : Int) = (r : Int))))]] = (st ++ [(c, p, decide (k ≠ r))]).map encSt := by
    rw [List.map_append]
    simp only [encSt, List.map_cons, List.map_nil]
    congr 7
    by_cases h : k = r
    · simp [h]
    · have : ¬ (k : Int) = r := by omega
      simp [h, this]
  simp (disch := first | omega | (simp only [List.length_take, List.length_drop, List.length_append, List.map_cons, List.map_nil, List.length_map, List.length_cons, List.length_nil, List.length_set, List.length_replicate]; omega) | (simp only [List.length_cons, List.length_nil, Nat.zero_add, Nat.reduceAdd])) only [go_sem, ↓reduceIte, Nat.reduceAdd, Int.reduceNeg, Int.reduceAdd, Int.reduceSub, Int.reduceMul, Int.reduceLT, Int.reduceLE, Int.reduceEq, Int.reduceToNat, Nat.reduceBEq, fl1_st, hst]
  refine cl_ok hall rfl ?_
  simp (disch := first | omega | (simp only [List.length_take, List.length_drop, List.length_append, List.map_cons, List.map_nil, List.length_map, List.length_cons, List.length_nil, List.length_set, List.length_replicate]; omega) | (simp only [List.length_cons, List.length_nil, Nat.zero_add, Nat.reduceAdd])) only [go_sem, ↓reduceIte, Nat.reduceAdd, Int.reduceNeg, Int.reduceAdd, Int.reduceSub, Int.reduceMul, Int.reduceLT, Int.reduceLE, Int.reduceEq, Int.reduceToNat, Nat.reduceBEq, true_and]
  refine br_nb (fun ha => ?_) (fun ha => ?_)
  · rw [if_pos ha] at hstep
    simp (disch := first | omega | (simp only [List.length_take, List.length_drop, List.length_append, List.map_cons, List.map_nil, List.length_map, List.length_cons, List.length_nil, List.length_set, List.length_replicate]; omega) | (simp only [List.length_cons, List.length_nil, Nat.zero_add, Nat.reduceAdd])) only [go_sem, ↓reduceIte, Nat.reduceAdd, Int.reduceNeg, Int.reduceAdd, Int.reduceSub, Int.reduceMul, Int.reduceLT, Int.reduceLE, Int.reduceEq, Int.reduceToNat, Nat.reduceBEq, true_and]
    exact ⟨_, _, _, _, _, sf, _, rfl, hstep⟩
  · rw [if_neg (by simp [ha])] at hstep
    rw [redS_none hstep (by omega)]
    simp (disch := first | omega | (simp only [List.length_take, List.length_drop, List.length_append, List.map_cons, List.map_nil, List.length_map, List.length_cons, List.length_nil, List.length_set, List.length_replicate]; omega) | (simp only [List.length_cons, List.length_nil, Nat.zero_add, Nat.reduceAdd])) only [go_sem, ↓reduceIte, Nat.reduceAdd, Int.reduceNeg, Int.reduceAdd, Int.reduceSub, Int.reduceMul, Int.reduceLT, Int.reduceLE, Int.reduceEq, Int.reduceToNat, Nat.reduceBEq, true_and]
    rfl
end Go.Proofs.Ytolkglnkdfcceaa

namespace Go.Proofs.Ytolkglnkdfcceaa
open Go.RowKit
set_option maxRecDepth 100000
def pivL (st : List Stp) : List Int := st.map fun x => (x.1 : Int)
def facL (st : List Stp) : List It := st.flatMap fun x => x.2.1 :: (if x.2.2 = true then [l2N (-1)] else [])
def resS (W R : Nat) : Option ((Nat → Nat → It) × List Stp) → List Rs
  | none => [(true, encMt ⟨0, 0, []⟩, true), (false, [encZs []], true), (false, [encIts []], true), (false, [.sc (.bool false)], true)]
  | some (f, st) => [(true, encMt ⟨R, W, gridL W f (R * W)⟩, true), (false, [encZs (pivL st)], true), (false, [encIts (facL st)], true), (false, [.sc (.bool true)], true)]
theorem facL_len (st : List Stp) : (facL st).length ≤ 2 * st.length := by
  induction st with
  | nil => simp [facL]
  | cons x r ih =>
    unfold facL at ih ⊢
    rw [List.flatMap_cons, List.length_append]
    have : (x.2.1 :: (if x.2.2 = true then [l2N (-1)] else [])).length ≤ 2 := by split <;> simp
    simp only [List.length_cons] at this ⊢
    omega
theorem pivL_app (st : List Stp) (x : Stp) : pivL (st ++ [x]) = pivL st ++ [(x.1 : Int)] := by simp [pivL]
theorem facL_app (st : List Stp) (x : Stp) : facL (st ++ [x]) = facL st ++ (x.2.1 :: (if x.2.2 = true then [l2N (-1)] else [])) := by simp [facL]
theorem elJ_skip' {r c W i j : Nat} {g : Nat → Nat → It} (h : i = r ∨ (g i c).num = 0) : elJ r c W g i j = elJ r c W g (i + 1) 0 := by
  funext a b
  unfold elJ
  by_cases ha : a = i
  · subst ha
    rcases h with h | h
    · simp [h]
    · simp [h]
  · have : (a < i ∧ b < W ∨ a = i ∧ b < j) ↔ (a < i + 1 ∧ b < W ∨ a = i + 1 ∧ b < 0) := by omega
    simp only [this]
def JsS (W R c : Nat) (f0 : Nat → Nat → It) (vs : List DV) : Prop := ∃ x0 x1 x2 x3 f' st', vs = [x0, x1, x2, x3, .sl 33 3 ((gridL W f' (R * W)).map encIt), .sl 3 1 ((pivL st').map encZ), .sl 33 3 ((facL st').map encIt)] ∧ redS W R f0 (c + 1) = some (f', st')
set_option maxHeartbeats 8000000 in
theorem specRed_m (R W : Nat) (f0 : Nat → Nat → It) (hR : R ≤ 100) (hW : W ≤ 100) :
    Meets Try.prog 52 [(true, encMt ⟨R, W, gridL W f0 (R * W)⟩)] (resS W R (redS W R f0 W)) := by
  have hRW : R * W ≤ 100 * 100 := Nat.mul_le_mul hR hW
  refine meets_upf Try.func52 u_spec_l14Reduce_g rfl ?_; simp only [u_spec_l14Reduce_u]
  simp only [encMt, encIts]
  have hgl : (gridL W f0 (R * W)).length ≤ 10000 := by rw [gridL_len]; omega
  simp (disch := first | omega | (simp only [List.length_take, List.length_drop, List.length_append, List.map_cons, List.map_nil, List.length_map, List.length_cons, List.length_nil, List.length_set, List.length_replicate]; omega) | (simp only [List.length_cons, List.length_nil, Nat.zero_add, Nat.reduceAdd])) only [go_sem, ↓reduceIte, Nat.reduceAdd, Int.reduceNeg, Int.reduceAdd, Int.reduceSub, Int.reduceMul, Int.reduceLT, Int.reduceLE, Int.reduceEq, Int.reduceToNat, Nat.reduceBEq, true_and]
  refine jn_eq [.sl 33 3 ((gridL W f0 (R * W)).map encIt)] ?_ ?_
  · simp (disch := first | omega | (simp only [List.length_take, List.length_drop, List.length_append, List.map_cons, List.map_nil, List.length_map, List.length_cons, List.length_nil, List.length_set, List.length_replicate]; omega) | (simp only [List.length_cons, List.length_nil, Nat.zero_add, Nat.reduceAdd])) only [go_sem, ↓reduceIte, Nat.reduceAdd, Int.reduceNeg, Int.reduceAdd, Int.reduceSub, Int.reduceMul, Int.reduceLT, Int.reduceLE, Int.reduceEq, Int.reduceToNat, Nat.reduceBEq, true_and]
    refine br_b (fun he => ?_) (fun he => ?_)
    · have he' : gridL W f0 (R * W) = [] := by simpa using he
      simp (disch := first | omega | (simp only [List.length_take, List.length_drop, List.length_append, List.map_cons, List.map_nil, List.length_map, List.length_cons, List.length_nil, List.length_set, List.length_replicate]; omega) | (simp only [List.length_cons, List.length_nil, Nat.zero_add, Nat.reduceAdd])) only [go_sem, ↓reduceIte, Nat.reduceAdd, Int.reduceNeg, Int.reduceAdd, Int.reduceSub, Int.reduceMul, Int.reduceLT, Int.reduceLE, Int.reduceEq, Int.reduceToNat, Nat.reduceBEq, he']
    · simp (disch := first | omega | (simp only [List.length_take, List.length_drop, List.length_append, List.map_cons, List.map_nil, List.length_map, List.length_cons, List.length_nil, List.length_set, List.length_replicate]; omega) | (simp only [List.length_cons, List.length_nil, Nat.zero_add, Nat.reduceAdd])) only [go_sem, ↓reduceIte, Nat.reduceAdd, Int.reduceNeg, Int.reduceAdd, Int.reduceSub, Int.reduceMul, Int.reduceLT, Int.reduceLE, Int.reduceEq, Int.reduceToNat, Nat.reduceBEq, fl_it]
  simp only [u_spec_l14Reduce_j9]
  simp (disch := first | omega | (simp only [List.length_take, List.length_drop, List.length_append, List.map_cons, List.map_nil, List.length_map, List.length_cons, List.length_nil, List.length_set, List.length_replicate]; omega) | (simp only [List.length_cons, List.length_nil, Nat.zero_add, Nat.reduceAdd])) only [go_sem, ↓reduceIte, Nat.reduceAdd, Int.reduceNeg, Int.reduceAdd, Int.reduceSub, Int.reduceMul, Int.reduceLT, Int.reduceLE, Int.reduceEq, Int.reduceToNat, Nat.reduceBEq, true_and]
  refine lp (fun s : Nat × (Nat → Nat → It) × List Stp => [.sc (.int .i64 (s.1 : Nat)), .sl 33 3 ((gridL W s.2.1 (R * W)).map encIt), .sl 3 1 ((pivL s.2.2).map encZ), .sl 33 3 ((facL s.2.2).map encIt)]) (fun s => s.1 ≤ W ∧ redS W R f0 s.1 = some (s.2.1, s.2.2)) (fun s => W - s.1) (0, f0, []) rfl ⟨by simp, rfl⟩ ?_
  rintro ⟨c, f, st⟩ ⟨g1, g2⟩
  simp only at g1 g2 ⊢
  obtain ⟨g3, g4⟩ := redS_len g2
  have hpl : (pivL st).length = st.length := by simp [pivL]
  simp only [u_spec_l14Reduce_l8]
  simp (disch := first | omega | (simp only [List.length_take, List.length_drop, List.length_append, List.map_cons, List.map_nil, List.length_map, List.length_cons, List.length_nil, List.length_set, List.length_replicate]; omega) | (simp only [List.length_cons, List.length_nil, Nat.zero_add, Nat.reduceAdd])) only [go_sem, ↓reduceIte, Nat.reduceAdd, Int.reduceNeg, Int.reduceAdd, Int.reduceSub, Int.reduceMul, Int.reduceLT, Int.reduceLE, Int.reduceEq, Int.reduceToNat, Nat.reduceBEq, true_and]
  refine br_if (fun hc => ?_) (fun hc => ?_)
  rotate_left
  · obtain rfl : W = c := by omega
    rw [g2]
    simp (disch := first | omega | (simp only [List.length_take, List.length_drop, List.length_append, List.map_cons, List.map_nil, List.length_map, List.length_cons, List.length_nil, List.length_set, List.length_replicate]; omega) | (simp only [List.length_cons, List.length_nil, Nat.zero_add, Nat.reduceAdd])) only [go_sem, ↓reduceIte, Nat.reduceAdd, Int.reduceNeg, Int.reduceAdd, Int.reduceSub, Int.reduceMul, Int.reduceLT, Int.reduceLE, Int.reduceEq, Int.reduceToNat, Nat.reduceBEq, true_and]
    rfl
  simp (disch := first | omega | (simp only [List.length_take, List.length_drop, List.length_append, List.map_cons, List.map_nil, List.length_map, List.length_cons, List.length_nil, List.length_set, List.length_replicate]; omega) | (simp only [List.length_cons, List.length_nil, Nat.zero_add, Nat.reduceAdd])) only [go_sem, ↓reduceIte, Nat.reduceAdd, Int.reduceNeg, Int.reduceAdd, Int.reduceSub, Int.reduceMul, Int.reduceLT, Int.reduceLE, Int.reduceEq, Int.reduceToNat, Nat.reduceBEq, hpl]
  refine br_if (fun hr => ?_) (fun hr => ?_)
  rotate_left
  · rw [redS_idle g2 (by omega) g1]
    simp (disch := first | omega | (simp only [List.length_take, List.length_drop, List.length_append, List.map_cons, List.map_nil, List.length_map, List.length_cons, List.length_nil, List.length_set, List.length_replicate]; omega) | (simp only [List.length_cons, List.length_nil, Nat.zero_add, Nat.reduceAdd])) only [go_sem, ↓reduceIte, Nat.reduceAdd, Int.reduceNeg, Int.reduceAdd, Int.reduceSub, Int.reduceMul, Int.reduceLT, Int.reduceLE, Int.reduceEq, Int.reduceToNat, Nat.reduceBEq, true_and]
    rfl
  have hrR : st.length < R := by omega
  have hcW : c < W := by omega
  have hfl := facL_len st
  generalize hrr : st.length = r at *
  refine jn (JsS W R c f0) ?_ ?_
  rotate_left
  · rintro vs - ⟨x0, x1, x2, x3, f', st', rfl, h1⟩
    simp only [u_spec_l14Reduce_j7]
    simp (disch := first | omega | (simp only [List.length_take, List.length_drop, List.length_append, List.map_cons, List.map_nil, List.length_map, List.length_cons, List.length_nil, List.length_set, List.length_replicate]; omega) | (simp only [List.length_cons, List.length_nil, Nat.zero_add, Nat.reduceAdd])) only [go_sem, ↓reduceIte, Nat.reduceAdd, Int.reduceNeg, Int.reduceAdd, Int.reduceSub, Int.reduceMul, Int.reduceLT, Int.reduceLE, Int.reduceEq, Int.reduceToNat, Nat.reduceBEq, nat1]
    exact ⟨(c + 1, f', st'), rfl, ⟨by simp only; omega, h1⟩, by simp only; omega⟩
  have hstep := redS_step g2
  unfold red1 at hstep
  rw [hrr, if_neg (by omega)] at hstep
  have bR : ∀ i, i < R → i * W ≤ 10000 := fun i hi => by
    have : i * W ≤ 100 * 100 := Nat.mul_le_mul (by omega) hW
    omega
  simp (disch := first | omega | (simp only [List.length_take, List.length_drop, List.length_append, List.map_cons, List.map_nil, List.length_map, List.length_cons, List.length_nil, List.length_set, List.length_replicate]; omega) | (simp only [List.length_cons, List.length_nil, Nat.zero_add, Nat.reduceAdd])) only [go_sem, ↓reduceIte, Nat.reduceAdd, Int.reduceNeg, Int.reduceAdd, Int.reduceSub, Int.reduceMul, Int.reduceLT, Int.reduceLE, Int.reduceEq, Int.reduceToNat, Nat.reduceBEq, hpl]
  refine jn (Jnz R c r f) ?_ ?_
  · refine lp (fun k : Nat => [.sc (.int .i64 (k : Nat))]) (fun k => r ≤ k ∧ k ≤ R ∧ ∀ i, r ≤ i → i < k → (f i c).num = 0) (fun k => R - k) r (by simp (disch := first | omega | (simp only [List.length_take, List.length_drop, List.length_append, List.map_cons, List.map_nil, List.length_map, List.length_cons, List.length_nil, List.length_set, List.length_replicate]; omega) | (simp only [List.length_cons, List.length_nil, Nat.zero_add, Nat.reduceAdd])) only [go_sem, ↓reduceIte, Nat.reduceAdd, Int.reduceNeg, Int.reduceAdd, Int.reduceSub, Int.reduceMul, Int.reduceLT, Int.reduceLE, Int.reduceEq, Int.reduceToNat, Nat.reduceBEq, hrr, hpl]) ⟨Nat.le_refl _, by omega, fun i h1 h2 => by omega⟩ ?_
    rintro k ⟨k1, k2, k3⟩
    simp only [u_spec_l14Reduce_l0]
    simp (disch := first | omega | (simp only [List.length_take, List.length_drop, List.length_append, List.map_cons, List.map_nil, List.length_map, List.length_cons, List.length_nil, List.length_set, List.length_replicate]; omega) | (simp only [List.length_cons, List.length_nil, Nat.zero_add, Nat.reduceAdd])) only [go_sem, ↓reduceIte, Nat.reduceAdd, Int.reduceNeg, Int.reduceAdd, Int.reduceSub, Int.reduceMul, Int.reduceLT, Int.reduceLE, Int.reduceEq, Int.reduceToNat, Nat.reduceBEq, true_and]
    refine br_if (fun hk => ?_) (fun hk => ?_)
    · have hkR : k < R := by omega
      have bk := bR k hkR
      simp (disch := first | omega | (simp only [List.length_take, List.length_drop, List.length_append, List.map_cons, List.map_nil, List.length_map, List.length_cons, List.length_nil, List.length_set, List.length_replicate]; omega) | (simp only [List.length_cons, List.length_nil, Nat.zero_add, Nat.reduceAdd])) only [go_sem, ↓reduceIte, Nat.reduceAdd, Int.reduceNeg, Int.reduceAdd, Int.reduceSub, Int.reduceMul, Int.reduceLT, Int.reduceLE, Int.reduceEq, Int.reduceToNat, Nat.reduceBEq, nm, na, ix_g, chk_g, encIt]
      refine br_if (fun h0 => ?_) (fun h0 => ?_)
      · simp (disch := first | omega | (simp only [List.length_take, List.length_drop, List.length_append, List.map_cons, List.map_nil, List.length_map, List.length_cons, List.length_nil, List.length_set, List.length_replicate]; omega) | (simp only [List.length_cons, List.length_nil, Nat.zero_add, Nat.reduceAdd])) only [go_sem, ↓reduceIte, Nat.reduceAdd, Int.reduceNeg, Int.reduceAdd, Int.reduceSub, Int.reduceMul, Int.reduceLT, Int.reduceLE, Int.reduceEq, Int.reduceToNat, Nat.reduceBEq, nat1]
        exact ⟨k + 1, rfl, ⟨by omega, by omega, fun i h1 h2 => by
          rcases Nat.lt_or_ge i k with h | h
          · exact k3 i h1 h
          · obtain rfl : i = k := by omega
            exact h0⟩, by omega⟩
      · have hn := nz_is k2 k1 k3 (.inr h0)
        simp (disch := first | omega | (simp only [List.length_take, List.length_drop, List.length_append, List.map_cons, List.map_nil, List.length_map, List.length_cons, List.length_nil, List.length_set, List.length_replicate]; omega) | (simp only [List.length_cons, List.length_nil, Nat.zero_add, Nat.reduceAdd])) only [go_sem, ↓reduceIte, Nat.reduceAdd, Int.reduceNeg, Int.reduceAdd, Int.reduceSub, Int.reduceMul, Int.reduceLT, Int.reduceLE, Int.reduceEq, Int.reduceToNat, Nat.reduceBEq, true_and]
        exact ⟨_, by rw [hn], by omega, by omega⟩
    · obtain rfl : k = R := by omega
      have hn := nz_is k2 k1 k3 (.inl rfl)
      simp (disch := first | omega | (simp only [List.length_take, List.length_drop, List.length_append, List.map_cons, List.map_nil, List.length_map, List.length_cons, List.length_nil, List.length_set, List.length_replicate]; omega) | (simp only [List.length_cons, List.length_nil, Nat.zero_add, Nat.reduceAdd])) only [go_sem, ↓reduceIte, Nat.reduceAdd, Int.reduceNeg, Int.reduceAdd, Int.reduceSub, Int.reduceMul, Int.reduceLT, Int.reduceLE, Int.reduceEq, Int.reduceToNat, Nat.reduceBEq, true_and]
      exact ⟨_, by rw [hn], by omega, by omega⟩
  rintro vs - ⟨x0, rfl, n1, n2⟩
  generalize hk0 : nz f c R r = k at *
  simp only [u_spec_l14Reduce_j6]
  simp (disch := first | omega | (simp only [List.length_take, List.length_drop, List.length_append, List.map_cons, List.map_nil, List.length_map, List.length_cons, List.length_nil, List.length_set, List.length_replicate]; omega) | (simp only [List.length_cons, List.length_nil, Nat.zero_add, Nat.reduceAdd])) only [go_sem, ↓reduceIte, Nat.reduceAdd, Int.reduceNeg, Int.reduceAdd, Int.reduceSub, Int.reduceMul, Int.reduceLT, Int.reduceLE, Int.reduceEq, Int.reduceToNat, Nat.reduceBEq, true_and]
  refine br_if (fun hk => ?_) (fun hk => ?_)
  · rw [if_pos (by omega)] at hstep
    simp (disch := first | omega | (simp only [List.length_take, List.length_drop, List.length_append, List.map_cons, List.map_nil, List.length_map, List.length_cons, List.length_nil, List.length_set, List.length_replicate]; omega) | (simp only [List.length_cons, List.length_nil, Nat.zero_add, Nat.reduceAdd])) only [go_sem, ↓reduceIte, Nat.reduceAdd, Int.reduceNeg, Int.reduceAdd, Int.reduceSub, Int.reduceMul, Int.reduceLT, Int.reduceLE, Int.reduceEq, Int.reduceToNat, Nat.reduceBEq, true_and]
    exact ⟨_, _, _, _, f, st, rfl, hstep⟩
  have hkR : k < R := by omega
  rw [if_neg (by omega)] at hstep
  have br := bR r hrR
  have bk := bR k hkR
  have fl1 : ∀ x : It, eFlat (some (.sl 33 3 [[.sc (.int .i64 x.num), .sc (.int .i64 x.den), .sc (.string x.text)]])) = some [] := fun _ => rfl
  have ap1 : ∀ (l : List It) (x : It), l.map encIt ++ [[.sc (.int .i64 x.num), .sc (.int .i64 x.den), .sc (.string x.text)]] = (l ++ [x]).map encIt := fun l x => by rw [List.map_append]; rfl
  have hap := facL_app st (c, f k c, decide (k ≠ r))
  simp (disch := first | omega | (simp only [List.length_take, List.length_drop, List.length_append, List.map_cons, List.map_nil, List.length_map, List.length_cons, List.length_nil, List.length_set, List.length_replicate]; omega) | (simp only [List.length_cons, List.length_nil, Nat.zero_add, Nat.reduceAdd])) only [go_sem, ↓reduceIte, Nat.reduceAdd, Int.reduceNeg, Int.reduceAdd, Int.reduceSub, Int.reduceMul, Int.reduceLT, Int.reduceLE, Int.reduceEq, Int.reduceToNat, Nat.reduceBEq, nm, na, ix_g, chk_g, encIt, fl1, ap1]
  refine jn_eq [.sl 33 3 ((facL (st ++ [(c, f k c, decide (k ≠ r))])).map encIt)] ?_ ?_
  · refine br_ifn (fun h => ?_) (fun h => ?_)
    · have : k = r := by omega
      simp (disch := first | omega | (simp only [List.length_take, List.length_drop, List.length_append, List.map_cons, List.map_nil, List.length_map, List.length_cons, List.length_nil, List.length_set, List.length_replicate]; omega) | (simp only [List.length_cons, List.length_nil, Nat.zero_add, Nat.reduceAdd])) only [go_sem, ↓reduceIte, Nat.reduceAdd, Int.reduceNeg, Int.reduceAdd, Int.reduceSub, Int.reduceMul, Int.reduceLT, Int.reduceLE, Int.reduceEq, Int.reduceToNat, Nat.reduceBEq, true_and]
      rw [hap]; simp [this]
    · have : k ≠ r := by omega
      simp (disch := first | omega | (simp only [List.length_take, List.length_drop, List.length_append, List.map_cons, List.map_nil, List.length_map, List.length_cons, List.length_nil, List.length_set, List.length_replicate]; omega) | (simp only [List.length_cons, List.length_nil, Nat.zero_add, Nat.reduceAdd])) only [go_sem, ↓reduceIte, Nat.reduceAdd, Int.reduceNeg, Int.reduceAdd, Int.reduceSub, Int.reduceMul, Int.reduceLT, Int.reduceLE, Int.reduceEq, Int.reduceToNat, Nat.reduceBEq, true_and]
      refine cl_ok (mL2Num (-1)) rfl ?_
      have hl2 : (facL st ++ [f k c]).length ≤ 1000 := by simp; omega
      simp (disch := first | omega | (simp only [List.length_take, List.length_drop, List.length_append, List.map_cons, List.map_nil, List.length_map, List.length_cons, List.length_nil, List.length_set, List.length_replicate]; omega) | (simp only [List.length_cons, List.length_nil, Nat.zero_add, Nat.reduceAdd])) only [go_sem, ↓reduceIte, Nat.reduceAdd, Int.reduceNeg, Int.reduceAdd, Int.reduceSub, Int.reduceMul, Int.reduceLT, Int.reduceLE, Int.reduceEq, Int.reduceToNat, Nat.reduceBEq, encIt, fl1, ap1]
      rw [hap]; simp [this]
  generalize hp : f k c = p at *
  simp only [u_spec_l14Reduce_j5]
  simp (disch := first | omega | (simp only [List.length_take, List.length_drop, List.length_append, List.map_cons, List.map_nil, List.length_map, List.length_cons, List.length_nil, List.length_set, List.length_replicate]; omega) | (simp only [List.length_cons, List.length_nil, Nat.zero_add, Nat.reduceAdd])) only [go_sem, ↓reduceIte, Nat.reduceAdd, Int.reduceNeg, Int.reduceAdd, Int.reduceSub, Int.reduceMul, Int.reduceLT, Int.reduceLE, Int.reduceEq, Int.reduceToNat, Nat.reduceBEq, true_and]
  refine lp_n W (fun j => [.sc (.int .i64 (j : Nat)), .sl 33 3 ((gridL W (sdJ r k p f j) (R * W)).map encIt)]) (by rw [sdJ_0]; rfl) fun j hj => ?_
  simp only [u_spec_l14Reduce_l4]
  simp (disch := first | omega | (simp only [List.length_take, List.length_drop, List.length_append, List.map_cons, List.map_nil, List.length_map, List.length_cons, List.length_nil, List.length_set, List.length_replicate]; omega) | (simp only [List.length_cons, List.length_nil, Nat.zero_add, Nat.reduceAdd])) only [go_sem, ↓reduceIte, Nat.reduceAdd, Int.reduceNeg, Int.reduceAdd, Int.reduceSub, Int.reduceMul, Int.reduceLT, Int.reduceLE, Int.reduceEq, Int.reduceToNat, Nat.reduceBEq, true_and]
  refine br_if (fun h => ?_) (fun h => ?_)
  · have hjW : j < W := by omega
    simp (disch := first | omega | (simp only [List.length_take, List.length_drop, List.length_append, List.map_cons, List.map_nil, List.length_map, List.length_cons, List.length_nil, List.length_set, List.length_replicate]; omega) | (simp only [List.length_cons, List.length_nil, Nat.zero_add, Nat.reduceAdd])) only [go_sem, ↓reduceIte, Nat.reduceAdd, Int.reduceNeg, Int.reduceAdd, Int.reduceSub, Int.reduceMul, Int.reduceLT, Int.reduceLE, Int.reduceEq, Int.reduceToNat, Nat.reduceBEq, nm, na, ix_g, chk_g, encIt, st_g, sdJ_at]
    refine cl_ok (mSpecDiv (f k j) p) rfl ?_
    simp (disch := first | omega | (simp only [List.length_take, List.length_drop, List.length_append, List.map_cons, List.map_nil, List.length_map, List.length_cons, List.length_nil, List.length_set, List.length_replicate]; omega) | (simp only [List.length_cons, List.length_nil, Nat.zero_add, Nat.reduceAdd])) only [go_sem, ↓reduceIte, Nat.reduceAdd, Int.reduceNeg, Int.reduceAdd, Int.reduceSub, Int.reduceMul, Int.reduceLT, Int.reduceLE, Int.reduceEq, Int.reduceToNat, Nat.reduceBEq, nm, na, ix_g, chk_g, encIt, st_g, sdJ_at, sdJ_step, nat1]
    exact hjW
  obtain rfl : W = j := by omega
  have hgf : elJ r c W (sdJ r k p f W) R 0 = stepF W R r k c f := by unfold stepF; rw [hp]
  generalize sdJ r k p f W = g at *
  simp (disch := first | omega | (simp only [List.length_take, List.length_drop, List.length_append, List.map_cons, List.map_nil, List.length_map, List.length_cons, List.length_nil, List.length_set, List.length_replicate]; omega) | (simp only [List.length_cons, List.length_nil, Nat.zero_add, Nat.reduceAdd])) only [go_sem, ↓reduceIte, Nat.reduceAdd, Int.reduceNeg, Int.reduceAdd, Int.reduceSub, Int.reduceMul, Int.reduceLT, Int.reduceLE, Int.reduceEq, Int.reduceToNat, Nat.reduceBEq, true_and]
  refine lp_n R (fun i => [.sc (.int .i64 (i : Nat)), .sl 33 3 ((gridL W (elJ r c W g i 0) (R * W)).map encIt)]) (by rw [elJ_0]; rfl) fun i hi => ?_
  simp only [u_spec_l14Reduce_l3]
  simp (disch := first | omega | (simp only [List.length_take, List.length_drop, List.length_append, List.map_cons, List.map_nil, List.length_map, List.length_cons, List.length_nil, List.length_set, List.length_replicate]; omega) | (simp only [List.length_cons, List.length_nil, Nat.zero_add, Nat.reduceAdd])) only [go_sem, ↓reduceIte, Nat.reduceAdd, Int.reduceNeg, Int.reduceAdd, Int.reduceSub, Int.reduceMul, Int.reduceLT, Int.reduceLE, Int.reduceEq, Int.reduceToNat, Nat.reduceBEq, true_and]
  refine br_if (fun h => ?_) (fun h => ?_)
  · have hiR : i < R := by omega
    have bi := bR i hiR
    simp (disch := first | omega | (simp only [List.length_take, List.length_drop, List.length_append, List.map_cons, List.map_nil, List.length_map, List.length_cons, List.length_nil, List.length_set, List.length_replicate]; omega) | (simp only [List.length_cons, List.length_nil, Nat.zero_add, Nat.reduceAdd])) only [go_sem, ↓reduceIte, Nat.reduceAdd, Int.reduceNeg, Int.reduceAdd, Int.reduceSub, Int.reduceMul, Int.reduceLT, Int.reduceLE, Int.reduceEq, Int.reduceToNat, Nat.reduceBEq, true_and]
    refine jn (fun vs => ∃ y0 y1 y3 y4 y5, vs = [y0, y1, .sl 33 3 ((gridL W (elJ r c W g (i + 1) 0) (R * W)).map encIt), y3, y4, y5]) ?_ ?_
    rotate_left
    · rintro vs - ⟨y0, y1, y3, y4, y5, rfl⟩
      simp only [u_spec_l14Reduce_j2]
      simp (disch := first | omega | (simp only [List.length_take, List.length_drop, List.length_append, List.map_cons, List.map_nil, List.length_map, List.length_cons, List.length_nil, List.length_set, List.length_replicate]; omega) | (simp only [List.length_cons, List.length_nil, Nat.zero_add, Nat.reduceAdd])) only [go_sem, ↓reduceIte, Nat.reduceAdd, Int.reduceNeg, Int.reduceAdd, Int.reduceSub, Int.reduceMul, Int.reduceLT, Int.reduceLE, Int.reduceEq, Int.reduceToNat, Nat.reduceBEq, nat1]
      exact hiR
    simp (disch := first | omega | (simp only [List.length_take, List.length_drop, List.length_append, List.map_cons, List.map_nil, List.length_map, List.length_cons, List.length_nil, List.length_set, List.length_replicate]; omega) | (simp only [List.length_cons, List.length_nil, Nat.zero_add, Nat.reduceAdd])) only [go_sem, ↓reduceIte, Nat.reduceAdd, Int.reduceNeg, Int.reduceAdd, Int.reduceSub, Int.reduceMul, Int.reduceLT, Int.reduceLE, Int.reduceEq, Int.reduceToNat, Nat.reduceBEq, nm, na, ix_g, chk_g, encIt, elJ_c hcW]
    refine lp_n W (fun j => [.sc (.int .i64 (j : Nat)), .sl 33 3 ((gridL W (elJ r c W g i j) (R * W)).map encIt)]) rfl fun j hj => ?_
    simp only [u_spec_l14Reduce_l1]
    simp (disch := first | omega | (simp only [List.length_take, List.length_drop, List.length_append, List.map_cons, List.map_nil, List.length_map, List.length_cons, List.length_nil, List.length_set, List.length_replicate]; omega) | (simp only [List.length_cons, List.length_nil, Nat.zero_add, Nat.reduceAdd])) only [go_sem, ↓reduceIte, Nat.reduceAdd, Int.reduceNeg, Int.reduceAdd, Int.reduceSub, Int.reduceMul, Int.reduceLT, Int.reduceLE, Int.reduceEq, Int.reduceToNat, Nat.reduceBEq, true_and]
    refine br_ifn (fun hir => ?_) (fun hir => ?_)
    · simp (disch := first | omega | (simp only [List.length_take, List.length_drop, List.length_append, List.map_cons, List.map_nil, List.length_map, List.length_cons, List.length_nil, List.length_set, List.length_replicate]; omega) | (simp only [List.length_cons, List.length_nil, Nat.zero_add, Nat.reduceAdd])) only [go_sem, ↓reduceIte, Nat.reduceAdd, Int.reduceNeg, Int.reduceAdd, Int.reduceSub, Int.reduceMul, Int.reduceLT, Int.reduceLE, Int.reduceEq, Int.reduceToNat, Nat.reduceBEq, elJ_skip' (g := g) (c := c) (W := W) (i := i) (j := j) (r := r) (Or.inl (by omega))]
      exact ⟨_, _, _, _, _, rfl⟩
    have hir' : i ≠ r := by omega
    simp (disch := first | omega | (simp only [List.length_take, List.length_drop, List.length_append, List.map_cons, List.map_nil, List.length_map, List.length_cons, List.length_nil, List.length_set, List.length_replicate]; omega) | (simp only [List.length_cons, List.length_nil, Nat.zero_add, Nat.reduceAdd])) only [go_sem, ↓reduceIte, Nat.reduceAdd, Int.reduceNeg, Int.reduceAdd, Int.reduceSub, Int.reduceMul, Int.reduceLT, Int.reduceLE, Int.reduceEq, Int.reduceToNat, Nat.reduceBEq, true_and]
    refine br_ifn (fun hn => ?_) (fun hn => ?_)
    · simp (disch := first | omega | (simp only [List.length_take, List.length_drop, List.length_append, List.map_cons, List.map_nil, List.length_map, List.length_cons, List.length_nil, List.length_set, List.length_replicate]; omega) | (simp only [List.length_cons, List.length_nil, Nat.zero_add, Nat.reduceAdd])) only [go_sem, ↓reduceIte, Nat.reduceAdd, Int.reduceNeg, Int.reduceAdd, Int.reduceSub, Int.reduceMul, Int.reduceLT, Int.reduceLE, Int.reduceEq, Int.reduceToNat, Nat.reduceBEq, elJ_skip' (g := g) (c := c) (W := W) (i := i) (j := j) (r := r) (Or.inr hn)]
      exact ⟨_, _, _, _, _, rfl⟩
    simp (disch := first | omega | (simp only [List.length_take, List.length_drop, List.length_append, List.map_cons, List.map_nil, List.length_map, List.length_cons, List.length_nil, List.length_set, List.length_replicate]; omega) | (simp only [List.length_cons, List.length_nil, Nat.zero_add, Nat.reduceAdd])) only [go_sem, ↓reduceIte, Nat.reduceAdd, Int.reduceNeg, Int.reduceAdd, Int.reduceSub, Int.reduceMul, Int.reduceLT, Int.reduceLE, Int.reduceEq, Int.reduceToNat, Nat.reduceBEq, true_and]
    refine br_if (fun h => ?_) (fun h => ?_)
    · have hjW : j < W := by omega
      simp (disch := first | omega | (simp only [List.length_take, List.length_drop, List.length_append, List.map_cons, List.map_nil, List.length_map, List.length_cons, List.length_nil, List.length_set, List.length_replicate]; omega) | (simp only [List.length_cons, List.length_nil, Nat.zero_add, Nat.reduceAdd])) only [go_sem, ↓reduceIte, Nat.reduceAdd, Int.reduceNeg, Int.reduceAdd, Int.reduceSub, Int.reduceMul, Int.reduceLT, Int.reduceLE, Int.reduceEq, Int.reduceToNat, Nat.reduceBEq, nm, na, ix_g, chk_g, encIt, elJ_at, elJ_r]
      refine cl_ok (mSpecMul (g i c) (g r j)) rfl ?_
      simp (disch := first | omega | (simp only [List.length_take, List.length_drop, List.length_append, List.map_cons, List.map_nil, List.length_map, List.length_cons, List.length_nil, List.length_set, List.length_replicate]; omega) | (simp only [List.length_cons, List.length_nil, Nat.zero_add, Nat.reduceAdd])) only [go_sem, ↓reduceIte, Nat.reduceAdd, Int.reduceNeg, Int.reduceAdd, Int.reduceSub, Int.reduceMul, Int.reduceLT, Int.reduceLE, Int.reduceEq, Int.reduceToNat, Nat.reduceBEq, encIt]
      refine cl_ok (mSpecSub (g i j) _) rfl ?_
      simp (disch := first | omega | (simp only [List.length_take, List.length_drop, List.length_append, List.map_cons, List.map_nil, List.length_map, List.length_cons, List.length_nil, List.length_set, List.length_replicate]; omega) | (simp only [List.length_cons, List.length_nil, Nat.zero_add, Nat.reduceAdd])) only [go_sem, ↓reduceIte, Nat.reduceAdd, Int.reduceNeg, Int.reduceAdd, Int.reduceSub, Int.reduceMul, Int.reduceLT, Int.reduceLE, Int.reduceEq, Int.reduceToNat, Nat.reduceBEq, nm, na, ix_g, chk_g, encIt, st_g, elJ_step hir' hn hjW, nat1]
      exact hjW
    · obtain rfl : W = j := by omega
      simp (disch := first | omega | (simp only [List.length_take, List.length_drop, List.length_append, List.map_cons, List.map_nil, List.length_map, List.length_cons, List.length_nil, List.length_set, List.length_replicate]; omega) | (simp only [List.length_cons, List.length_nil, Nat.zero_add, Nat.reduceAdd])) only [go_sem, ↓reduceIte, Nat.reduceAdd, Int.reduceNeg, Int.reduceAdd, Int.reduceSub, Int.reduceMul, Int.reduceLT, Int.reduceLE, Int.reduceEq, Int.reduceToNat, Nat.reduceBEq, elJ_W]
      exact ⟨_, _, _, _, _, rfl⟩
  obtain rfl : R = i := by omega
  rw [hgf]
  have hall := l14Known_m R W (gridL W (stepF W R r k c f) (R * W)) (by rw [gridL_len]; omega)
  simp only [encMt, encIts] at hall
  generalize hsf : stepF W R r k c f = sf at *
  have hpv := pivL_app st (c, p, decide (k ≠ r))
  have hst : (pivL st).map encZ ++ [[.sc (.int .i64 (c : Nat))]] = (pivL (st ++ [(c, p, decide (k ≠ r))])).map encZ := by
    rw [hpv, List.map_append]; rfl
  have hpl2 : (pivL st).length ≤ 1000 := by omega
  simp (disch := first | omega | (simp only [List.length_take, List.length_drop, List.length_append, List.map_cons, List.map_nil, List.length_map, List.length_cons, List.length_nil, List.length_set, List.length_replicate]; omega) | (simp only [List.length_cons, List.length_nil, Nat.zero_add, Nat.reduceAdd])) only [go_sem, ↓reduceIte, Nat.reduceAdd, Int.reduceNeg, Int.reduceAdd, Int.reduceSub, Int.reduceMul, Int.reduceLT, Int.reduceLE, Int.reduceEq, Int.reduceToNat, Nat.reduceBEq, fl1_z, hst]
  refine cl_ok hall rfl ?_
  simp (disch := first | omega | (simp only [List.length_take, List.length_drop, List.length_append, List.map_cons, List.map_nil, List.length_map, List.length_cons, List.length_nil, List.length_set, List.length_replicate]; omega) | (simp only [List.length_cons, List.length_nil, Nat.zero_add, Nat.reduceAdd])) only [go_sem, ↓reduceIte, Nat.reduceAdd, Int.reduceNeg, Int.reduceAdd, Int.reduceSub, Int.reduceMul, Int.reduceLT, Int.reduceLE, Int.reduceEq, Int.reduceToNat, Nat.reduceBEq, true_and]
  refine br_nb (fun ha => ?_) (fun ha => ?_)
  · rw [if_pos ha] at hstep
    simp (disch := first | omega | (simp only [List.length_take, List.length_drop, List.length_append, List.map_cons, List.map_nil, List.length_map, List.length_cons, List.length_nil, List.length_set, List.length_replicate]; omega) | (simp only [List.length_cons, List.length_nil, Nat.zero_add, Nat.reduceAdd])) only [go_sem, ↓reduceIte, Nat.reduceAdd, Int.reduceNeg, Int.reduceAdd, Int.reduceSub, Int.reduceMul, Int.reduceLT, Int.reduceLE, Int.reduceEq, Int.reduceToNat, Nat.reduceBEq, true_and]
    exact ⟨_, _, _, _, sf, _, rfl, hstep⟩
  · rw [if_neg (by simp [ha])] at hstep
    rw [redS_none hstep (by omega)]
    simp (disch := first | omega | (simp only [List.length_take, List.length_drop, List.length_append, List.map_cons, List.map_nil, List.length_map, List.length_cons, List.length_nil, List.length_set, List.length_replicate]; omega) | (simp only [List.length_cons, List.length_nil, Nat.zero_add, Nat.reduceAdd])) only [go_sem, ↓reduceIte, Nat.reduceAdd, Int.reduceNeg, Int.reduceAdd, Int.reduceSub, Int.reduceMul, Int.reduceLT, Int.reduceLE, Int.reduceEq, Int.reduceToNat, Nat.reduceBEq, true_and]
    rfl
theorem ix_st {t : Nat} {l : List Stp} {kd : IntKind} {z : Int} (h : 0 ≤ z) (h1 : z < l.length) : eIdx 5 (some (.sl t 5 (l.map encSt))) (some (.sc (.int kd z))) = some (encSt (l.getD z.toNat default)) := e_idx_map (fun _ => rfl) h h1
end Go.Proofs.Ytolkglnkdfcceaa

namespace Go.Proofs.Ytolkglnkdfcceaa
open Go.RowKit
set_option maxRecDepth 100000
theorem redS_piv {W R : Nat} {f0 : Nat → Nat → It} : ∀ {c : Nat} {f : Nat → Nat → It} {st : List Stp}, redS W R f0 c = some (f, st) → (∀ x ∈ st, x.1 < c) ∧ st.Pairwise (fun x y => x.1 < y.1)
  | 0, f, st, h => by simp only [redS] at h; injection h with h; injection h with _ h; subst h; simp
  | c + 1, f, st, h => by
    simp only [redS] at h
    split at h
    · cases h
    · rename_i g s1 h1
      obtain ⟨i1, i2⟩ := redS_piv h1
      have i3 : ∀ x ∈ s1, x.1 < c + 1 := fun x hx => Nat.lt_succ_of_lt (i1 x hx)
      unfold red1 at h
      split at h
      · injection h with h; injection h with _ h; subst h; exact ⟨i3, i2⟩
      · split at h
        · injection h with h; injection h with _ h; subst h; exact ⟨i3, i2⟩
        · split at h
          · injection h with h; injection h with _ h; subst h
            refine ⟨fun x hx => ?_, ?_⟩
            · rcases List.mem_append.1 hx with hx | hx
              · exact i3 x hx
              · rw [List.mem_singleton.1 hx]; exact Nat.lt_succ_self _
            · rw [List.pairwise_append]
              refine ⟨i2, by simp, fun x hx y hy => ?_⟩
              rw [List.mem_singleton.1 hy]; exact i1 x hx
          · cases h
def big (c : Nat) (st : List Stp) : Bool := st.any fun x => decide (c ≤ x.1)
theorem big_last {c : Nat} {st : List Stp} (h : st.Pairwise (fun x y => x.1 < y.1)) (hl : 0 < st.length) : big c st = decide (c ≤ (st.getD (st.length - 1) default).1) := by
  rcases List.eq_nil_or_concat st with h0 | ⟨s, x, h0⟩
  · subst h0; simp at hl
  · have h0 : st = s ++ [x] := by rw [h0, List.concat_eq_append]
    subst h0
    have e : (s ++ [x]).getD ((s ++ [x]).length - 1) default = x := by
      rw [List.getD_eq_getElem?_getD, List.length_append, List.length_singleton, Nat.add_sub_cancel, List.getElem?_append_right (Nat.le_refl _)]; simp
    rw [e]
    unfold big
    rw [List.any_append]
    simp only [List.any_cons, List.any_nil, Bool.or_false]
    by_cases hx : c ≤ x.1
    · simp [hx]
    · rw [decide_eq_false hx, Bool.or_false]
      rw [List.any_eq_false]
      intro y hy
      rw [List.pairwise_append] at h
      have := h.2.2 y hy x (by simp)
      simp; omega
theorem big_nil {c : Nat} : big c [] = false := rfl
theorem big_take {c i : Nat} {st : List Stp} (h : i < st.length) : big c (st.take (i + 1)) = (big c (st.take i) || decide (c ≤ (st.getD i default).1)) := by
  unfold big
  rw [List.take_succ_eq_append_getElem h, List.any_append, List.getD_eq_getElem?_getD, List.getElem?_eq_getElem h]; simp
theorem big_get {c i : Nat} {st : List Stp} (h : i < st.length) (hb : c ≤ (st.getD i default).1) : big c st = true := by
  unfold big
  rw [List.any_eq_true]
  rw [List.getD_eq_getElem?_getD, List.getElem?_eq_getElem h] at hb
  exact ⟨st[i], List.getElem_mem h, by simpa using hb⟩
theorem big_lt {c i : Nat} {st : List Stp} (h : i < st.length) (hb : big c st = false) : (st.getD i default).1 < c := by
  rcases Nat.lt_or_ge (st.getD i default).1 c with h1 | h1
  · exact h1
  · rw [big_get h h1] at hb; cases hb
theorem piv_lt {W R c i : Nat} {f0 f : Nat → Nat → It} {st : List Stp} (h : redS W R f0 c = some (f, st)) (hi : i < st.length) : (st.getD i default).1 < c := by
  rw [List.getD_eq_getElem?_getD, List.getElem?_eq_getElem hi]
  exact (redS_piv h).1 _ (List.getElem_mem hi)
theorem pivL_getD {st : List Stp} {i : Nat} (h : i < st.length) : (pivL st).getD i default = ((st.getD i default).1 : Int) := by
  unfold pivL
  rw [List.getD_eq_getElem?_getD, List.getD_eq_getElem?_getD, List.getElem?_map, List.getElem?_eq_getElem h]; rfl
theorem pivL_len (st : List Stp) : (pivL st).length = st.length := by simp [pivL]
theorem besL_len' (a b : Nat) (la lb : List It) (n : Nat) (ha : la.length = n * a) (hb : lb.length = n * b) : ∀ i, i ≤ n → (besL a b la lb i).length = i * (a + b)
  | 0, _ => by simp [besL]
  | i + 1, hi => by
    have k1 : i * a + a ≤ n * a := by rw [← Nat.succ_mul]; exact Nat.mul_le_mul_right _ hi
    have k2 : i * b + b ≤ n * b := by rw [← Nat.succ_mul]; exact Nat.mul_le_mul_right _ hi
    have := besL_len' a b la lb n ha hb i (by omega)
    simp only [besL, List.length_append, List.length_take, List.length_drop, Nat.succ_mul]
    omega
set_option maxHeartbeats 1000000 in
theorem specBeside_m (n a b : Nat) (r : Int) (la lb : List It) (hn : n ≤ 12) (ha : a ≤ 12) (hb : b ≤ 12) (hla : la.length = n * a) (hlb : lb.length = n * b) :
    Meets Try.prog 53 [(true, encMt ⟨n, a, la⟩), (true, encMt ⟨r, b, lb⟩)] [(true, encMt ⟨n, (a + b : Nat), besL a b la lb n⟩, true)] := by
  refine meets_upf Try.func53 u_spec_l14Beside_g rfl ?_; simp only [u_spec_l14Beside_u]
  simp (disch := first | omega | (simp only [List.length_take, List.length_drop, List.length_append, List.map_cons, List.map_nil, List.length_map, List.length_cons, List.length_nil, List.length_set, List.length_replicate]; omega) | (simp only [List.length_cons, List.length_nil, Nat.zero_add, Nat.reduceAdd])) only [go_sem, ↓reduceIte, Nat.reduceAdd, Int.reduceNeg, Int.reduceAdd, Int.reduceSub, Int.reduceMul, Int.reduceLT, Int.reduceLE, Int.reduceEq, Int.reduceToNat, Nat.reduceBEq, encMt, encIts]
  refine lp_n n (fun i => [.sc (.int .i64 (i : Nat)), .sl 33 3 ((besL a b la lb i).map encIt)]) rfl fun i hi => ?_
  have h1 : i * a ≤ 12 * 12 := Nat.mul_le_mul (by omega) (by omega)
  have h2 : i * b ≤ 12 * 12 := Nat.mul_le_mul (by omega) (by omega)
  have h3 := besL_len a b la lb i
  have h4 : i * (a + b) ≤ 12 * 24 := Nat.mul_le_mul (by omega) (by omega)
  have g1 : (i : Int) * a = ((i * a : Nat) : Int) := by simp
  have g2 : (i : Int) * b = ((i * b : Nat) : Int) := by simp
  simp only [u_spec_l14Beside_l0]
  simp (disch := first | omega | (simp only [List.length_take, List.length_drop, List.length_append, List.map_cons, List.map_nil, List.length_map, List.length_cons, List.length_nil, List.length_set, List.length_replicate]; omega) | (simp only [List.length_cons, List.length_nil, Nat.zero_add, Nat.reduceAdd])) only [go_sem, ↓reduceIte, Nat.reduceAdd, Int.reduceNeg, Int.reduceAdd, Int.reduceSub, Int.reduceMul, Int.reduceLT, Int.reduceLE, Int.reduceEq, Int.reduceToNat, Nat.reduceBEq, nat1, g1, g2, na]
  refine br_if (fun h => ?_) (fun h => ?_)
  · have hlt : i < n := by omega
    have k1 : i * a + a ≤ n * a := by rw [← Nat.succ_mul]; exact Nat.mul_le_mul_right _ hlt
    have k2 : i * b + b ≤ n * b := by rw [← Nat.succ_mul]; exact Nat.mul_le_mul_right _ hlt
    simp (disch := first | omega | (simp only [List.length_take, List.length_drop, List.length_append, List.map_cons, List.map_nil, List.length_map, List.length_cons, List.length_nil, List.length_set, List.length_replicate]; omega) | (simp only [List.length_cons, List.length_nil, Nat.zero_add, Nat.reduceAdd])) only [go_sem, ↓reduceIte, Nat.reduceAdd, Int.reduceNeg, Int.reduceAdd, Int.reduceSub, Int.reduceMul, Int.reduceLT, Int.reduceLE, Int.reduceEq, Int.reduceToNat, Nat.reduceBEq, nat1, g1, g2, na, fl_it]
    refine ⟨?_, hlt⟩
    simp [besL]
  · have : i = n := by omega
    subst this
    simp (disch := first | omega | (simp only [List.length_take, List.length_drop, List.length_append, List.map_cons, List.map_nil, List.length_map, List.length_cons, List.length_nil, List.length_set, List.length_replicate]; omega) | (simp only [List.length_cons, List.length_nil, Nat.zero_add, Nat.reduceAdd])) only [go_sem, ↓reduceIte, Nat.reduceAdd, Int.reduceNeg, Int.reduceAdd, Int.reduceSub, Int.reduceMul, Int.reduceLT, Int.reduceLE, Int.reduceEq, Int.reduceToNat, Nat.reduceBEq, true_and]
    rfl
theorem fl1_i {t : Nat} {a b : Int} {d : ByteArray} : eFlat (some (.sl t 3 [[.sc (.int .i64 a), .sc (.int .i64 b), .sc (.string d)]])) = some [] := rfl
def augR (n a b : Nat) (la lb : List It) : Option ((Nat → Nat → It) × List Stp) := redS (a + b) n (celF (a + b) (besL a b la lb n)) (a + b)
theorem implAug_m (n a b : Nat) (la lb : List It) (hn : n ≤ 12) (ha : a ≤ 12) (hb : b ≤ 12) (hla : la.length = n * a) (hlb : lb.length = n * b) :
    Meets Try.prog 50 [(true, encMt ⟨n, (a + b : Nat), besL a b la lb n⟩)] (resI (a + b) n (augR n a b la lb)) := by
  have hk := implRed_m n (a + b) (celF (a + b) (besL a b la lb n)) (by omega) (by omega)
  rw [← grid_of (besL_len' a b la lb n hla hlb n (Nat.le_refl _))] at hk
  exact hk
theorem specAug_m (n a b : Nat) (la lb : List It) (hn : n ≤ 12) (ha : a ≤ 12) (hb : b ≤ 12) (hla : la.length = n * a) (hlb : lb.length = n * b) :
    Meets Try.prog 52 [(true, encMt ⟨n, (a + b : Nat), besL a b la lb n⟩)] (resS (a + b) n (augR n a b la lb)) := by
  have hk := specRed_m n (a + b) (celF (a + b) (besL a b la lb n)) (by omega) (by omega)
  rw [← grid_of (besL_len' a b la lb n hla hlb n (Nat.le_refl _))] at hk
  exact hk
end Go.Proofs.Ytolkglnkdfcceaa

namespace Go.Proofs.Ytolkglnkdfcceaa
open Go.RowKit
set_option maxRecDepth 100000
def idF (i j : Nat) : It := if i = j then l2N 1 else l2N 0
def idL (n : Nat) : List It := gridL n idF (n * n)
theorem idL_len (n : Nat) : (idL n).length = n * n := gridL_len _ _ _
set_option maxHeartbeats 1000000 in
theorem implId_m (n : Nat) (hn : n ≤ 12) : Meets Try.prog 54 [(false, [.sc (.int .i64 (n : Nat))])] [(true, encMt ⟨n, n, idL n⟩, true)] := by
  have hi0 := mIntItem 0
  have hi1 := mIntItem 1
  rw [intN_eq (by omega)] at hi0 hi1
  have hnn : n * n ≤ 12 * 12 := Nat.mul_le_mul hn hn
  refine meets_upf Try.func54 u_impl_identity_g rfl ?_; simp only [u_impl_identity_u]
  simp only [encMt, encIts, encIt] at hi0 hi1 ⊢
  simp (disch := first | omega | (simp only [List.length_take, List.length_drop, List.length_append, List.map_cons, List.map_nil, List.length_map, List.length_cons, List.length_nil, List.length_set, List.length_replicate]; omega) | (simp only [List.length_cons, List.length_nil, Nat.zero_add, Nat.reduceAdd])) only [go_sem, ↓reduceIte, Nat.reduceAdd, Int.reduceNeg, Int.reduceAdd, Int.reduceSub, Int.reduceMul, Int.reduceLT, Int.reduceLE, Int.reduceEq, Int.reduceToNat, Nat.reduceBEq, true_and]
  refine lp_n n (fun i => [.sc (.int .i64 (i : Nat)), .sl 33 3 ((gridL n idF (i * n)).map encIt)]) (by rw [Nat.zero_mul]; rfl) fun i hi => ?_
  simp only [u_impl_identity_l2]
  simp (disch := first | omega | (simp only [List.length_take, List.length_drop, List.length_append, List.map_cons, List.map_nil, List.length_map, List.length_cons, List.length_nil, List.length_set, List.length_replicate]; omega) | (simp only [List.length_cons, List.length_nil, Nat.zero_add, Nat.reduceAdd])) only [go_sem, ↓reduceIte, Nat.reduceAdd, Int.reduceNeg, Int.reduceAdd, Int.reduceSub, Int.reduceMul, Int.reduceLT, Int.reduceLE, Int.reduceEq, Int.reduceToNat, Nat.reduceBEq, true_and]
  refine br_if (fun h => ?_) (fun h => ?_)
  · have hlt : i < n := by omega
    have hin : i * n ≤ 12 * 12 := Nat.mul_le_mul (by omega) hn
    simp (disch := first | omega | (simp only [List.length_take, List.length_drop, List.length_append, List.map_cons, List.map_nil, List.length_map, List.length_cons, List.length_nil, List.length_set, List.length_replicate]; omega) | (simp only [List.length_cons, List.length_nil, Nat.zero_add, Nat.reduceAdd])) only [go_sem, ↓reduceIte, Nat.reduceAdd, Int.reduceNeg, Int.reduceAdd, Int.reduceSub, Int.reduceMul, Int.reduceLT, Int.reduceLE, Int.reduceEq, Int.reduceToNat, Nat.reduceBEq, true_and]
    refine lp_n n (fun j => [.sc (.int .i64 (j : Nat)), .sl 33 3 ((gridL n idF (i * n + j)).map encIt)]) rfl fun j hj => ?_
    simp only [u_impl_identity_l1]
    simp (disch := first | omega | (simp only [List.length_take, List.length_drop, List.length_append, List.map_cons, List.map_nil, List.length_map, List.length_cons, List.length_nil, List.length_set, List.length_replicate]; omega) | (simp only [List.length_cons, List.length_nil, Nat.zero_add, Nat.reduceAdd])) only [go_sem, ↓reduceIte, Nat.reduceAdd, Int.reduceNeg, Int.reduceAdd, Int.reduceSub, Int.reduceMul, Int.reduceLT, Int.reduceLE, Int.reduceEq, Int.reduceToNat, Nat.reduceBEq, true_and]
    refine br_if (fun h1 => ?_) (fun h1 => ?_)
    · have hlj : j < n := by omega
      have hs := gridL_succ (i := i) idF hlj
      have hgl := gridL_len n idF (i * n + j)
      refine jn (fun vs => ∃ y0 y1 y2 y3, vs = [y0, .sl 33 3 ((gridL n idF (i * n + j + 1)).map encIt), y1, y2, y3]) ?_ ?_
      · simp (disch := first | omega | (simp only [List.length_take, List.length_drop, List.length_append, List.map_cons, List.map_nil, List.length_map, List.length_cons, List.length_nil, List.length_set, List.length_replicate]; omega) | (simp only [List.length_cons, List.length_nil, Nat.zero_add, Nat.reduceAdd])) only [go_sem, ↓reduceIte, Nat.reduceAdd, Int.reduceNeg, Int.reduceAdd, Int.reduceSub, Int.reduceMul, Int.reduceLT, Int.reduceLE, Int.reduceEq, Int.reduceToNat, Nat.reduceBEq, true_and]
        refine cl_ok hi0 rfl ?_
        simp (disch := first | omega | (simp only [List.length_take, List.length_drop, List.length_append, List.map_cons, List.map_nil, List.length_map, List.length_cons, List.length_nil, List.length_set, List.length_replicate]; omega) | (simp only [List.length_cons, List.length_nil, Nat.zero_add, Nat.reduceAdd])) only [go_sem, ↓reduceIte, Nat.reduceAdd, Int.reduceNeg, Int.reduceAdd, Int.reduceSub, Int.reduceMul, Int.reduceLT, Int.reduceLE, Int.reduceEq, Int.reduceToNat, Nat.reduceBEq, true_and]
        refine br_if (fun hij => ?_) (fun hij => ?_)
        · have e : idF i j = l2N 1 := if_pos (by omega)
          simp (disch := first | omega | (simp only [List.length_take, List.length_drop, List.length_append, List.map_cons, List.map_nil, List.length_map, List.length_cons, List.length_nil, List.length_set, List.length_replicate]; omega) | (simp only [List.length_cons, List.length_nil, Nat.zero_add, Nat.reduceAdd])) only [go_sem, ↓reduceIte, Nat.reduceAdd, Int.reduceNeg, Int.reduceAdd, Int.reduceSub, Int.reduceMul, Int.reduceLT, Int.reduceLE, Int.reduceEq, Int.reduceToNat, Nat.reduceBEq, true_and]
          refine cl_ok hi1 rfl ?_
          simp (disch := first | omega | (simp only [List.length_take, List.length_drop, List.length_append, List.map_cons, List.map_nil, List.length_map, List.length_cons, List.length_nil, List.length_set, List.length_replicate]; omega) | (simp only [List.length_cons, List.length_nil, Nat.zero_add, Nat.reduceAdd])) only [go_sem, ↓reduceIte, Nat.reduceAdd, Int.reduceNeg, Int.reduceAdd, Int.reduceSub, Int.reduceMul, Int.reduceLT, Int.reduceLE, Int.reduceEq, Int.reduceToNat, Nat.reduceBEq, fl1_i]
          rw [hs, e, List.map_append]
          exact ⟨_, _, _, _, rfl⟩
        · have e : idF i j = l2N 0 := if_neg (by omega)
          simp (disch := first | omega | (simp only [List.length_take, List.length_drop, List.length_append, List.map_cons, List.map_nil, List.length_map, List.length_cons, List.length_nil, List.length_set, List.length_replicate]; omega) | (simp only [List.length_cons, List.length_nil, Nat.zero_add, Nat.reduceAdd])) only [go_sem, ↓reduceIte, Nat.reduceAdd, Int.reduceNeg, Int.reduceAdd, Int.reduceSub, Int.reduceMul, Int.reduceLT, Int.reduceLE, Int.reduceEq, Int.reduceToNat, Nat.reduceBEq, fl1_i]
          rw [hs, e, List.map_append]
          exact ⟨_, _, _, _, rfl⟩
      · rintro vs - ⟨y0, y1, y2, y3, rfl⟩
        simp only [u_impl_identity_j0]
        simp (disch := first | omega | (simp only [List.length_take, List.length_drop, List.length_append, List.map_cons, List.map_nil, List.length_map, List.length_cons, List.length_nil, List.length_set, List.length_replicate]; omega) | (simp only [List.length_cons, List.length_nil, Nat.zero_add, Nat.reduceAdd])) only [go_sem, ↓reduceIte, Nat.reduceAdd, Int.reduceNeg, Int.reduceAdd, Int.reduceSub, Int.reduceMul, Int.reduceLT, Int.reduceLE, Int.reduceEq, Int.reduceToNat, Nat.reduceBEq, nat1]
        exact ⟨rfl, hlj⟩
    · obtain rfl : n = j := by omega
      simp (disch := first | omega | (simp only [List.length_take, List.length_drop, List.length_append, List.map_cons, List.map_nil, List.length_map, List.length_cons, List.length_nil, List.length_set, List.length_replicate]; omega) | (simp only [List.length_cons, List.length_nil, Nat.zero_add, Nat.reduceAdd])) only [go_sem, ↓reduceIte, Nat.reduceAdd, Int.reduceNeg, Int.reduceAdd, Int.reduceSub, Int.reduceMul, Int.reduceLT, Int.reduceLE, Int.reduceEq, Int.reduceToNat, Nat.reduceBEq, nat1]
      rw [Nat.succ_mul]
      exact ⟨rfl, hlt⟩
  · obtain rfl : n = i := by omega
    simp (disch := first | omega | (simp only [List.length_take, List.length_drop, List.length_append, List.map_cons, List.map_nil, List.length_map, List.length_cons, List.length_nil, List.length_set, List.length_replicate]; omega) | (simp only [List.length_cons, List.length_nil, Nat.zero_add, Nat.reduceAdd])) only [go_sem, ↓reduceIte, Nat.reduceAdd, Int.reduceNeg, Int.reduceAdd, Int.reduceSub, Int.reduceMul, Int.reduceLT, Int.reduceLE, Int.reduceEq, Int.reduceToNat, Nat.reduceBEq, true_and]
    rfl
def idP (n i : Nat) : List It := gridL n (fun a b => if a = b ∧ a < i then l2N 1 else l2N 0) (n * n)
theorem idP_0 (n : Nat) : List.replicate (n * n) (l2N 0) = idP n 0 := by
  unfold idP gridL
  simp only [Nat.not_lt_zero, and_false, if_false]
  rw [List.map_const', List.length_range]
theorem idP_n (n : Nat) : idP n n = idL n := by
  unfold idP idL
  rcases Nat.eq_zero_or_pos n with h | h
  · subst h; rfl
  unfold gridL
  refine List.map_congr_left fun t ht => ?_
  have : t / n < n := Nat.div_lt_of_lt_mul (List.mem_range.1 ht)
  simp [idF, this]
theorem idP_s {i : Nat} : fup (fun a b => if a = b ∧ a < i then l2N 1 else l2N 0) i i (l2N 1) = (fun a b => if a = b ∧ a < i + 1 then l2N 1 else l2N 0) := by
  funext a b
  unfold fup
  by_cases h : a = i
  · subst h
    by_cases h2 : b = a
    · subst h2; simp
    · simp [h2, Ne.symm h2, show ¬ a = b from fun e => h2 e.symm]
  · have : (a < i ↔ a < i + 1) := by omega
    simp [h, this]
set_option maxHeartbeats 1000000 in
theorem specId_m (n : Nat) (hn : n ≤ 12) : Meets Try.prog 55 [(false, [.sc (.int .i64 (n : Nat))])] [(true, encMt ⟨n, n, idL n⟩, true)] := by
  have hi1 := mL2Num 1
  have hz := l14Zero_m n n (by omega) (by omega)
  have hnn : n * n ≤ 12 * 12 := Nat.mul_le_mul hn hn
  rw [idP_0] at hz
  rw [← idP_n]
  refine meets_upf Try.func55 u_spec_l14Identity_g rfl ?_; simp only [u_spec_l14Identity_u]
  simp only [encMt, encIts, encIt] at hz hi1 ⊢
  simp (disch := first | omega | (simp only [List.length_take, List.length_drop, List.length_append, List.map_cons, List.map_nil, List.length_map, List.length_cons, List.length_nil, List.length_set, List.length_replicate]; omega) | (simp only [List.length_cons, List.length_nil, Nat.zero_add, Nat.reduceAdd])) only [go_sem, ↓reduceIte, Nat.reduceAdd, Int.reduceNeg, Int.reduceAdd, Int.reduceSub, Int.reduceMul, Int.reduceLT, Int.reduceLE, Int.reduceEq, Int.reduceToNat, Nat.reduceBEq, true_and]
  refine cl_ok hz rfl ?_
  simp (disch := first | omega | (simp only [List.length_take, List.length_drop, List.length_append, List.map_cons, List.map_nil, List.length_map, List.length_cons, List.length_nil, List.length_set, List.length_replicate]; omega) | (simp only [List.length_cons, List.length_nil, Nat.zero_add, Nat.reduceAdd])) only [go_sem, ↓reduceIte, Nat.reduceAdd, Int.reduceNeg, Int.reduceAdd, Int.reduceSub, Int.reduceMul, Int.reduceLT, Int.reduceLE, Int.reduceEq, Int.reduceToNat, Nat.reduceBEq, true_and]
  refine lp_n n (fun i => [.sc (.int .i64 (i : Nat)), .sl 33 3 ((idP n i).map encIt)]) rfl fun i hi => ?_
  simp only [u_spec_l14Identity_l0]
  simp (disch := first | omega | (simp only [List.length_take, List.length_drop, List.length_append, List.map_cons, List.map_nil, List.length_map, List.length_cons, List.length_nil, List.length_set, List.length_replicate]; omega) | (simp only [List.length_cons, List.length_nil, Nat.zero_add, Nat.reduceAdd])) only [go_sem, ↓reduceIte, Nat.reduceAdd, Int.reduceNeg, Int.reduceAdd, Int.reduceSub, Int.reduceMul, Int.reduceLT, Int.reduceLE, Int.reduceEq, Int.reduceToNat, Nat.reduceBEq, true_and]
  refine br_if (fun h => ?_) (fun h => ?_)
  · have hlt : i < n := by omega
    have hin : i * n ≤ 12 * 12 := Nat.mul_le_mul (by omega) hn
    simp (disch := first | omega | (simp only [List.length_take, List.length_drop, List.length_append, List.map_cons, List.map_nil, List.length_map, List.length_cons, List.length_nil, List.length_set, List.length_replicate]; omega) | (simp only [List.length_cons, List.length_nil, Nat.zero_add, Nat.reduceAdd])) only [go_sem, ↓reduceIte, Nat.reduceAdd, Int.reduceNeg, Int.reduceAdd, Int.reduceSub, Int.reduceMul, Int.reduceLT, Int.reduceLE, Int.reduceEq, Int.reduceToNat, Nat.reduceBEq, nm, na]
    refine cl_ok hi1 rfl ?_
    unfold idP
    simp (disch := first | omega | (simp only [List.length_take, List.length_drop, List.length_append, List.map_cons, List.map_nil, List.length_map, List.length_cons, List.length_nil, List.length_set, List.length_replicate]; omega) | (simp only [List.length_cons, List.length_nil, Nat.zero_add, Nat.reduceAdd])) only [go_sem, ↓reduceIte, Nat.reduceAdd, Int.reduceNeg, Int.reduceAdd, Int.reduceSub, Int.reduceMul, Int.reduceLT, Int.reduceLE, Int.reduceEq, Int.reduceToNat, Nat.reduceBEq, nm, na, nat1, chk_g (R := n) (W := n) (i := i) (k := i) hlt hlt, st_g (R := n) (W := n) (i := i) (k := i) hlt hlt, idP_s]
    exact hlt
  · obtain rfl : n = i := by omega
    simp (disch := first | omega | (simp only [List.length_take, List.length_drop, List.length_append, List.map_cons, List.map_nil, List.length_map, List.length_cons, List.length_nil, List.length_set, List.length_replicate]; omega) | (simp only [List.length_cons, List.length_nil, Nat.zero_add, Nat.reduceAdd])) only [go_sem, ↓reduceIte, Nat.reduceAdd, Int.reduceNeg, Int.reduceAdd, Int.reduceSub, Int.reduceMul, Int.reduceLT, Int.reduceLE, Int.reduceEq, Int.reduceToNat, Nat.reduceBEq, true_and]
    rfl
def invL (n : Nat) (l : List It) : Nat → List It
  | 0 => []
  | i + 1 => invL n l i ++ (l.drop (i * (n + n) + n)).take n
theorem invL_len (n : Nat) (l : List It) : ∀ i, (invL n l i).length ≤ i * n
  | 0 => by simp [invL]
  | i + 1 => by
    have := invL_len n l i
    simp only [invL, List.length_append, List.length_take, List.length_drop, Nat.succ_mul]
    omega
def invE (n : Nat) (l : List It) : Option (List It) := match augR n n n l (idL n) with
  | none => none
  | some x => if big n x.2 = true then none else some (invL n (gridL (n + n) x.1 (n * (n + n))) n)
def inv (m : Mt) : Option (List It) := if mtB m = true ∧ m.rows = m.cols then invE m.rows.toNat m.cells else none
def invM (m : Mt) : Mt := match inv m with | none => ⟨0, 0, []⟩ | some l => ⟨m.rows, m.rows, l⟩
theorem invM_len (m : Mt) : (invM m).cells.length ≤ 144 := by
  unfold invM
  split
  · simp
  · rename_i l h
    unfold inv at h
    split at h
    · rename_i h1
      obtain ⟨g1, g2, g3, g4, -⟩ := mtB_dims h1.1
      unfold invE at h
      split at h
      · cases h
      · split at h
        · cases h
        · rename_i x _ _
          injection h with h
          subst h
          have k1 := invL_len m.rows.toNat (gridL (m.rows.toNat + m.rows.toNat) x.1 (m.rows.toNat * (m.rows.toNat + m.rows.toNat))) m.rows.toNat
          have k2 : m.rows.toNat * m.rows.toNat ≤ 12 * 12 := Nat.mul_le_mul (by omega) (by omega)
          simp only; omega
    · cases h
theorem inv_none {m : Mt} (h : ¬ (mtB m = true ∧ m.rows = m.cols)) : inv m = none := by unfold inv; rw [if_neg h]
theorem inv_some {n : Nat} {l : List It} (h1 : mtB ⟨n, n, l⟩ = true) : inv ⟨n, n, l⟩ = invE n l := by unfold inv; rw [if_pos ⟨h1, rfl⟩]; rfl
set_option maxHeartbeats 2000000 in
theorem implInv_m (m : Mt) : Meets Try.prog 23 [(true, encMt m)] [(true, encMt (invM m), true), (false, [.sc (.bool (inv m).isSome)], true)] := by
  obtain ⟨r, c, l⟩ := m
  have hm := isMt_m ⟨r, c, l⟩
  unfold invM
  refine meets_upf Try.func23 u_impl_InvertMatrix_g rfl ?_; simp only [u_impl_InvertMatrix_u]
  simp only [encMt, encIts] at hm ⊢
  simp (disch := first | omega | (simp only [List.length_take, List.length_drop, List.length_append, List.map_cons, List.map_nil, List.length_map, List.length_cons, List.length_nil, List.length_set, List.length_replicate]; omega) | (simp only [List.length_cons, List.length_nil, Nat.zero_add, Nat.reduceAdd])) only [go_sem, ↓reduceIte, Nat.reduceAdd, Int.reduceNeg, Int.reduceAdd, Int.reduceSub, Int.reduceMul, Int.reduceLT, Int.reduceLE, Int.reduceEq, Int.reduceToNat, Nat.reduceBEq, true_and]
  refine cl_ok hm rfl ?_
  cases hA : mtB ⟨r, c, l⟩
  · rw [inv_none (by simp [hA])]
    simp (disch := first | omega | (simp only [List.length_take, List.length_drop, List.length_append, List.map_cons, List.map_nil, List.length_map, List.length_cons, List.length_nil, List.length_set, List.length_replicate]; omega) | (simp only [List.length_cons, List.length_nil, Nat.zero_add, Nat.reduceAdd])) only [go_sem, ↓reduceIte, Nat.reduceAdd, Int.reduceNeg, Int.reduceAdd, Int.reduceSub, Int.reduceMul, Int.reduceLT, Int.reduceLE, Int.reduceEq, Int.reduceToNat, Nat.reduceBEq, true_and]
    rfl
  simp (disch := first | omega | (simp only [List.length_take, List.length_drop, List.length_append, List.map_cons, List.map_nil, List.length_map, List.length_cons, List.length_nil, List.length_set, List.length_replicate]; omega) | (simp only [List.length_cons, List.length_nil, Nat.zero_add, Nat.reduceAdd])) only [go_sem, ↓reduceIte, Nat.reduceAdd, Int.reduceNeg, Int.reduceAdd, Int.reduceSub, Int.reduceMul, Int.reduceLT, Int.reduceLE, Int.reduceEq, Int.reduceToNat, Nat.reduceBEq, true_and]
  refine br_ifn (fun h1 => ?_) (fun h1 => ?_)
  rotate_left
  · rw [inv_none (by simp only; rintro ⟨-, h⟩; exact h1 h)]
    simp (disch := first | omega | (simp only [List.length_take, List.length_drop, List.length_append, List.map_cons, List.map_nil, List.length_map, List.length_cons, List.length_nil, List.length_set, List.length_replicate]; omega) | (simp only [List.length_cons, List.length_nil, Nat.zero_add, Nat.reduceAdd])) only [go_sem, ↓reduceIte, Nat.reduceAdd, Int.reduceNeg, Int.reduceAdd, Int.reduceSub, Int.reduceMul, Int.reduceLT, Int.reduceLE, Int.reduceEq, Int.reduceToNat, Nat.reduceBEq, true_and]
    rfl
  subst h1
  obtain ⟨g1, g2, -, -, g5⟩ := mtB_dims hA
  simp only at g1 g2 g5
  obtain ⟨n, rfl⟩ := Int.eq_ofNat_of_zero_le g1
  have hla : l.length = n * n := by exact_mod_cast g5
  rw [inv_some hA]
  have hid := implId_m n (by omega)
  have hbe := implBeside_m n n n n l (idL n) (by omega) (by omega) (by omega) hla (idL_len n)
  have hau := implAug_m n n n l (idL n) (by omega) (by omega) (by omega) hla (idL_len n)
  unfold invE
  simp only [encMt, encIts] at hid hbe hau
  simp (disch := first | omega | (simp only [List.length_take, List.length_drop, List.length_append, List.map_cons, List.map_nil, List.length_map, List.length_cons, List.length_nil, List.length_set, List.length_replicate]; omega) | (simp only [List.length_cons, List.length_nil, Nat.zero_add, Nat.reduceAdd])) only [go_sem, ↓reduceIte, Nat.reduceAdd, Int.reduceNeg, Int.reduceAdd, Int.reduceSub, Int.reduceMul, Int.reduceLT, Int.reduceLE, Int.reduceEq, Int.reduceToNat, Nat.reduceBEq, true_and]
  refine cl_ok hid rfl ?_
  simp (disch := first | omega | (simp only [List.length_take, List.length_drop, List.length_append, List.map_cons, List.map_nil, List.length_map, List.length_cons, List.length_nil, List.length_set, List.length_replicate]; omega) | (simp only [List.length_cons, List.length_nil, Nat.zero_add, Nat.reduceAdd])) only [go_sem, ↓reduceIte, Nat.reduceAdd, Int.reduceNeg, Int.reduceAdd, Int.reduceSub, Int.reduceMul, Int.reduceLT, Int.reduceLE, Int.reduceEq, Int.reduceToNat, Nat.reduceBEq, true_and]
  refine cl_ok hbe rfl ?_
  simp (disch := first | omega | (simp only [List.length_take, List.length_drop, List.length_append, List.map_cons, List.map_nil, List.length_map, List.length_cons, List.length_nil, List.length_set, List.length_replicate]; omega) | (simp only [List.length_cons, List.length_nil, Nat.zero_add, Nat.reduceAdd])) only [go_sem, ↓reduceIte, Nat.reduceAdd, Int.reduceNeg, Int.reduceAdd, Int.reduceSub, Int.reduceMul, Int.reduceLT, Int.reduceLE, Int.reduceEq, Int.reduceToNat, Nat.reduceBEq, true_and]
  cases hd : augR n n n l (idL n) with
  | none =>
    rw [hd] at hau
    simp only [resI, encMt, encIts] at hau
    refine cl_ok hau rfl ?_
    simp (disch := first | omega | (simp only [List.length_take, List.length_drop, List.length_append, List.map_cons, List.map_nil, List.length_map, List.length_cons, List.length_nil, List.length_set, List.length_replicate]; omega) | (simp only [List.length_cons, List.length_nil, Nat.zero_add, Nat.reduceAdd])) only [go_sem, ↓reduceIte, Nat.reduceAdd, Int.reduceNeg, Int.reduceAdd, Int.reduceSub, Int.reduceMul, Int.reduceLT, Int.reduceLE, Int.reduceEq, Int.reduceToNat, Nat.reduceBEq, true_and]
    rfl
  | some x =>
    obtain ⟨f, st⟩ := x
    rw [hd] at hau
    simp only [resI, encMt, encIts, encSts] at hau
    obtain ⟨l1, l2⟩ := redS_len hd
    refine cl_ok hau rfl ?_
    simp (disch := first | omega | (simp only [List.length_take, List.length_drop, List.length_append, List.map_cons, List.map_nil, List.length_map, List.length_cons, List.length_nil, List.length_set, List.length_replicate]; omega) | (simp only [List.length_cons, List.length_nil, Nat.zero_add, Nat.reduceAdd])) only [go_sem, ↓reduceIte, Nat.reduceAdd, Int.reduceNeg, Int.reduceAdd, Int.reduceSub, Int.reduceMul, Int.reduceLT, Int.reduceLE, Int.reduceEq, Int.reduceToNat, Nat.reduceBEq, true_and]
    refine lp (fun i : Nat => [.sc (.int .i64 (i : Nat))]) (fun i => i ≤ st.length ∧ big n (st.take i) = false) (fun i => st.length - i) 0 rfl ⟨by omega, rfl⟩ ?_
    rintro i ⟨hi, hb⟩
    simp only [u_impl_InvertMatrix_l1]
    simp (disch := first | omega | (simp only [List.length_take, List.length_drop, List.length_append, List.map_cons, List.map_nil, List.length_map, List.length_cons, List.length_nil, List.length_set, List.length_replicate]; omega) | (simp only [List.length_cons, List.length_nil, Nat.zero_add, Nat.reduceAdd])) only [go_sem, ↓reduceIte, Nat.reduceAdd, Int.reduceNeg, Int.reduceAdd, Int.reduceSub, Int.reduceMul, Int.reduceLT, Int.reduceLE, Int.reduceEq, Int.reduceToNat, Nat.reduceBEq, true_and]
    refine br_if (fun h => ?_) (fun h => ?_)
    · have hlt : i < st.length := by omega
      have hbt := big_take (c := n) hlt
      rw [hb, Bool.false_or] at hbt
      simp (disch := first | omega | (simp only [List.length_take, List.length_drop, List.length_append, List.map_cons, List.map_nil, List.length_map, List.length_cons, List.length_nil, List.length_set, List.length_replicate]; omega) | (simp only [List.length_cons, List.length_nil, Nat.zero_add, Nat.reduceAdd])) only [go_sem, ↓reduceIte, Nat.reduceAdd, Int.reduceNeg, Int.reduceAdd, Int.reduceSub, Int.reduceMul, Int.reduceLT, Int.reduceLE, Int.reduceEq, Int.reduceToNat, Nat.reduceBEq, ix_st, encSt]
      refine br_if (fun h1 => ?_) (fun h1 => ?_)
      · have : big n st = true := big_get hlt (by omega)
        rw [if_pos this]
        simp (disch := first | omega | (simp only [List.length_take, List.length_drop, List.length_append, List.map_cons, List.map_nil, List.length_map, List.length_cons, List.length_nil, List.length_set, List.length_replicate]; omega) | (simp only [List.length_cons, List.length_nil, Nat.zero_add, Nat.reduceAdd])) only [go_sem, ↓reduceIte, Nat.reduceAdd, Int.reduceNeg, Int.reduceAdd, Int.reduceSub, Int.reduceMul, Int.reduceLT, Int.reduceLE, Int.reduceEq, Int.reduceToNat, Nat.reduceBEq, true_and]
        rfl
      rw [decide_eq_false (by omega)] at hbt
      simp (disch := first | omega | (simp only [List.length_take, List.length_drop, List.length_append, List.map_cons, List.map_nil, List.length_map, List.length_cons, List.length_nil, List.length_set, List.length_replicate]; omega) | (simp only [List.length_cons, List.length_nil, Nat.zero_add, Nat.reduceAdd])) only [go_sem, ↓reduceIte, Nat.reduceAdd, Int.reduceNeg, Int.reduceAdd, Int.reduceSub, Int.reduceMul, Int.reduceLT, Int.reduceLE, Int.reduceEq, Int.reduceToNat, Nat.reduceBEq, nat1]
      exact ⟨i + 1, rfl, ⟨by omega, hbt⟩, by omega⟩
    obtain rfl : i = st.length := by omega
    rw [List.take_length] at hb
    rw [if_neg (by rw [hb]; decide)]
    have hG : (gridL (n + n) f (n * (n + n))).length = n * (n + n) := gridL_len _ _ _
    generalize gridL (n + n) f (n * (n + n)) = G at *
    simp (disch := first | omega | (simp only [List.length_take, List.length_drop, List.length_append, List.map_cons, List.map_nil, List.length_map, List.length_cons, List.length_nil, List.length_set, List.length_replicate]; omega) | (simp only [List.length_cons, List.length_nil, Nat.zero_add, Nat.reduceAdd])) only [go_sem, ↓reduceIte, Nat.reduceAdd, Int.reduceNeg, Int.reduceAdd, Int.reduceSub, Int.reduceMul, Int.reduceLT, Int.reduceLE, Int.reduceEq, Int.reduceToNat, Nat.reduceBEq, true_and]
    refine lp_n n (fun i => [.sc (.int .i64 (i : Nat)), .sl 33 3 ((invL n G i).map encIt)]) rfl fun i hi => ?_
    simp only [u_impl_InvertMatrix_l0]
    have b1 : i * (n + n) ≤ 12 * 24 := Nat.mul_le_mul (by omega) (by omega)
    have b2 := invL_len n G i
    have b3 : i * n ≤ 12 * 12 := Nat.mul_le_mul (by omega) (by omega)
    simp (disch := first | omega | (simp only [List.length_take, List.length_drop, List.length_append, List.map_cons, List.map_nil, List.length_map, List.length_cons, List.length_nil, List.length_set, List.length_replicate]; omega) | (simp only [List.length_cons, List.length_nil, Nat.zero_add, Nat.reduceAdd])) only [go_sem, ↓reduceIte, Nat.reduceAdd, Int.reduceNeg, Int.reduceAdd, Int.reduceSub, Int.reduceMul, Int.reduceLT, Int.reduceLE, Int.reduceEq, Int.reduceToNat, Nat.reduceBEq, true_and]
    refine br_if (fun h => ?_) (fun h => ?_)
    · have hlt : i < n := by omega
      have b4 : i * (n + n) + (n + n) ≤ n * (n + n) := by rw [← Nat.succ_mul]; exact Nat.mul_le_mul_right _ hlt
      have b5 : (i + 1) * (n + n) = i * (n + n) + (n + n) := Nat.succ_mul _ _
      simp (disch := first | omega | (simp only [List.length_take, List.length_drop, List.length_append, List.map_cons, List.map_nil, List.length_map, List.length_cons, List.length_nil, List.length_set, List.length_replicate]; omega) | (simp only [List.length_cons, List.length_nil, Nat.zero_add, Nat.reduceAdd])) only [go_sem, ↓reduceIte, Nat.reduceAdd, Int.reduceNeg, Int.reduceAdd, Int.reduceSub, Int.reduceMul, Int.reduceLT, Int.reduceLE, Int.reduceEq, Int.reduceToNat, Nat.reduceBEq, nm, na, nat1, b5, fl_it]
      refine ⟨?_, hlt⟩
      rw [show ((((i * (n + n) + (n + n) : Nat) : Int) - ((i * (n + n) + n : Nat) : Int)).toNat) = n by omega]
      rfl
    · obtain rfl : i = n := by omega
      simp (disch := first | omega | (simp only [List.length_take, List.length_drop, List.length_append, List.map_cons, List.map_nil, List.length_map, List.length_cons, List.length_nil, List.length_set, List.length_replicate]; omega) | (simp only [List.length_cons, List.length_nil, Nat.zero_add, Nat.reduceAdd])) only [go_sem, ↓reduceIte, Nat.reduceAdd, Int.reduceNeg, Int.reduceAdd, Int.reduceSub, Int.reduceMul, Int.reduceLT, Int.reduceLE, Int.reduceEq, Int.reduceToNat, Nat.reduceBEq, true_and]
      rfl
set_option maxHeartbeats 2000000 in
theorem specInv_m (m : Mt) : Meets Try.prog 24 [(true, encMt m)] [(true, encMt (invM m), true), (false, [.sc (.bool (inv m).isSome)], true)] := by
  obtain ⟨r, c, l⟩ := m
  have hm := specIsMt_m ⟨r, c, l⟩
  unfold invM
  refine meets_upf Try.func24 u_spec_InvertMatrix_g rfl ?_; simp only [u_spec_InvertMatrix_u]
  simp only [encMt, encIts] at hm ⊢
  simp (disch := first | omega | (simp only [List.length_take, List.length_drop, List.length_append, List.map_cons, List.map_nil, List.length_map, List.length_cons, List.length_nil, List.length_set, List.length_replicate]; omega) | (simp only [List.length_cons, List.length_nil, Nat.zero_add, Nat.reduceAdd])) only [go_sem, ↓reduceIte, Nat.reduceAdd, Int.reduceNeg, Int.reduceAdd, Int.reduceSub, Int.reduceMul, Int.reduceLT, Int.reduceLE, Int.reduceEq, Int.reduceToNat, Nat.reduceBEq, true_and]
  refine cl_ok hm rfl ?_
  cases hA : mtB ⟨r, c, l⟩
  · rw [inv_none (by simp [hA])]
    simp (disch := first | omega | (simp only [List.length_take, List.length_drop, List.length_append, List.map_cons, List.map_nil, List.length_map, List.length_cons, List.length_nil, List.length_set, List.length_replicate]; omega) | (simp only [List.length_cons, List.length_nil, Nat.zero_add, Nat.reduceAdd])) only [go_sem, ↓reduceIte, Nat.reduceAdd, Int.reduceNeg, Int.reduceAdd, Int.reduceSub, Int.reduceMul, Int.reduceLT, Int.reduceLE, Int.reduceEq, Int.reduceToNat, Nat.reduceBEq, true_and]
    rfl
  simp (disch := first | omega | (simp only [List.length_take, List.length_drop, List.length_append, List.map_cons, List.map_nil, List.length_map, List.length_cons, List.length_nil, List.length_set, List.length_replicate]; omega) | (simp only [List.length_cons, List.length_nil, Nat.zero_add, Nat.reduceAdd])) only [go_sem, ↓reduceIte, Nat.reduceAdd, Int.reduceNeg, Int.reduceAdd, Int.reduceSub, Int.reduceMul, Int.reduceLT, Int.reduceLE, Int.reduceEq, Int.reduceToNat, Nat.reduceBEq, true_and]
  refine br_ifn (fun h1 => ?_) (fun h1 => ?_)
  rotate_left
  · rw [inv_none (by simp only; rintro ⟨-, h⟩; exact h1 h)]
    simp (disch := first | omega | (simp only [List.length_take, List.length_drop, List.length_append, List.map_cons, List.map_nil, List.length_map, List.length_cons, List.length_nil, List.length_set, List.length_replicate]; omega) | (simp only [List.length_cons, List.length_nil, Nat.zero_add, Nat.reduceAdd])) only [go_sem, ↓reduceIte, Nat.reduceAdd, Int.reduceNeg, Int.reduceAdd, Int.reduceSub, Int.reduceMul, Int.reduceLT, Int.reduceLE, Int.reduceEq, Int.reduceToNat, Nat.reduceBEq, true_and]
    rfl
  subst h1
  obtain ⟨g1, g2, -, -, g5⟩ := mtB_dims hA
  simp only at g1 g2 g5
  obtain ⟨n, rfl⟩ := Int.eq_ofNat_of_zero_le g1
  have hla : l.length = n * n := by exact_mod_cast g5
  rw [inv_some hA]
  have hid := specId_m n (by omega)
  have hbe := specBeside_m n n n n l (idL n) (by omega) (by omega) (by omega) hla (idL_len n)
  have hau := specAug_m n n n l (idL n) (by omega) (by omega) (by omega) hla (idL_len n)
  unfold invE
  simp only [encMt, encIts] at hid hbe hau
  simp (disch := first | omega | (simp only [List.length_take, List.length_drop, List.length_append, List.map_cons, List.map_nil, List.length_map, List.length_cons, List.length_nil, List.length_set, List.length_replicate]; omega) | (simp only [List.length_cons, List.length_nil, Nat.zero_add, Nat.reduceAdd])) only [go_sem, ↓reduceIte, Nat.reduceAdd, Int.reduceNeg, Int.reduceAdd, Int.reduceSub, Int.reduceMul, Int.reduceLT, Int.reduceLE, Int.reduceEq, Int.reduceToNat, Nat.reduceBEq, true_and]
  refine cl_ok hid rfl ?_
  simp (disch := first | omega | (simp only [List.length_take, List.length_drop, List.length_append, List.map_cons, List.map_nil, List.length_map, List.length_cons, List.length_nil, List.length_set, List.length_replicate]; omega) | (simp only [List.length_cons, List.length_nil, Nat.zero_add, Nat.reduceAdd])) only [go_sem, ↓reduceIte, Nat.reduceAdd, Int.reduceNeg, Int.reduceAdd, Int.reduceSub, Int.reduceMul, Int.reduceLT, Int.reduceLE, Int.reduceEq, Int.reduceToNat, Nat.reduceBEq, true_and]
  refine cl_ok hbe rfl ?_
  simp (disch := first | omega | (simp only [List.length_take, List.length_drop, List.length_append, List.map_cons, List.map_nil, List.length_map, List.length_cons, List.length_nil, List.length_set, List.length_replicate]; omega) | (simp only [List.length_cons, List.length_nil, Nat.zero_add, Nat.reduceAdd])) only [go_sem, ↓reduceIte, Nat.reduceAdd, Int.reduceNeg, Int.reduceAdd, Int.reduceSub, Int.reduceMul, Int.reduceLT, Int.reduceLE, Int.reduceEq, Int.reduceToNat, Nat.reduceBEq, true_and]
  cases hd : augR n n n l (idL n) with
  | none =>
    rw [hd] at hau
    simp only [resS, encMt, encIts] at hau
    refine cl_ok hau rfl ?_
    simp (disch := first | omega | (simp only [List.length_take, List.length_drop, List.length_append, List.map_cons, List.map_nil, List.length_map, List.length_cons, List.length_nil, List.length_set, List.length_replicate]; omega) | (simp only [List.length_cons, List.length_nil, Nat.zero_add, Nat.reduceAdd])) only [go_sem, ↓reduceIte, Nat.reduceAdd, Int.reduceNeg, Int.reduceAdd, Int.reduceSub, Int.reduceMul, Int.reduceLT, Int.reduceLE, Int.reduceEq, Int.reduceToNat, Nat.reduceBEq, true_and]
    refine jn_eq [.sc (.bool true)] ?_ ?_
    · simp (disch := first | omega | (simp only [List.length_take, List.length_drop, List.length_append, List.map_cons, List.map_nil, List.length_map, List.length_cons, List.length_nil, List.length_set, List.length_replicate]; omega) | (simp only [List.length_cons, List.length_nil, Nat.zero_add, Nat.reduceAdd])) only [go_sem, ↓reduceIte, Nat.reduceAdd, Int.reduceNeg, Int.reduceAdd, Int.reduceSub, Int.reduceMul, Int.reduceLT, Int.reduceLE, Int.reduceEq, Int.reduceToNat, Nat.reduceBEq, true_and]
    simp only [u_spec_InvertMatrix_j1]
    simp (disch := first | omega | (simp only [List.length_take, List.length_drop, List.length_append, List.map_cons, List.map_nil, List.length_map, List.length_cons, List.length_nil, List.length_set, List.length_replicate]; omega) | (simp only [List.length_cons, List.length_nil, Nat.zero_add, Nat.reduceAdd])) only [go_sem, ↓reduceIte, Nat.reduceAdd, Int.reduceNeg, Int.reduceAdd, Int.reduceSub, Int.reduceMul, Int.reduceLT, Int.reduceLE, Int.reduceEq, Int.reduceToNat, Nat.reduceBEq, true_and]
    rfl
  | some x =>
    obtain ⟨f, st⟩ := x
    rw [hd] at hau
    simp only [resS, encMt, encIts, encZs] at hau
    obtain ⟨l1, l2⟩ := redS_len hd
    refine cl_ok hau rfl ?_
    have hpl : ((pivL st).map encZ).length = st.length := by rw [List.length_map]; exact pivL_len st
    have hpl' := pivL_len st
    have hP := (redS_piv hd).2
    simp (disch := first | omega | (simp only [List.length_take, List.length_drop, List.length_append, List.map_cons, List.map_nil, List.length_map, List.length_cons, List.length_nil, List.length_set, List.length_replicate]; omega) | (simp only [List.length_cons, List.length_nil, Nat.zero_add, Nat.reduceAdd])) only [go_sem, ↓reduceIte, Nat.reduceAdd, Int.reduceNeg, Int.reduceAdd, Int.reduceSub, Int.reduceMul, Int.reduceLT, Int.reduceLE, Int.reduceEq, Int.reduceToNat, Nat.reduceBEq, hpl]
    refine jn_eq [.sc (.bool (big n st))] ?_ ?_
    · refine br_if (fun h => ?_) (fun h => ?_)
      · have hpg := pivL_getD (st := st) (i := st.length - 1) (by omega)
        have hpp := piv_lt hd (i := st.length - 1) (by omega)
        have hbl := big_last (c := n) hP (by omega)
        have e : ((st.length : Int) - 1).toNat = st.length - 1 := by omega
        simp (disch := first | omega | (simp only [List.length_take, List.length_drop, List.length_append, List.map_cons, List.map_nil, List.length_map, List.length_cons, List.length_nil, List.length_set, List.length_replicate]; omega) | (simp only [List.length_cons, List.length_nil, Nat.zero_add, Nat.reduceAdd])) only [go_sem, ↓reduceIte, Nat.reduceAdd, Int.reduceNeg, Int.reduceAdd, Int.reduceSub, Int.reduceMul, Int.reduceLT, Int.reduceLE, Int.reduceEq, Int.reduceToNat, Nat.reduceBEq, hpl, ix_z, e, hpg, encZ]
        rw [hbl]
        congr 3
        rw [decide_eq_decide]; omega
      · have : st = [] := List.length_eq_zero_iff.1 (by omega)
        subst this
        simp (disch := first | omega | (simp only [List.length_take, List.length_drop, List.length_append, List.map_cons, List.map_nil, List.length_map, List.length_cons, List.length_nil, List.length_set, List.length_replicate]; omega) | (simp only [List.length_cons, List.length_nil, Nat.zero_add, Nat.reduceAdd])) only [go_sem, ↓reduceIte, Nat.reduceAdd, Int.reduceNeg, Int.reduceAdd, Int.reduceSub, Int.reduceMul, Int.reduceLT, Int.reduceLE, Int.reduceEq, Int.reduceToNat, Nat.reduceBEq, big_nil]
    simp only [u_spec_InvertMatrix_j1]
    cases hb : big n st
    rotate_left
    · simp (disch := first | omega | (simp only [List.length_take, List.length_drop, List.length_append, List.map_cons, List.map_nil, List.length_map, List.length_cons, List.length_nil, List.length_set, List.length_replicate]; omega) | (simp only [List.length_cons, List.length_nil, Nat.zero_add, Nat.reduceAdd])) only [go_sem, ↓reduceIte, Nat.reduceAdd, Int.reduceNeg, Int.reduceAdd, Int.reduceSub, Int.reduceMul, Int.reduceLT, Int.reduceLE, Int.reduceEq, Int.reduceToNat, Nat.reduceBEq, true_and]
      rfl
    simp only [Bool.false_eq_true, if_false]
    have hG : (gridL (n + n) f (n * (n + n))).length = n * (n + n) := gridL_len _ _ _
    generalize gridL (n + n) f (n * (n + n)) = G at *
    simp (disch := first | omega | (simp only [List.length_take, List.length_drop, List.length_append, List.map_cons, List.map_nil, List.length_map, List.length_cons, List.length_nil, List.length_set, List.length_replicate]; omega) | (simp only [List.length_cons, List.length_nil, Nat.zero_add, Nat.reduceAdd])) only [go_sem, ↓reduceIte, Nat.reduceAdd, Int.reduceNeg, Int.reduceAdd, Int.reduceSub, Int.reduceMul, Int.reduceLT, Int.reduceLE, Int.reduceEq, Int.reduceToNat, Nat.reduceBEq, true_and]
    refine lp_n n (fun i => [.sc (.int .i64 (i : Nat)), .sl 33 3 ((invL n G i).map encIt)]) rfl fun i hi => ?_
    simp only [u_spec_InvertMatrix_l0]
    have b1 : i * (n + n) ≤ 12 * 24 := Nat.mul_le_mul (by omega) (by omega)
    have b2 := invL_len n G i
    have b3 : i * n ≤ 12 * 12 := Nat.mul_le_mul (by omega) (by omega)
    simp (disch := first | omega | (simp only [List.length_take, List.length_drop, List.length_append, List.map_cons, List.map_nil, List.length_map, List.length_cons, List.length_nil, List.length_set, List.length_replicate]; omega) | (simp only [List.length_cons, List.length_nil, Nat.zero_add, Nat.reduceAdd])) only [go_sem, ↓reduceIte, Nat.reduceAdd, Int.reduceNeg, Int.reduceAdd, Int.reduceSub, Int.reduceMul, Int.reduceLT, Int.reduceLE, Int.reduceEq, Int.reduceToNat, Nat.reduceBEq, true_and]
    refine br_if (fun h => ?_) (fun h => ?_)
    · have hlt : i < n := by omega
      have b4 : i * (n + n) + (n + n) ≤ n * (n + n) := by rw [← Nat.succ_mul]; exact Nat.mul_le_mul_right _ hlt
      have b5 : (i + 1) * (n + n) = i * (n + n) + (n + n) := Nat.succ_mul _ _
      simp (disch := first | omega | (simp only [List.length_take, List.length_drop, List.length_append, List.map_cons, List.map_nil, List.length_map, List.length_cons, List.length_nil, List.length_set, List.length_replicate]; omega) | (simp only [List.length_cons, List.length_nil, Nat.zero_add, Nat.reduceAdd])) only [go_sem, ↓reduceIte, Nat.reduceAdd, Int.reduceNeg, Int.reduceAdd, Int.reduceSub, Int.reduceMul, Int.reduceLT, Int.reduceLE, Int.reduceEq, Int.reduceToNat, Nat.reduceBEq, nm, na, nat1, b5, fl_it]
      refine ⟨?_, hlt⟩
      rw [show ((((i * (n + n) + (n + n) : Nat) : Int) - ((i * (n + n) + n : Nat) : Int)).toNat) = n by omega]
      rfl
    · obtain rfl : i = n := by omega
      simp (disch := first | omega | (simp only [List.length_take, List.length_drop, List.length_append, List.map_cons, List.map_nil, List.length_map, List.length_cons, List.length_nil, List.length_set, List.length_replicate]; omega) | (simp only [List.length_cons, List.length_nil, Nat.zero_add, Nat.reduceAdd])) only [go_sem, ↓reduceIte, Nat.reduceAdd, Int.reduceNeg, Int.reduceAdd, Int.reduceSub, Int.reduceMul, Int.reduceLT, Int.reduceLE, Int.reduceEq, Int.reduceToNat, Nat.reduceBEq, true_and]
      rfl
end Go.Proofs.Ytolkglnkdfcceaa

namespace Go.Proofs.Ytolkglnkdfcceaa
open Go.RowKit
set_option maxRecDepth 100000
def u_impl_DeterminantOf_h : List Hint := [⟨2000001, 8, ⟨[(48, .p false [.d 34]), (9, .p false [.ptr 4 4 0]), (40, .p false [.d 33]), (39, .p false [.d 29]), (38, .p false [.d 27]), (37, .p false [.own 2 2]), (7, .p false [.ptr 3 3 0]), (34, .p false [.d 19]), (28, .p false [.d 17]), (6, .p false [.d 14]), (5, .p false [.own 2 2]), (19, .p false [.d 9]), (3, .p false [.d 6]), (2, .p false [.ptr 1 1 0]), (1, .p false [.ptr 0 0 0]), (0, .p true [.d 0, .d 1, .d 2])], [(0, .var 0 28 [.d 0, .d 1, .d 2]), (1, .var 1 33 [.d 3, .d 4, .d 5]), (2, .row 2 67 5 13), (3, .var 3 33 [.d 35, .d 36, .d 37]), (4, .var 4 67 [.d 38, .d 39, .d 40, .d 41, .d 34])], 5, 5, 42, [(33, true), (19, false), (17, false), (9, false), (8, false), (6, false)]⟩, []⟩, ⟨3000010, 4, ⟨[(39, .p false [.d 29]), (38, .p false [.d 27]), (37, .p false [.own 2 2]), (7, .p false [.ptr 3 3 0]), (34, .p false [.d 19]), (28, .p false [.d 17]), (6, .p false [.d 14]), (5, .p false [.own 2 2]), (19, .p false [.d 9]), (3, .p false [.d 6]), (2, .p false [.ptr 1 1 0]), (1, .p false [.ptr 0 0 0]), (0, .p true [.d 0, .d 1, .d 2])], [(0, .var 0 28 [.d 0, .d 1, .d 2]), (1, .var 1 33 [.d 3, .d 4, .d 5]), (2, .row 2 67 5 13), (3, .var 3 33 [.d 30, .d 31, .d 32])], 4, 4, 33, [(19, false), (17, false), (9, false), (8, false), (6, false)]⟩, []⟩]
def u_impl_DeterminantOf_d : List (Nat × Nat × Bool × List Nat) := [(16, 4, false, [3]), (14, 3, false, [])]
def u_impl_DeterminantOf_j0 : UP := .po (.k (.int .i64 1)) <| .po (.bin .add false 12 0) <| .jump 0 [0, 8, 7, 6]
def u_impl_DeterminantOf_l1 : UP := .po (.bin .lss false 3 5) <| .ite 0 (.sel [1, 2, 3, 4, 10] <| .join 8 u_impl_DeterminantOf_j0 <| .po (.isI 3) <| .po (.chk 5 4 3) <| .po (.idx 5 4 3) <| .po (.k (.int .i64 0)) <| .po (.k (.int .i64 0)) <| .po (.k (.int .i64 0)) <| .po (.k (.string ⟨#[]⟩)) <| .po (.k (.bool false)) <| .sel [5, 6, 7, 8, 9, 10, 11, 12] <| .cl 43 [(true, [7, 6, 5]), (true, [3, 2, 1])] [(true, [none, none, none], true)] <| .ite 3 (.po (.sc 2) <| .po (.sc 1) <| .po (.sc 0) <| .po (.k (.int .i64 (-1))) <| .cl 31 [(false, [0])] [(true, [none, none, none], true)] <| .sel [0, 1, 2, 4, 5, 6, 7, 8, 9, 10, 11] <| .cl 43 [(true, [5, 4, 3]), (true, [2, 1, 0])] [(true, [none, none, none], true)] <| .jump 1 [9, 2, 1, 0, 13, 12, 11, 10]) <| .jump 1 [3, 2, 1, 0, 7, 6, 5, 4]) <| .po (.sc 3) <| .po (.sc 2) <| .po (.sc 1) <| .po (.sc 3) <| .po (.sc 2) <| .po (.sc 1) <| .sel [1, 2, 3] <| .cl 56 [(true, [2, 1, 0])] [(false, [none], true)] <| .po (.un .not 0) <| .po (.sc 0) <| .po (.sc 4) <| .po (.sc 3) <| .po (.sc 2) <| .po (.sc 0) <| .ret [(true, [4, 3, 2]), (false, [0])]
def u_impl_DeterminantOf_u : UP := .po (.k (.int .i64 0)) <| .po (.k (.int .i64 0)) <| .po (.k (.string ⟨#[]⟩)) <| .po (.k (.bool false)) <| .sel [4, 5, 6] <| .cl 41 [(true, [2, 1, 0])] [(false, [none], true)] <| .po (.un .not 0) <| .ite 0 (.po (.k (.bool true)) <| .po (.k (.int .i64 0)) <| .po (.k (.int .i64 0)) <| .po (.k (.string ⟨#[]⟩)) <| .po (.k (.bool false)) <| .po (.sc 3) <| .po (.sc 2) <| .po (.sc 1) <| .po (.sc 0) <| .ret [(true, [3, 2, 1]), (false, [0])]) <| .po (.bin .neq false 4 3) <| .ite 0 (.po (.k (.int .i64 0)) <| .po (.k (.int .i64 0)) <| .po (.k (.string ⟨#[]⟩)) <| .po (.k (.bool false)) <| .po (.sc 3) <| .po (.sc 2) <| .po (.sc 1) <| .po (.sc 0) <| .ret [(true, [3, 2, 1]), (false, [0])]) <| .cl 50 [(true, [5, 4, 3])] [(true, [none, none, some (33, 3)], true), (false, [some (67, 5)], true), (false, [none], true)] <| .po (.k (.int .i64 0)) <| .po (.k (.int .i64 0)) <| .po (.un .not 2) <| .ite 0 (.po (.k (.int .i64 0)) <| .po (.k (.int .i64 0)) <| .po (.k (.string ⟨#[]⟩)) <| .po (.k (.bool false)) <| .po (.sc 3) <| .po (.sc 2) <| .po (.sc 1) <| .po (.sc 0) <| .ret [(true, [3, 2, 1]), (false, [0])]) <| .po (.lenL 4) <| .po (.bin .lss false 0 13) <| .ite 0 (.po (.k (.int .i64 0)) <| .sel [0] <| .cl 31 [(false, [0])] [(true, [none, none, none], true)] <| .po (.k (.bool true)) <| .po (.sc 3) <| .po (.sc 2) <| .po (.sc 1) <| .po (.sc 0) <| .ret [(true, [3, 2, 1]), (false, [0])]) <| .po (.k (.int .i64 1)) <| .sel [0, 7] <| .cl 31 [(false, [0])] [(true, [none, none, none], true)] <| .po (.k (.int .i64 0)) <| .po (.k (.int .i64 0)) <| .po (.k (.string ⟨#[]⟩)) <| .po (.lenL 7) <| .po (.k (.int .i64 0)) <| .sel [0, 1, 5, 6, 7, 9] <| .loop [0, 4, 3, 2] u_impl_DeterminantOf_l1
theorem u_impl_DeterminantOf_g : toUPf Try.prog 25 Try.f25 owA u_impl_DeterminantOf_h u_impl_DeterminantOf_d = some ([(true, 3)], u_impl_DeterminantOf_u) := by kernel_rfl
def u_spec_DeterminantOf_h : List Hint := [⟨2000000, 5, ⟨[(45, .p false [.d 31]), (9, .p false [.d 32]), (33, .p false [.d 26]), (8, .p false [.ptr 4 4 0]), (7, .p false [.d 15]), (6, .p false [.own 3 3]), (5, .p false [.own 2 2]), (19, .p false [.d 9]), (3, .p false [.d 6]), (2, .p false [.ptr 1 1 0]), (1, .p false [.ptr 0 0 0]), (0, .p true [.d 0, .d 1, .d 2])], [(0, .var 0 28 [.d 0, .d 1, .d 2]), (1, .var 1 33 [.d 3, .d 4, .d 5]), (2, .row 2 3 1 13), (3, .row 3 33 3 14), (4, .var 4 33 [.d 33, .d 34, .d 35])], 5, 5, 36, [(9, false), (8, false), (6, false)]⟩, []⟩, ⟨3000008, 4, ⟨[(9, .p false [.d 31]), (33, .p false [.d 26]), (8, .p false [.ptr 4 4 0]), (7, .p false [.d 15]), (6, .p false [.own 3 3]), (5, .p false [.own 2 2]), (19, .p false [.d 9]), (3, .p false [.d 6]), (2, .p false [.ptr 1 1 0]), (1, .p false [.ptr 0 0 0]), (0, .p true [.d 0, .d 1, .d 2])], [(0, .var 0 28 [.d 0, .d 1, .d 2]), (1, .var 1 33 [.d 3, .d 4, .d 5]), (2, .row 2 3 1 13), (3, .row 3 33 3 14), (4, .var 4 33 [.d 32, .d 33, .d 34])], 5, 5, 35, [(9, false), (8, false), (6, false)]⟩, []⟩, ⟨1000006, 3, ⟨[(33, .p false [.d 26]), (8, .p false [.ptr 4 4 0]), (7, .p false [.d 15]), (6, .p false [.own 3 3]), (5, .p false [.own 2 2]), (19, .p false [.d 9]), (3, .p false [.d 6]), (2, .p false [.ptr 1 1 0]), (1, .p false [.ptr 0 0 0]), (0, .p true [.d 0, .d 1, .d 2])], [(0, .var 0 28 [.d 0, .d 1, .d 2]), (1, .var 1 33 [.d 3, .d 4, .d 5]), (2, .row 2 3 1 13), (3, .row 3 33 3 14), (4, .var 4 33 [.d 27, .d 28, .d 29])], 5, 5, 30, [(9, false), (8, false), (6, false)]⟩, []⟩]
def u_spec_DeterminantOf_d : List (Nat × Nat × Bool × List Nat) := [(10, 6, false, [])]
def u_spec_DeterminantOf_l0 : UP := .po (.lenL 9) <| .po (.bin .lss false 4 0) <| .ite 0 (.po (.lenL 12) <| .po (.bin .eql false 0 14) <| .ite 0 (.po (.sc 6) <| .po (.sc 5) <| .po (.sc 4) <| .po (.isI 7) <| .po (.chk 3 13 7) <| .po (.idx 3 13 7) <| .po (.sc 2) <| .po (.sc 1) <| .po (.sc 0) <| .sel [0, 1, 2, 7, 8, 9, 10] <| .cl 47 [(true, [5, 4, 3]), (true, [2, 1, 0])] [(true, [none, none, none], true)] <| .po (.k (.int .i64 1)) <| .po (.bin .add false 10 0) <| .jump 1 [0, 4, 3, 2]) <| .jump 0 [0, 7, 6, 5, 4]) <| .po (.k (.bool false)) <| .jump 0 [0, 6, 5, 4, 3]
def u_spec_DeterminantOf_j1 : UP := .po (.un .not 9) <| .ite 0 (.po (.k (.bool true)) <| .po (.k (.int .i64 0)) <| .po (.k (.int .i64 0)) <| .po (.k (.string ⟨#[]⟩)) <| .po (.k (.bool false)) <| .po (.sc 3) <| .po (.sc 2) <| .po (.sc 1) <| .po (.sc 0) <| .ret [(true, [3, 2, 1]), (false, [0])]) <| .po (.k (.int .i64 0)) <| .po (.bin .eql false 3 0) <| .ite 0 (.po (.k (.int .i64 0)) <| .po (.k (.int .i64 0)) <| .po (.k (.string ⟨#[]⟩)) <| .po (.k (.bool false)) <| .po (.sc 3) <| .po (.sc 2) <| .po (.sc 1) <| .po (.sc 0) <| .ret [(true, [3, 2, 1]), (false, [0])]) <| .po (.k (.bool true)) <| .po (.sc 6) <| .po (.sc 5) <| .po (.sc 4) <| .po (.sc 0) <| .ret [(true, [6, 5, 4]), (false, [0])]
def u_spec_DeterminantOf_j2 : UP := .po (.k (.int .i64 0)) <| .sel [0, 1, 2, 3, 8, 9, 10, 11] <| .join 5 u_spec_DeterminantOf_j1 <| .loop [0, 3, 2, 1] u_spec_DeterminantOf_l0
def u_spec_DeterminantOf_u : UP := .po (.k (.int .i64 0)) <| .po (.k (.int .i64 0)) <| .po (.k (.string ⟨#[]⟩)) <| .po (.k (.bool false)) <| .sel [4, 5, 6] <| .cl 45 [(true, [2, 1, 0])] [(false, [none], true)] <| .po (.un .not 0) <| .ite 0 (.po (.k (.bool true)) <| .po (.k (.int .i64 0)) <| .po (.k (.int .i64 0)) <| .po (.k (.string ⟨#[]⟩)) <| .po (.k (.bool false)) <| .po (.sc 3) <| .po (.sc 2) <| .po (.sc 1) <| .po (.sc 0) <| .ret [(true, [3, 2, 1]), (false, [0])]) <| .po (.bin .neq false 4 3) <| .ite 0 (.po (.k (.int .i64 0)) <| .po (.k (.int .i64 0)) <| .po (.k (.string ⟨#[]⟩)) <| .po (.k (.bool false)) <| .po (.sc 3) <| .po (.sc 2) <| .po (.sc 1) <| .po (.sc 0) <| .ret [(true, [3, 2, 1]), (false, [0])]) <| .cl 52 [(true, [5, 4, 3])] [(true, [none, none, some (33, 3)], true), (false, [some (3, 1)], true), (false, [some (33, 3)], true), (false, [none], true)] <| .po (.k (.int .i64 0)) <| .po (.k (.int .i64 0)) <| .po (.k (.int .i64 1)) <| .sel [0, 3, 4, 5, 14] <| .cl 35 [(false, [0])] [(true, [none, none, none], true)] <| .po (.k (.int .i64 0)) <| .po (.k (.int .i64 0)) <| .po (.k (.string ⟨#[]⟩)) <| .po (.lenL 9) <| .po (.bin .lss false 0 11) <| .sel [0, 5, 6, 7, 9, 10, 11, 12] <| .join 3 u_spec_DeterminantOf_j2 <| .ite 0 (.po (.k (.int .i64 0)) <| .sel [0] <| .cl 35 [(false, [0])] [(true, [none, none, none], true)] <| .jump 0 [2, 1, 0]) <| .jump 0 [3, 2, 1]
theorem u_spec_DeterminantOf_g : toUPf Try.prog 26 Try.f26 owA u_spec_DeterminantOf_h u_spec_DeterminantOf_d = some ([(true, 3)], u_spec_DeterminantOf_u) := by kernel_rfl
end Go.Proofs.Ytolkglnkdfcceaa

namespace Go.Proofs.Ytolkglnkdfcceaa
open Go.RowKit
set_option maxRecDepth 100000
def u_spec_RankOf_h : List Hint := []
def u_spec_RankOf_d : List (Nat × Nat × Bool × List Nat) := []
def u_spec_RankOf_u : UP := .po (.k (.int .i64 0)) <| .po (.k (.bool false)) <| .cl 57 [(true, [4, 3, 2])] [(true, [none, none, some (33, 3)], true), (false, [some (3, 1)], true), (false, [none], true)] <| .po (.k (.int .i64 0)) <| .po (.k (.int .i64 0)) <| .po (.lenL 3) <| .po (.sc 0) <| .po (.sc 3) <| .ret [(false, [0]), (false, [3])]
theorem u_spec_RankOf_g : toUPf Try.prog 27 Try.f27 owA u_spec_RankOf_h u_spec_RankOf_d = some ([(true, 3)], u_spec_RankOf_u) := by kernel_rfl
def u_spec_ReduceRows_h : List Hint := []
def u_spec_ReduceRows_d : List (Nat × Nat × Bool × List Nat) := []
def u_spec_ReduceRows_u : UP := .po (.k (.int .i64 0)) <| .po (.k (.int .i64 0)) <| .po (.k (.bool false)) <| .cl 45 [(true, [5, 4, 3])] [(false, [none], true)] <| .po (.un .not 0) <| .ite 0 (.po (.k (.int .i64 0)) <| .po (.k (.int .i64 0)) <| .po (.mk 3 1 []) <| .po (.k (.bool false)) <| .po (.sc 3) <| .po (.sc 2) <| .po (.e 33 3) <| .po (.sc 1) <| .ret [(true, [4, 3, 0]), (false, [2]), (false, [1])]) <| .sel [5, 6, 7] <| .cl 52 [(true, [2, 1, 0])] [(true, [none, none, some (33, 3)], true), (false, [some (3, 1)], true), (false, [some (33, 3)], true), (false, [none], true)] <| .po (.k (.int .i64 0)) <| .po (.k (.int .i64 0)) <| .po (.sc 7) <| .po (.sc 6) <| .po (.sc 2) <| .ret [(true, [7, 6, 5]), (false, [4]), (false, [2])]
theorem u_spec_ReduceRows_g : toUPf Try.prog 57 Try.f57 owA u_spec_ReduceRows_h u_spec_ReduceRows_d = some ([(true, 3)], u_spec_ReduceRows_u) := by kernel_rfl
end Go.Proofs.Ytolkglnkdfcceaa

namespace Go.Proofs.Ytolkglnkdfcceaa
open Go.RowKit
set_option maxRecDepth 100000
def rdc (m : Mt) : Option ((Nat → Nat → It) × List Stp) := if mtB m = true then redS m.cols.toNat m.rows.toNat (celF m.cols.toNat m.cells) m.cols.toNat else none
def gM (m : Mt) (f : Nat → Nat → It) : Mt := ⟨m.rows, m.cols, gridL m.cols.toNat f (m.rows.toNat * m.cols.toNat)⟩
def rrM (m : Mt) : Mt := match rdc m with | none => ⟨0, 0, []⟩ | some x => gM m x.1
def rrP (m : Mt) : List Int := match rdc m with | none => [] | some x => pivL x.2
theorem rdc_f {m : Mt} (h : mtB m = false) : rdc m = none := by unfold rdc; rw [if_neg (by simp [h])]
theorem mt_cast {m : Mt} (h : mtB m = true) : m = ⟨(m.rows.toNat : Int), (m.cols.toNat : Int), gridL m.cols.toNat (celF m.cols.toNat m.cells) (m.rows.toNat * m.cols.toNat)⟩ := by
  obtain ⟨h1, h2, h3, h4, h5⟩ := mtB_dims h
  have hl : m.cells.length = m.rows.toNat * m.cols.toNat := by
    have e1 : ((m.rows.toNat : Nat) : Int) = m.rows := by omega
    have e2 : ((m.cols.toNat : Nat) : Int) = m.cols := by omega
    have : (m.cells.length : Int) = ((m.rows.toNat * m.cols.toNat : Nat) : Int) := by rw [h5, Int.natCast_mul, e1, e2]
    omega
  have e3 := (grid_of (W := m.cols.toNat) (R := m.rows.toNat) hl).symm
  obtain ⟨r, c, l⟩ := m
  simp only at *
  rw [e3]
  congr 1 <;> omega
theorem rdc_bd {m : Mt} {f : Nat → Nat → It} {st : List Stp} (h : rdc m = some (f, st)) : mtB m = true ∧ st.length ≤ m.cols.toNat ∧ st.length ≤ m.rows.toNat ∧ m.cols.toNat ≤ 12 ∧ m.rows.toNat ≤ 12 := by
  unfold rdc at h
  split at h
  · rename_i hm
    obtain ⟨h1, h2, h3, h4, -⟩ := mtB_dims hm
    obtain ⟨g1, g2⟩ := redS_len h
    exact ⟨hm, g1, g2, by omega, by omega⟩
  · cases h
def resI' (m : Mt) : Option ((Nat → Nat → It) × List Stp) → List Rs
  | none => [(true, encMt ⟨0, 0, []⟩, true), (false, [encSts []], true), (false, [.sc (.bool false)], true)]
  | some (f, st) => [(true, encMt (gM m f), true), (false, [encSts st], true), (false, [.sc (.bool true)], true)]
def resS' (m : Mt) : Option ((Nat → Nat → It) × List Stp) → List Rs
  | none => [(true, encMt ⟨0, 0, []⟩, true), (false, [encZs []], true), (false, [encIts []], true), (false, [.sc (.bool false)], true)]
  | some (f, st) => [(true, encMt (gM m f), true), (false, [encZs (pivL st)], true), (false, [encIts (facL st)], true), (false, [.sc (.bool true)], true)]
theorem implRed_mt {m : Mt} (h : mtB m = true) : Meets Try.prog 50 [(true, encMt m)] (resI' m (rdc m)) := by
  obtain ⟨h1, h2, h3, h4, -⟩ := mtB_dims h
  have hk := implRed_m m.rows.toNat m.cols.toNat (celF m.cols.toNat m.cells) (by omega) (by omega)
  rw [← mt_cast h] at hk
  have : rdc m = redS m.cols.toNat m.rows.toNat (celF m.cols.toNat m.cells) m.cols.toNat := by unfold rdc; rw [if_pos h]
  rw [← this] at hk
  have e1 : ((m.rows.toNat : Nat) : Int) = m.rows := by omega
  have e2 : ((m.cols.toNat : Nat) : Int) = m.cols := by omega
  cases hr : rdc m with
  | none => rw [hr] at hk; exact hk
  | some x => rw [hr] at hk; simp only [resI, e1, e2] at hk; exact hk
theorem specRed_mt {m : Mt} (h : mtB m = true) : Meets Try.prog 52 [(true, encMt m)] (resS' m (rdc m)) := by
  obtain ⟨h1, h2, h3, h4, -⟩ := mtB_dims h
  have hk := specRed_m m.rows.toNat m.cols.toNat (celF m.cols.toNat m.cells) (by omega) (by omega)
  rw [← mt_cast h] at hk
  have : rdc m = redS m.cols.toNat m.rows.toNat (celF m.cols.toNat m.cells) m.cols.toNat := by unfold rdc; rw [if_pos h]
  rw [← this] at hk
  have e1 : ((m.rows.toNat : Nat) : Int) = m.rows := by omega
  have e2 : ((m.cols.toNat : Nat) : Int) = m.cols := by omega
  cases hr : rdc m with
  | none => rw [hr] at hk; exact hk
  | some x => rw [hr] at hk; simp only [resS, e1, e2] at hk; exact hk
theorem specRR_m (m : Mt) : Meets Try.prog 57 [(true, encMt m)] [(true, encMt (rrM m), true), (false, [encZs (rrP m)], true), (false, [.sc (.bool (rdc m).isSome)], true)] := by
  obtain ⟨r, c, l⟩ := m
  have hm := specIsMt_m ⟨r, c, l⟩
  have hr := fun h => @specRed_mt ⟨r, c, l⟩ h
  refine meets_upf Try.func57 u_spec_ReduceRows_g rfl ?_; simp only [u_spec_ReduceRows_u]
  simp only [encMt, encIts] at hm hr ⊢
  simp (disch := first | omega | (simp only [List.length_take, List.length_drop, List.length_append, List.map_cons, List.map_nil, List.length_map, List.length_cons, List.length_nil, List.length_set, List.length_replicate]; omega) | (simp only [List.length_cons, List.length_nil, Nat.zero_add, Nat.reduceAdd])) only [go_sem, ↓reduceIte, Nat.reduceAdd, Int.reduceNeg, Int.reduceAdd, Int.reduceSub, Int.reduceMul, Int.reduceLT, Int.reduceLE, Int.reduceEq, Int.reduceToNat, Nat.reduceBEq, true_and]
  refine cl_ok hm rfl ?_
  cases hB : mtB ⟨r, c, l⟩
  · have := rdc_f hB
    simp (disch := first | omega | (simp only [List.length_take, List.length_drop, List.length_append, List.map_cons, List.map_nil, List.length_map, List.length_cons, List.length_nil, List.length_set, List.length_replicate]; omega) | (simp only [List.length_cons, List.length_nil, Nat.zero_add, Nat.reduceAdd])) only [go_sem, ↓reduceIte, Nat.reduceAdd, Int.reduceNeg, Int.reduceAdd, Int.reduceSub, Int.reduceMul, Int.reduceLT, Int.reduceLE, Int.reduceEq, Int.reduceToNat, Nat.reduceBEq, true_and]
    unfold rrM rrP
    rw [this]; rfl
  have hr := hr hB
  unfold rrM rrP
  cases hd : rdc ⟨r, c, l⟩ with
  | none =>
    rw [hd] at hr
    simp only [resS', encMt, encIts] at hr
    simp (disch := first | omega | (simp only [List.length_take, List.length_drop, List.length_append, List.map_cons, List.map_nil, List.length_map, List.length_cons, List.length_nil, List.length_set, List.length_replicate]; omega) | (simp only [List.length_cons, List.length_nil, Nat.zero_add, Nat.reduceAdd])) only [go_sem, ↓reduceIte, Nat.reduceAdd, Int.reduceNeg, Int.reduceAdd, Int.reduceSub, Int.reduceMul, Int.reduceLT, Int.reduceLE, Int.reduceEq, Int.reduceToNat, Nat.reduceBEq, true_and]
    refine cl_ok hr rfl ?_
    simp (disch := first | omega | (simp only [List.length_take, List.length_drop, List.length_append, List.map_cons, List.map_nil, List.length_map, List.length_cons, List.length_nil, List.length_set, List.length_replicate]; omega) | (simp only [List.length_cons, List.length_nil, Nat.zero_add, Nat.reduceAdd])) only [go_sem, ↓reduceIte, Nat.reduceAdd, Int.reduceNeg, Int.reduceAdd, Int.reduceSub, Int.reduceMul, Int.reduceLT, Int.reduceLE, Int.reduceEq, Int.reduceToNat, Nat.reduceBEq, true_and]
    rfl
  | some x =>
    obtain ⟨f, st⟩ := x
    rw [hd] at hr
    simp only [resS', encMt, encIts] at hr
    simp (disch := first | omega | (simp only [List.length_take, List.length_drop, List.length_append, List.map_cons, List.map_nil, List.length_map, List.length_cons, List.length_nil, List.length_set, List.length_replicate]; omega) | (simp only [List.length_cons, List.length_nil, Nat.zero_add, Nat.reduceAdd])) only [go_sem, ↓reduceIte, Nat.reduceAdd, Int.reduceNeg, Int.reduceAdd, Int.reduceSub, Int.reduceMul, Int.reduceLT, Int.reduceLE, Int.reduceEq, Int.reduceToNat, Nat.reduceBEq, true_and]
    refine cl_ok hr rfl ?_
    simp (disch := first | omega | (simp only [List.length_take, List.length_drop, List.length_append, List.map_cons, List.map_nil, List.length_map, List.length_cons, List.length_nil, List.length_set, List.length_replicate]; omega) | (simp only [List.length_cons, List.length_nil, Nat.zero_add, Nat.reduceAdd])) only [go_sem, ↓reduceIte, Nat.reduceAdd, Int.reduceNeg, Int.reduceAdd, Int.reduceSub, Int.reduceMul, Int.reduceLT, Int.reduceLE, Int.reduceEq, Int.reduceToNat, Nat.reduceBEq, true_and]
    rfl
theorem specRank_m (m : Mt) : Meets Try.prog 27 [(true, encMt m)] [(false, [.sc (.int .i64 ((rrP m).length : Nat))], true), (false, [.sc (.bool (rdc m).isSome)], true)] := by
  obtain ⟨r, c, l⟩ := m
  have hm := specRR_m ⟨r, c, l⟩
  generalize rrM ⟨r, c, l⟩ = M at *
  generalize rrP ⟨r, c, l⟩ = p at *
  generalize (rdc ⟨r, c, l⟩).isSome = b at *
  refine meets_upf Try.func27 u_spec_RankOf_g rfl ?_; simp only [u_spec_RankOf_u]
  simp only [encMt, encIts, encZs] at hm ⊢
  simp (disch := first | omega | (simp only [List.length_take, List.length_drop, List.length_append, List.map_cons, List.map_nil, List.length_map, List.length_cons, List.length_nil, List.length_set, List.length_replicate]; omega) | (simp only [List.length_cons, List.length_nil, Nat.zero_add, Nat.reduceAdd])) only [go_sem, ↓reduceIte, Nat.reduceAdd, Int.reduceNeg, Int.reduceAdd, Int.reduceSub, Int.reduceMul, Int.reduceLT, Int.reduceLE, Int.reduceEq, Int.reduceToNat, Nat.reduceBEq, true_and]
  refine cl_ok hm rfl ?_
  simp (disch := first | omega | (simp only [List.length_take, List.length_drop, List.length_append, List.map_cons, List.map_nil, List.length_map, List.length_cons, List.length_nil, List.length_set, List.length_replicate]; omega) | (simp only [List.length_cons, List.length_nil, Nat.zero_add, Nat.reduceAdd])) only [go_sem, ↓reduceIte, Nat.reduceAdd, Int.reduceNeg, Int.reduceAdd, Int.reduceSub, Int.reduceMul, Int.reduceLT, Int.reduceLE, Int.reduceEq, Int.reduceToNat, Nat.reduceBEq, true_and]
  rfl
end Go.Proofs.Ytolkglnkdfcceaa

namespace Go.Proofs.Ytolkglnkdfcceaa
open Go.RowKit
set_option maxRecDepth 100000
def prodF (l : List It) : It := l.foldl mulN (l2N 1)
def detM (m : Mt) : Option It := match rdc m with
  | none => none
  | some x => if m.rows ≠ m.cols then none else if x.2.length < m.cols.toNat then some (l2N 0) else if prodF (facL x.2) = it0 then none else some (prodF (facL x.2))
def detI (m : Mt) : It := (detM m).getD it0
theorem mkN_den {n d : Int} (h : (mkN n d).den = 0) : mkN n d = it0 := by
  unfold mkN at h ⊢
  split
  · rfl
  · rename_i h1
    rw [if_neg h1] at h
    split
    · rename_i h2
      rw [if_pos h2] at h
      have := (numB_iff.1 h2).2.1.1
      omega
    · rfl
theorem mulN_den {x y : It} (h : (mulN x y).den = 0) : mulN x y = it0 := by
  unfold mulN at h ⊢
  split
  · rename_i h1; rw [if_pos h1] at h; exact mkN_den h
  · rfl
theorem prodF_den {l : List It} : ∀ {a : It}, (a.den = 0 → a = it0) → (l.foldl mulN a).den = 0 → l.foldl mulN a = it0 := by
  induction l with
  | nil => intro a ha h; exact ha h
  | cons x l ih => intro a ha h; exact ih (fun h => mulN_den h) h
theorem facL_foldl (st : List Stp) (a : It) : (facL st).foldl mulN a = st.foldl (fun o x => if x.2.2 = true then mulN (mulN o x.2.1) (l2N (-1)) else mulN o x.2.1) a := by
  induction st generalizing a with
  | nil => rfl
  | cons x r ih =>
    have : facL (x :: r) = (x.2.1 :: (if x.2.2 = true then [l2N (-1)] else [])) ++ facL r := by simp [facL]
    rw [this, List.foldl_append, ih]
    by_cases h : x.2.2 = true <;> simp [h]
def detS (st : List Stp) (i : Nat) : It := (st.take i).foldl (fun o x => if x.2.2 = true then mulN (mulN o x.2.1) (l2N (-1)) else mulN o x.2.1) (l2N 1)
theorem detS_succ {st : List Stp} {i : Nat} (h : i < st.length) : detS st (i + 1) = if (st.getD i default).2.2 = true then mulN (mulN (detS st i) (st.getD i default).2.1) (l2N (-1)) else mulN (detS st i) (st.getD i default).2.1 := by
  unfold detS
  rw [List.take_succ_eq_append_getElem h, List.foldl_append, List.getD_eq_getElem?_getD, List.getElem?_eq_getElem h]; rfl
theorem detS_end (st : List Stp) : detS st st.length = prodF (facL st) := by
  unfold detS prodF
  rw [List.take_length, facL_foldl]
set_option maxHeartbeats 2000000 in
theorem implDet_m (m : Mt) : Meets Try.prog 25 [(true, encMt m)] [(true, encIt (detI m), true), (false, [.sc (.bool (detM m).isSome)], true)] := by
  obtain ⟨r, c, l⟩ := m
  have hm := isMt_m ⟨r, c, l⟩
  have hr := fun h => @implRed_mt ⟨r, c, l⟩ h
  have hi1 := mIntItem 1
  have hi0 := mIntItem 0
  have him := mIntItem (-1)
  rw [intN_eq (by omega)] at hi1 hi0 him
  unfold detI detM
  refine meets_upf Try.func25 u_impl_DeterminantOf_g rfl ?_; simp only [u_impl_DeterminantOf_u]
  simp only [encMt, encIts, encIt] at hm hr hi1 hi0 him ⊢
  simp (disch := first | omega | (simp only [List.length_take, List.length_drop, List.length_append, List.map_cons, List.map_nil, List.length_map, List.length_cons, List.length_nil, List.length_set, List.length_replicate]; omega) | (simp only [List.length_cons, List.length_nil, Nat.zero_add, Nat.reduceAdd])) only [go_sem, ↓reduceIte, Nat.reduceAdd, Int.reduceNeg, Int.reduceAdd, Int.reduceSub, Int.reduceMul, Int.reduceLT, Int.reduceLE, Int.reduceEq, Int.reduceToNat, Nat.reduceBEq, true_and]
  refine cl_ok hm rfl ?_
  cases hB : mtB ⟨r, c, l⟩
  · have := rdc_f hB
    rw [this]
    simp (disch := first | omega | (simp only [List.length_take, List.length_drop, List.length_append, List.map_cons, List.map_nil, List.length_map, List.length_cons, List.length_nil, List.length_set, List.length_replicate]; omega) | (simp only [List.length_cons, List.length_nil, Nat.zero_add, Nat.reduceAdd])) only [go_sem, ↓reduceIte, Nat.reduceAdd, Int.reduceNeg, Int.reduceAdd, Int.reduceSub, Int.reduceMul, Int.reduceLT, Int.reduceLE, Int.reduceEq, Int.reduceToNat, Nat.reduceBEq, true_and]
    rfl
  have hr := hr hB
  simp (disch := first | omega | (simp only [List.length_take, List.length_drop, List.length_append, List.map_cons, List.map_nil, List.length_map, List.length_cons, List.length_nil, List.length_set, List.length_replicate]; omega) | (simp only [List.length_cons, List.length_nil, Nat.zero_add, Nat.reduceAdd])) only [go_sem, ↓reduceIte, Nat.reduceAdd, Int.reduceNeg, Int.reduceAdd, Int.reduceSub, Int.reduceMul, Int.reduceLT, Int.reduceLE, Int.reduceEq, Int.reduceToNat, Nat.reduceBEq, true_and]
  refine br_ifn (fun hrc => ?_) (fun hrc => ?_)
  rotate_left
  · simp (disch := first | omega | (simp only [List.length_take, List.length_drop, List.length_append, List.map_cons, List.map_nil, List.length_map, List.length_cons, List.length_nil, List.length_set, List.length_replicate]; omega) | (simp only [List.length_cons, List.length_nil, Nat.zero_add, Nat.reduceAdd])) only [go_sem, ↓reduceIte, Nat.reduceAdd, Int.reduceNeg, Int.reduceAdd, Int.reduceSub, Int.reduceMul, Int.reduceLT, Int.reduceLE, Int.reduceEq, Int.reduceToNat, Nat.reduceBEq, true_and]
    cases hd : rdc ⟨r, c, l⟩ with
    | none => rfl
    | some x => simp only [ne_eq, hrc, not_false_eq_true, if_true]; rfl
  subst hrc
  simp (disch := first | omega | (simp only [List.length_take, List.length_drop, List.length_append, List.map_cons, List.map_nil, List.length_map, List.length_cons, List.length_nil, List.length_set, List.length_replicate]; omega) | (simp only [List.length_cons, List.length_nil, Nat.zero_add, Nat.reduceAdd])) only [go_sem, ↓reduceIte, Nat.reduceAdd, Int.reduceNeg, Int.reduceAdd, Int.reduceSub, Int.reduceMul, Int.reduceLT, Int.reduceLE, Int.reduceEq, Int.reduceToNat, Nat.reduceBEq, true_and]
  cases hd : rdc ⟨r, r, l⟩ with
  | none =>
    rw [hd] at hr
    simp only [resI', encMt, encIts] at hr
    refine cl_ok hr rfl ?_
    simp (disch := first | omega | (simp only [List.length_take, List.length_drop, List.length_append, List.map_cons, List.map_nil, List.length_map, List.length_cons, List.length_nil, List.length_set, List.length_replicate]; omega) | (simp only [List.length_cons, List.length_nil, Nat.zero_add, Nat.reduceAdd])) only [go_sem, ↓reduceIte, Nat.reduceAdd, Int.reduceNeg, Int.reduceAdd, Int.reduceSub, Int.reduceMul, Int.reduceLT, Int.reduceLE, Int.reduceEq, Int.reduceToNat, Nat.reduceBEq, true_and]
    rfl
  | some x =>
    obtain ⟨f, st⟩ := x
    obtain ⟨_, b1, b2, b3, b4⟩ := rdc_bd hd
    obtain ⟨g1, g2, -⟩ := mtB_dims hB
    simp only at b1 b2 b3 b4 g1 g2
    rw [hd] at hr
    simp only [resI', encMt, encIts, encSts] at hr
    refine cl_ok hr rfl ?_
    simp only [ne_eq, not_true_eq_false, if_false]
    simp (disch := first | omega | (simp only [List.length_take, List.length_drop, List.length_append, List.map_cons, List.map_nil, List.length_map, List.length_cons, List.length_nil, List.length_set, List.length_replicate]; omega) | (simp only [List.length_cons, List.length_nil, Nat.zero_add, Nat.reduceAdd])) only [go_sem, ↓reduceIte, Nat.reduceAdd, Int.reduceNeg, Int.reduceAdd, Int.reduceSub, Int.reduceMul, Int.reduceLT, Int.reduceLE, Int.reduceEq, Int.reduceToNat, Nat.reduceBEq, true_and]
    refine br_if (fun h => ?_) (fun h => ?_)
    · rw [if_pos (by omega)]
      simp (disch := first | omega | (simp only [List.length_take, List.length_drop, List.length_append, List.map_cons, List.map_nil, List.length_map, List.length_cons, List.length_nil, List.length_set, List.length_replicate]; omega) | (simp only [List.length_cons, List.length_nil, Nat.zero_add, Nat.reduceAdd])) only [go_sem, ↓reduceIte, Nat.reduceAdd, Int.reduceNeg, Int.reduceAdd, Int.reduceSub, Int.reduceMul, Int.reduceLT, Int.reduceLE, Int.reduceEq, Int.reduceToNat, Nat.reduceBEq, true_and]
      refine cl_ok hi0 rfl ?_
      simp (disch := first | omega | (simp only [List.length_take, List.length_drop, List.length_append, List.map_cons, List.map_nil, List.length_map, List.length_cons, List.length_nil, List.length_set, List.length_replicate]; omega) | (simp only [List.length_cons, List.length_nil, Nat.zero_add, Nat.reduceAdd])) only [go_sem, ↓reduceIte, Nat.reduceAdd, Int.reduceNeg, Int.reduceAdd, Int.reduceSub, Int.reduceMul, Int.reduceLT, Int.reduceLE, Int.reduceEq, Int.reduceToNat, Nat.reduceBEq, true_and]
      rfl
    rw [if_neg (by omega)]
    simp (disch := first | omega | (simp only [List.length_take, List.length_drop, List.length_append, List.map_cons, List.map_nil, List.length_map, List.length_cons, List.length_nil, List.length_set, List.length_replicate]; omega) | (simp only [List.length_cons, List.length_nil, Nat.zero_add, Nat.reduceAdd])) only [go_sem, ↓reduceIte, Nat.reduceAdd, Int.reduceNeg, Int.reduceAdd, Int.reduceSub, Int.reduceMul, Int.reduceLT, Int.reduceLE, Int.reduceEq, Int.reduceToNat, Nat.reduceBEq, true_and]
    refine cl_ok hi1 rfl ?_
    simp (disch := first | omega | (simp only [List.length_take, List.length_drop, List.length_append, List.map_cons, List.map_nil, List.length_map, List.length_cons, List.length_nil, List.length_set, List.length_replicate]; omega) | (simp only [List.length_cons, List.length_nil, Nat.zero_add, Nat.reduceAdd])) only [go_sem, ↓reduceIte, Nat.reduceAdd, Int.reduceNeg, Int.reduceAdd, Int.reduceSub, Int.reduceMul, Int.reduceLT, Int.reduceLE, Int.reduceEq, Int.reduceToNat, Nat.reduceBEq, true_and]
    refine lp_n st.length (fun i => [.sc (.int .i64 (i : Nat)), .sc (.int .i64 (detS st i).num), .sc (.int .i64 (detS st i).den), .sc (.string (detS st i).text)]) rfl fun i hi => ?_
    simp only [u_impl_DeterminantOf_l1]
    simp (disch := first | omega | (simp only [List.length_take, List.length_drop, List.length_append, List.map_cons, List.map_nil, List.length_map, List.length_cons, List.length_nil, List.length_set, List.length_replicate]; omega) | (simp only [List.length_cons, List.length_nil, Nat.zero_add, Nat.reduceAdd])) only [go_sem, ↓reduceIte, Nat.reduceAdd, Int.reduceNeg, Int.reduceAdd, Int.reduceSub, Int.reduceMul, Int.reduceLT, Int.reduceLE, Int.reduceEq, Int.reduceToNat, Nat.reduceBEq, true_and]
    refine br_if (fun h1 => ?_) (fun h1 => ?_)
    · have hlt : i < st.length := by omega
      have hs := detS_succ hlt
      have hm1 := mImplMul (detS st i) (st.getD i default).2.1
      have hm2 := mImplMul (mulN (detS st i) (st.getD i default).2.1) (l2N (-1))
      simp only [encIt] at hm1 hm2
      simp (disch := first | omega | (simp only [List.length_take, List.length_drop, List.length_append, List.map_cons, List.map_nil, List.length_map, List.length_cons, List.length_nil, List.length_set, List.length_replicate]; omega) | (simp only [List.length_cons, List.length_nil, Nat.zero_add, Nat.reduceAdd])) only [go_sem, ↓reduceIte, Nat.reduceAdd, Int.reduceNeg, Int.reduceAdd, Int.reduceSub, Int.reduceMul, Int.reduceLT, Int.reduceLE, Int.reduceEq, Int.reduceToNat, Nat.reduceBEq, true_and]
      refine jn (fun vs => ∃ y0 y4 y5 y6 y7, vs = [y0, .sc (.int .i64 (detS st (i + 1)).num), .sc (.int .i64 (detS st (i + 1)).den), .sc (.string (detS st (i + 1)).text), y4, y5, y6, y7]) ?_ ?_
      · simp (disch := first | omega | (simp only [List.length_take, List.length_drop, List.length_append, List.map_cons, List.map_nil, List.length_map, List.length_cons, List.length_nil, List.length_set, List.length_replicate]; omega) | (simp only [List.length_cons, List.length_nil, Nat.zero_add, Nat.reduceAdd])) only [go_sem, ↓reduceIte, Nat.reduceAdd, Int.reduceNeg, Int.reduceAdd, Int.reduceSub, Int.reduceMul, Int.reduceLT, Int.reduceLE, Int.reduceEq, Int.reduceToNat, Nat.reduceBEq, ix_st, encSt]
        refine cl_ok hm1 rfl ?_
        simp (disch := first | omega | (simp only [List.length_take, List.length_drop, List.length_append, List.map_cons, List.map_nil, List.length_map, List.length_cons, List.length_nil, List.length_set, List.length_replicate]; omega) | (simp only [List.length_cons, List.length_nil, Nat.zero_add, Nat.reduceAdd])) only [go_sem, ↓reduceIte, Nat.reduceAdd, Int.reduceNeg, Int.reduceAdd, Int.reduceSub, Int.reduceMul, Int.reduceLT, Int.reduceLE, Int.reduceEq, Int.reduceToNat, Nat.reduceBEq, true_and]
        refine br_b (fun hb => ?_) (fun hb => ?_)
        · rw [if_pos hb] at hs
          simp (disch := first | omega | (simp only [List.length_take, List.length_drop, List.length_append, List.map_cons, List.map_nil, List.length_map, List.length_cons, List.length_nil, List.length_set, List.length_replicate]; omega) | (simp only [List.length_cons, List.length_nil, Nat.zero_add, Nat.reduceAdd])) only [go_sem, ↓reduceIte, Nat.reduceAdd, Int.reduceNeg, Int.reduceAdd, Int.reduceSub, Int.reduceMul, Int.reduceLT, Int.reduceLE, Int.reduceEq, Int.reduceToNat, Nat.reduceBEq, true_and]
          refine cl_ok him rfl ?_
          simp (disch := first | omega | (simp only [List.length_take, List.length_drop, List.length_append, List.map_cons, List.map_nil, List.length_map, List.length_cons, List.length_nil, List.length_set, List.length_replicate]; omega) | (simp only [List.length_cons, List.length_nil, Nat.zero_add, Nat.reduceAdd])) only [go_sem, ↓reduceIte, Nat.reduceAdd, Int.reduceNeg, Int.reduceAdd, Int.reduceSub, Int.reduceMul, Int.reduceLT, Int.reduceLE, Int.reduceEq, Int.reduceToNat, Nat.reduceBEq, true_and]
          refine cl_ok hm2 rfl ?_
          simp (disch := first | omega | (simp only [List.length_take, List.length_drop, List.length_append, List.map_cons, List.map_nil, List.length_map, List.length_cons, List.length_nil, List.length_set, List.length_replicate]; omega) | (simp only [List.length_cons, List.length_nil, Nat.zero_add, Nat.reduceAdd])) only [go_sem, ↓reduceIte, Nat.reduceAdd, Int.reduceNeg, Int.reduceAdd, Int.reduceSub, Int.reduceMul, Int.reduceLT, Int.reduceLE, Int.reduceEq, Int.reduceToNat, Nat.reduceBEq, true_and]
          rw [hs]
          exact ⟨_, _, _, _, _, rfl⟩
        · rw [if_neg (by rw [hb]; decide)] at hs
          simp (disch := first | omega | (simp only [List.length_take, List.length_drop, List.length_append, List.map_cons, List.map_nil, List.length_map, List.length_cons, List.length_nil, List.length_set, List.length_replicate]; omega) | (simp only [List.length_cons, List.length_nil, Nat.zero_add, Nat.reduceAdd])) only [go_sem, ↓reduceIte, Nat.reduceAdd, Int.reduceNeg, Int.reduceAdd, Int.reduceSub, Int.reduceMul, Int.reduceLT, Int.reduceLE, Int.reduceEq, Int.reduceToNat, Nat.reduceBEq, true_and]
          rw [hs]
          exact ⟨_, _, _, _, _, rfl⟩
      · rintro vs - ⟨y0, y4, y5, y6, y7, rfl⟩
        simp only [u_impl_DeterminantOf_j0]
        simp (disch := first | omega | (simp only [List.length_take, List.length_drop, List.length_append, List.map_cons, List.map_nil, List.length_map, List.length_cons, List.length_nil, List.length_set, List.length_replicate]; omega) | (simp only [List.length_cons, List.length_nil, Nat.zero_add, Nat.reduceAdd])) only [go_sem, ↓reduceIte, Nat.reduceAdd, Int.reduceNeg, Int.reduceAdd, Int.reduceSub, Int.reduceMul, Int.reduceLT, Int.reduceLE, Int.reduceEq, Int.reduceToNat, Nat.reduceBEq, nat1]
        exact hlt
    · obtain rfl : i = st.length := by omega
      rw [detS_end]
      have hmi := mIsMissing (prodF (facL st))
      simp only [encIt] at hmi
      simp (disch := first | omega | (simp only [List.length_take, List.length_drop, List.length_append, List.map_cons, List.map_nil, List.length_map, List.length_cons, List.length_nil, List.length_set, List.length_replicate]; omega) | (simp only [List.length_cons, List.length_nil, Nat.zero_add, Nat.reduceAdd])) only [go_sem, ↓reduceIte, Nat.reduceAdd, Int.reduceNeg, Int.reduceAdd, Int.reduceSub, Int.reduceMul, Int.reduceLT, Int.reduceLE, Int.reduceEq, Int.reduceToNat, Nat.reduceBEq, true_and]
      refine cl_ok hmi rfl ?_
      simp (disch := first | omega | (simp only [List.length_take, List.length_drop, List.length_append, List.map_cons, List.map_nil, List.length_map, List.length_cons, List.length_nil, List.length_set, List.length_replicate]; omega) | (simp only [List.length_cons, List.length_nil, Nat.zero_add, Nat.reduceAdd])) only [go_sem, ↓reduceIte, Nat.reduceAdd, Int.reduceNeg, Int.reduceAdd, Int.reduceSub, Int.reduceMul, Int.reduceLT, Int.reduceLE, Int.reduceEq, Int.reduceToNat, Nat.reduceBEq, true_and]
      by_cases h0 : prodF (facL st) = it0
      · simp only [h0, if_true]; rfl
      · simp only [h0, if_false]; rfl
set_option maxHeartbeats 2000000 in
theorem specDet_m (m : Mt) : Meets Try.prog 26 [(true, encMt m)] [(true, encIt (detI m), true), (false, [.sc (.bool (detM m).isSome)], true)] := by
  obtain ⟨r, c, l⟩ := m
  have hm := specIsMt_m ⟨r, c, l⟩
  have hr := fun h => @specRed_mt ⟨r, c, l⟩ h
  have hi1 := mL2Num 1
  have hi0 := mL2Num 0
  unfold detI detM
  refine meets_upf Try.func26 u_spec_DeterminantOf_g rfl ?_; simp only [u_spec_DeterminantOf_u]
  simp only [encMt, encIts, encIt] at hm hr hi1 hi0 ⊢
  simp (disch := first | omega | (simp only [List.length_take, List.length_drop, List.length_append, List.map_cons, List.map_nil, List.length_map, List.length_cons, List.length_nil, List.length_set, List.length_replicate]; omega) | (simp only [List.length_cons, List.length_nil, Nat.zero_add, Nat.reduceAdd])) only [go_sem, ↓reduceIte, Nat.reduceAdd, Int.reduceNeg, Int.reduceAdd, Int.reduceSub, Int.reduceMul, Int.reduceLT, Int.reduceLE, Int.reduceEq, Int.reduceToNat, Nat.reduceBEq, true_and]
  refine cl_ok hm rfl ?_
  cases hB : mtB ⟨r, c, l⟩
  · have := rdc_f hB
    rw [this]
    simp (disch := first | omega | (simp only [List.length_take, List.length_drop, List.length_append, List.map_cons, List.map_nil, List.length_map, List.length_cons, List.length_nil, List.length_set, List.length_replicate]; omega) | (simp only [List.length_cons, List.length_nil, Nat.zero_add, Nat.reduceAdd])) only [go_sem, ↓reduceIte, Nat.reduceAdd, Int.reduceNeg, Int.reduceAdd, Int.reduceSub, Int.reduceMul, Int.reduceLT, Int.reduceLE, Int.reduceEq, Int.reduceToNat, Nat.reduceBEq, true_and]
    rfl
  have hr := hr hB
  obtain ⟨g1, g2, -⟩ := mtB_dims hB
  simp (disch := first | omega | (simp only [List.length_take, List.length_drop, List.length_append, List.map_cons, List.map_nil, List.length_map, List.length_cons, List.length_nil, List.length_set, List.length_replicate]; omega) | (simp only [List.length_cons, List.length_nil, Nat.zero_add, Nat.reduceAdd])) only [go_sem, ↓reduceIte, Nat.reduceAdd, Int.reduceNeg, Int.reduceAdd, Int.reduceSub, Int.reduceMul, Int.reduceLT, Int.reduceLE, Int.reduceEq, Int.reduceToNat, Nat.reduceBEq, true_and]
  refine br_ifn (fun hrc => ?_) (fun hrc => ?_)
  rotate_left
  · simp (disch := first | omega | (simp only [List.length_take, List.length_drop, List.length_append, List.map_cons, List.map_nil, List.length_map, List.length_cons, List.length_nil, List.length_set, List.length_replicate]; omega) | (simp only [List.length_cons, List.length_nil, Nat.zero_add, Nat.reduceAdd])) only [go_sem, ↓reduceIte, Nat.reduceAdd, Int.reduceNeg, Int.reduceAdd, Int.reduceSub, Int.reduceMul, Int.reduceLT, Int.reduceLE, Int.reduceEq, Int.reduceToNat, Nat.reduceBEq, true_and]
    cases hd : rdc ⟨r, c, l⟩ with
    | none => rfl
    | some x => simp only [ne_eq, hrc, not_false_eq_true, if_true]; rfl
  subst hrc
  simp only at g1 g2
  simp (disch := first | omega | (simp only [List.length_take, List.length_drop, List.length_append, List.map_cons, List.map_nil, List.length_map, List.length_cons, List.length_nil, List.length_set, List.length_replicate]; omega) | (simp only [List.length_cons, List.length_nil, Nat.zero_add, Nat.reduceAdd])) only [go_sem, ↓reduceIte, Nat.reduceAdd, Int.reduceNeg, Int.reduceAdd, Int.reduceSub, Int.reduceMul, Int.reduceLT, Int.reduceLE, Int.reduceEq, Int.reduceToNat, Nat.reduceBEq, true_and]
  cases hd : rdc ⟨r, r, l⟩ with
  | none =>
    rw [hd] at hr
    simp only [resS', encMt, encIts, encZs] at hr
    refine cl_ok hr rfl ?_
    simp (disch := first | omega | (simp only [List.length_take, List.length_drop, List.length_append, List.map_cons, List.map_nil, List.length_map, List.length_cons, List.length_nil, List.length_set, List.length_replicate]; omega) | (simp only [List.length_cons, List.length_nil, Nat.zero_add, Nat.reduceAdd])) only [go_sem, ↓reduceIte, Nat.reduceAdd, Int.reduceNeg, Int.reduceAdd, Int.reduceSub, Int.reduceMul, Int.reduceLT, Int.reduceLE, Int.reduceEq, Int.reduceToNat, Nat.reduceBEq, true_and]
    refine cl_ok hi1 rfl ?_
    simp (disch := first | omega | (simp only [List.length_take, List.length_drop, List.length_append, List.map_cons, List.map_nil, List.length_map, List.length_cons, List.length_nil, List.length_set, List.length_replicate]; omega) | (simp only [List.length_cons, List.length_nil, Nat.zero_add, Nat.reduceAdd])) only [go_sem, ↓reduceIte, Nat.reduceAdd, Int.reduceNeg, Int.reduceAdd, Int.reduceSub, Int.reduceMul, Int.reduceLT, Int.reduceLE, Int.reduceEq, Int.reduceToNat, Nat.reduceBEq, true_and]
    refine jn (fun vs => ∃ y0 y1 y2, vs = [y0, y1, y2]) ?_ ?_
    · refine br_if (fun h => ?_) (fun h => ?_)
      · simp (disch := first | omega | (simp only [List.length_take, List.length_drop, List.length_append, List.map_cons, List.map_nil, List.length_map, List.length_cons, List.length_nil, List.length_set, List.length_replicate]; omega) | (simp only [List.length_cons, List.length_nil, Nat.zero_add, Nat.reduceAdd])) only [go_sem, ↓reduceIte, Nat.reduceAdd, Int.reduceNeg, Int.reduceAdd, Int.reduceSub, Int.reduceMul, Int.reduceLT, Int.reduceLE, Int.reduceEq, Int.reduceToNat, Nat.reduceBEq, true_and]
        refine cl_ok hi0 rfl ?_
        simp (disch := first | omega | (simp only [List.length_take, List.length_drop, List.length_append, List.map_cons, List.map_nil, List.length_map, List.length_cons, List.length_nil, List.length_set, List.length_replicate]; omega) | (simp only [List.length_cons, List.length_nil, Nat.zero_add, Nat.reduceAdd])) only [go_sem, ↓reduceIte, Nat.reduceAdd, Int.reduceNeg, Int.reduceAdd, Int.reduceSub, Int.reduceMul, Int.reduceLT, Int.reduceLE, Int.reduceEq, Int.reduceToNat, Nat.reduceBEq, true_and]
        exact ⟨_, _, _, rfl⟩
      · simp (disch := first | omega | (simp only [List.length_take, List.length_drop, List.length_append, List.map_cons, List.map_nil, List.length_map, List.length_cons, List.length_nil, List.length_set, List.length_replicate]; omega) | (simp only [List.length_cons, List.length_nil, Nat.zero_add, Nat.reduceAdd])) only [go_sem, ↓reduceIte, Nat.reduceAdd, Int.reduceNeg, Int.reduceAdd, Int.reduceSub, Int.reduceMul, Int.reduceLT, Int.reduceLE, Int.reduceEq, Int.reduceToNat, Nat.reduceBEq, true_and]
        exact ⟨_, _, _, rfl⟩
    rintro vs - ⟨y0, y1, y2, rfl⟩
    simp only [u_spec_DeterminantOf_j2]
    simp (disch := first | omega | (simp only [List.length_take, List.length_drop, List.length_append, List.map_cons, List.map_nil, List.length_map, List.length_cons, List.length_nil, List.length_set, List.length_replicate]; omega) | (simp only [List.length_cons, List.length_nil, Nat.zero_add, Nat.reduceAdd])) only [go_sem, ↓reduceIte, Nat.reduceAdd, Int.reduceNeg, Int.reduceAdd, Int.reduceSub, Int.reduceMul, Int.reduceLT, Int.reduceLE, Int.reduceEq, Int.reduceToNat, Nat.reduceBEq, true_and]
    refine jn (fun vs => ∃ y0 y1 y2 y3 y4, vs = [y0, y1, y2, y3, y4]) ?_ ?_
    · refine lp_n 0 (fun i => [.sc (.int .i64 (i : Nat)), y0, y1, y2]) rfl fun i hi => ?_
      simp only [u_spec_DeterminantOf_l0]
      simp (disch := first | omega | (simp only [List.length_take, List.length_drop, List.length_append, List.map_cons, List.map_nil, List.length_map, List.length_cons, List.length_nil, List.length_set, List.length_replicate]; omega) | (simp only [List.length_cons, List.length_nil, Nat.zero_add, Nat.reduceAdd])) only [go_sem, ↓reduceIte, Nat.reduceAdd, Int.reduceNeg, Int.reduceAdd, Int.reduceSub, Int.reduceMul, Int.reduceLT, Int.reduceLE, Int.reduceEq, Int.reduceToNat, Nat.reduceBEq, true_and]
      refine br_if (fun h => absurd h (by omega)) (fun h => ?_)
      simp (disch := first | omega | (simp only [List.length_take, List.length_drop, List.length_append, List.map_cons, List.map_nil, List.length_map, List.length_cons, List.length_nil, List.length_set, List.length_replicate]; omega) | (simp only [List.length_cons, List.length_nil, Nat.zero_add, Nat.reduceAdd])) only [go_sem, ↓reduceIte, Nat.reduceAdd, Int.reduceNeg, Int.reduceAdd, Int.reduceSub, Int.reduceMul, Int.reduceLT, Int.reduceLE, Int.reduceEq, Int.reduceToNat, Nat.reduceBEq, true_and]
      exact ⟨_, _, _, _, _, rfl⟩
    rintro vs - ⟨z0, z1, z2, z3, z4, rfl⟩
    simp only [u_spec_DeterminantOf_j1]
    simp (disch := first | omega | (simp only [List.length_take, List.length_drop, List.length_append, List.map_cons, List.map_nil, List.length_map, List.length_cons, List.length_nil, List.length_set, List.length_replicate]; omega) | (simp only [List.length_cons, List.length_nil, Nat.zero_add, Nat.reduceAdd])) only [go_sem, ↓reduceIte, Nat.reduceAdd, Int.reduceNeg, Int.reduceAdd, Int.reduceSub, Int.reduceMul, Int.reduceLT, Int.reduceLE, Int.reduceEq, Int.reduceToNat, Nat.reduceBEq, true_and]
    rfl
  | some x =>
    obtain ⟨f, st⟩ := x
    obtain ⟨_, b1, b2, b3, b4⟩ := rdc_bd hd
    simp only at b1 b2 b3 b4
    rw [hd] at hr
    simp only [resS', encMt, encIts, encZs] at hr
    have hpl : (pivL st).length = st.length := by simp [pivL]
    have hfl := facL_len st
    refine cl_ok hr rfl ?_
    simp only [ne_eq, not_true_eq_false, if_false]
    simp (disch := first | omega | (simp only [List.length_take, List.length_drop, List.length_append, List.map_cons, List.map_nil, List.length_map, List.length_cons, List.length_nil, List.length_set, List.length_replicate]; omega) | (simp only [List.length_cons, List.length_nil, Nat.zero_add, Nat.reduceAdd])) only [go_sem, ↓reduceIte, Nat.reduceAdd, Int.reduceNeg, Int.reduceAdd, Int.reduceSub, Int.reduceMul, Int.reduceLT, Int.reduceLE, Int.reduceEq, Int.reduceToNat, Nat.reduceBEq, hpl]
    refine cl_ok hi1 rfl ?_
    simp (disch := first | omega | (simp only [List.length_take, List.length_drop, List.length_append, List.map_cons, List.map_nil, List.length_map, List.length_cons, List.length_nil, List.length_set, List.length_replicate]; omega) | (simp only [List.length_cons, List.length_nil, Nat.zero_add, Nat.reduceAdd])) only [go_sem, ↓reduceIte, Nat.reduceAdd, Int.reduceNeg, Int.reduceAdd, Int.reduceSub, Int.reduceMul, Int.reduceLT, Int.reduceLE, Int.reduceEq, Int.reduceToNat, Nat.reduceBEq, hpl]
    by_cases hlt : st.length < r.toNat
    · rw [if_pos hlt]
      refine jn_eq [.sc (.int .i64 (l2N 0).num), .sc (.int .i64 (l2N 0).den), .sc (.string (l2N 0).text)] ?_ ?_
      · refine br_if (fun h => ?_) (fun h => absurd h (by omega))
        simp (disch := first | omega | (simp only [List.length_take, List.length_drop, List.length_append, List.map_cons, List.map_nil, List.length_map, List.length_cons, List.length_nil, List.length_set, List.length_replicate]; omega) | (simp only [List.length_cons, List.length_nil, Nat.zero_add, Nat.reduceAdd])) only [go_sem, ↓reduceIte, Nat.reduceAdd, Int.reduceNeg, Int.reduceAdd, Int.reduceSub, Int.reduceMul, Int.reduceLT, Int.reduceLE, Int.reduceEq, Int.reduceToNat, Nat.reduceBEq, true_and]
        refine cl_ok hi0 rfl ?_
        simp (disch := first | omega | (simp only [List.length_take, List.length_drop, List.length_append, List.map_cons, List.map_nil, List.length_map, List.length_cons, List.length_nil, List.length_set, List.length_replicate]; omega) | (simp only [List.length_cons, List.length_nil, Nat.zero_add, Nat.reduceAdd])) only [go_sem, ↓reduceIte, Nat.reduceAdd, Int.reduceNeg, Int.reduceAdd, Int.reduceSub, Int.reduceMul, Int.reduceLT, Int.reduceLE, Int.reduceEq, Int.reduceToNat, Nat.reduceBEq, true_and]
      simp only [u_spec_DeterminantOf_j2]
      simp (disch := first | omega | (simp only [List.length_take, List.length_drop, List.length_append, List.map_cons, List.map_nil, List.length_map, List.length_cons, List.length_nil, List.length_set, List.length_replicate]; omega) | (simp only [List.length_cons, List.length_nil, Nat.zero_add, Nat.reduceAdd])) only [go_sem, ↓reduceIte, Nat.reduceAdd, Int.reduceNeg, Int.reduceAdd, Int.reduceSub, Int.reduceMul, Int.reduceLT, Int.reduceLE, Int.reduceEq, Int.reduceToNat, Nat.reduceBEq, true_and]
      refine jn_eq [.sc (.bool false), .sc (.int .i64 0), .sc (.int .i64 (l2N 0).num), .sc (.int .i64 (l2N 0).den), .sc (.string (l2N 0).text)] ?_ ?_
      · refine lp_n 0 (fun i => [.sc (.int .i64 (i : Nat)), .sc (.int .i64 (l2N 0).num), .sc (.int .i64 (l2N 0).den), .sc (.string (l2N 0).text)]) rfl fun i hi => ?_
        obtain rfl : i = 0 := by omega
        simp only [u_spec_DeterminantOf_l0]
        simp (disch := first | omega | (simp only [List.length_take, List.length_drop, List.length_append, List.map_cons, List.map_nil, List.length_map, List.length_cons, List.length_nil, List.length_set, List.length_replicate]; omega) | (simp only [List.length_cons, List.length_nil, Nat.zero_add, Nat.reduceAdd])) only [go_sem, ↓reduceIte, Nat.reduceAdd, Int.reduceNeg, Int.reduceAdd, Int.reduceSub, Int.reduceMul, Int.reduceLT, Int.reduceLE, Int.reduceEq, Int.reduceToNat, Nat.reduceBEq, hpl]
        refine br_if (fun h => ?_) (fun h => ?_)
        · simp (disch := first | omega | (simp only [List.length_take, List.length_drop, List.length_append, List.map_cons, List.map_nil, List.length_map, List.length_cons, List.length_nil, List.length_set, List.length_replicate]; omega) | (simp only [List.length_cons, List.length_nil, Nat.zero_add, Nat.reduceAdd])) only [go_sem, ↓reduceIte, Nat.reduceAdd, Int.reduceNeg, Int.reduceAdd, Int.reduceSub, Int.reduceMul, Int.reduceLT, Int.reduceLE, Int.reduceEq, Int.reduceToNat, Nat.reduceBEq, hpl]
          have hne : ¬ ((st.length : Int) = r) := by omega
          refine br_if (fun h => absurd h hne) (fun h => ?_)
          simp (disch := first | omega | (simp only [List.length_take, List.length_drop, List.length_append, List.map_cons, List.map_nil, List.length_map, List.length_cons, List.length_nil, List.length_set, List.length_replicate]; omega) | (simp only [List.length_cons, List.length_nil, Nat.zero_add, Nat.reduceAdd])) only [go_sem, ↓reduceIte, Nat.reduceAdd, Int.reduceNeg, Int.reduceAdd, Int.reduceSub, Int.reduceMul, Int.reduceLT, Int.reduceLE, Int.reduceEq, Int.reduceToNat, Nat.reduceBEq, hne]
        · simp (disch := first | omega | (simp only [List.length_take, List.length_drop, List.length_append, List.map_cons, List.map_nil, List.length_map, List.length_cons, List.length_nil, List.length_set, List.length_replicate]; omega) | (simp only [List.length_cons, List.length_nil, Nat.zero_add, Nat.reduceAdd])) only [go_sem, ↓reduceIte, Nat.reduceAdd, Int.reduceNeg, Int.reduceAdd, Int.reduceSub, Int.reduceMul, Int.reduceLT, Int.reduceLE, Int.reduceEq, Int.reduceToNat, Nat.reduceBEq, true_and]
      simp only [u_spec_DeterminantOf_j1]
      simp (disch := first | omega | (simp only [List.length_take, List.length_drop, List.length_append, List.map_cons, List.map_nil, List.length_map, List.length_cons, List.length_nil, List.length_set, List.length_replicate]; omega) | (simp only [List.length_cons, List.length_nil, Nat.zero_add, Nat.reduceAdd])) only [go_sem, ↓reduceIte, Nat.reduceAdd, Int.reduceNeg, Int.reduceAdd, Int.reduceSub, Int.reduceMul, Int.reduceLT, Int.reduceLE, Int.reduceEq, Int.reduceToNat, Nat.reduceBEq, true_and]
      refine br_if (fun h => absurd h (by decide)) (fun h => ?_)
      simp (disch := first | omega | (simp only [List.length_take, List.length_drop, List.length_append, List.map_cons, List.map_nil, List.length_map, List.length_cons, List.length_nil, List.length_set, List.length_replicate]; omega) | (simp only [List.length_cons, List.length_nil, Nat.zero_add, Nat.reduceAdd])) only [go_sem, ↓reduceIte, Nat.reduceAdd, Int.reduceNeg, Int.reduceAdd, Int.reduceSub, Int.reduceMul, Int.reduceLT, Int.reduceLE, Int.reduceEq, Int.reduceToNat, Nat.reduceBEq, true_and]
      rfl
    · rw [if_neg hlt]
      have hleq : (st.length : Int) = r := by omega
      refine jn_eq [.sc (.int .i64 (l2N 1).num), .sc (.int .i64 (l2N 1).den), .sc (.string (l2N 1).text)] ?_ ?_
      · refine br_if (fun h => absurd h (by omega)) (fun h => ?_)
        simp (disch := first | omega | (simp only [List.length_take, List.length_drop, List.length_append, List.map_cons, List.map_nil, List.length_map, List.length_cons, List.length_nil, List.length_set, List.length_replicate]; omega) | (simp only [List.length_cons, List.length_nil, Nat.zero_add, Nat.reduceAdd])) only [go_sem, ↓reduceIte, Nat.reduceAdd, Int.reduceNeg, Int.reduceAdd, Int.reduceSub, Int.reduceMul, Int.reduceLT, Int.reduceLE, Int.reduceEq, Int.reduceToNat, Nat.reduceBEq, true_and]
      simp only [u_spec_DeterminantOf_j2]
      simp (disch := first | omega | (simp only [List.length_take, List.length_drop, List.length_append, List.map_cons, List.map_nil, List.length_map, List.length_cons, List.length_nil, List.length_set, List.length_replicate]; omega) | (simp only [List.length_cons, List.length_nil, Nat.zero_add, Nat.reduceAdd])) only [go_sem, ↓reduceIte, Nat.reduceAdd, Int.reduceNeg, Int.reduceAdd, Int.reduceSub, Int.reduceMul, Int.reduceLT, Int.reduceLE, Int.reduceEq, Int.reduceToNat, Nat.reduceBEq, true_and]
      generalize hF : facL st = F at *
      refine jn (fun vs => ∃ y0 y1, vs = [y0, y1, .sc (.int .i64 (prodF F).num), .sc (.int .i64 (prodF F).den), .sc (.string (prodF F).text)]) ?_ ?_
      · refine lp_n F.length (fun i => [.sc (.int .i64 (i : Nat)), .sc (.int .i64 (prodF (F.take i)).num), .sc (.int .i64 (prodF (F.take i)).den), .sc (.string (prodF (F.take i)).text)]) rfl fun i hi => ?_
        simp only [u_spec_DeterminantOf_l0]
        simp (disch := first | omega | (simp only [List.length_take, List.length_drop, List.length_append, List.map_cons, List.map_nil, List.length_map, List.length_cons, List.length_nil, List.length_set, List.length_replicate]; omega) | (simp only [List.length_cons, List.length_nil, Nat.zero_add, Nat.reduceAdd])) only [go_sem, ↓reduceIte, Nat.reduceAdd, Int.reduceNeg, Int.reduceAdd, Int.reduceSub, Int.reduceMul, Int.reduceLT, Int.reduceLE, Int.reduceEq, Int.reduceToNat, Nat.reduceBEq, hpl]
        refine br_if (fun h => ?_) (fun h => ?_)
        · simp (disch := first | omega | (simp only [List.length_take, List.length_drop, List.length_append, List.map_cons, List.map_nil, List.length_map, List.length_cons, List.length_nil, List.length_set, List.length_replicate]; omega) | (simp only [List.length_cons, List.length_nil, Nat.zero_add, Nat.reduceAdd])) only [go_sem, ↓reduceIte, Nat.reduceAdd, Int.reduceNeg, Int.reduceAdd, Int.reduceSub, Int.reduceMul, Int.reduceLT, Int.reduceLE, Int.reduceEq, Int.reduceToNat, Nat.reduceBEq, hpl]
          refine br_if (fun _ => ?_) (fun h => absurd hleq h)
          have hiF : i < F.length := by omega
          have hm1 := mSpecMul (prodF (F.take i)) (F.getD i default)
          have hs : mulN (prodF (F.take i)) (F.getD i default) = prodF (F.take (i + 1)) := by
            unfold prodF
            rw [List.take_succ_eq_append_getElem hiF, List.foldl_append, List.getD_eq_getElem?_getD, List.getElem?_eq_getElem hiF]; rfl
          rw [hs] at hm1
          simp only [encIt] at hm1
          simp (disch := first | omega | (simp only [List.length_take, List.length_drop, List.length_append, List.map_cons, List.map_nil, List.length_map, List.length_cons, List.length_nil, List.length_set, List.length_replicate]; omega) | (simp only [List.length_cons, List.length_nil, Nat.zero_add, Nat.reduceAdd])) only [go_sem, ↓reduceIte, Nat.reduceAdd, Int.reduceNeg, Int.reduceAdd, Int.reduceSub, Int.reduceMul, Int.reduceLT, Int.reduceLE, Int.reduceEq, Int.reduceToNat, Nat.reduceBEq, ix_it, encIt]
          refine cl_ok hm1 rfl ?_
          simp (disch := first | omega | (simp only [List.length_take, List.length_drop, List.length_append, List.map_cons, List.map_nil, List.length_map, List.length_cons, List.length_nil, List.length_set, List.length_replicate]; omega) | (simp only [List.length_cons, List.length_nil, Nat.zero_add, Nat.reduceAdd])) only [go_sem, ↓reduceIte, Nat.reduceAdd, Int.reduceNeg, Int.reduceAdd, Int.reduceSub, Int.reduceMul, Int.reduceLT, Int.reduceLE, Int.reduceEq, Int.reduceToNat, Nat.reduceBEq, nat1]
          exact hiF
        · obtain rfl : i = F.length := by omega
          simp (disch := first | omega | (simp only [List.length_take, List.length_drop, List.length_append, List.map_cons, List.map_nil, List.length_map, List.length_cons, List.length_nil, List.length_set, List.length_replicate]; omega) | (simp only [List.length_cons, List.length_nil, Nat.zero_add, Nat.reduceAdd])) only [go_sem, ↓reduceIte, Nat.reduceAdd, Int.reduceNeg, Int.reduceAdd, Int.reduceSub, Int.reduceMul, Int.reduceLT, Int.reduceLE, Int.reduceEq, Int.reduceToNat, Nat.reduceBEq, List.take_length]
          exact ⟨_, _, rfl⟩
      rintro vs - ⟨y0, y1, rfl⟩
      simp only [u_spec_DeterminantOf_j1]
      simp (disch := first | omega | (simp only [List.length_take, List.length_drop, List.length_append, List.map_cons, List.map_nil, List.length_map, List.length_cons, List.length_nil, List.length_set, List.length_replicate]; omega) | (simp only [List.length_cons, List.length_nil, Nat.zero_add, Nat.reduceAdd])) only [go_sem, ↓reduceIte, Nat.reduceAdd, Int.reduceNeg, Int.reduceAdd, Int.reduceSub, Int.reduceMul, Int.reduceLT, Int.reduceLE, Int.reduceEq, Int.reduceToNat, Nat.reduceBEq, true_and]
      refine br_if (fun h => ?_) (fun h => ?_)
      · have h0 : prodF F = it0 := prodF_den (by decide) h
        rw [if_pos h0]
        simp (disch := first | omega | (simp only [List.length_take, List.length_drop, List.length_append, List.map_cons, List.map_nil, List.length_map, List.length_cons, List.length_nil, List.length_set, List.length_replicate]; omega) | (simp only [List.length_cons, List.length_nil, Nat.zero_add, Nat.reduceAdd])) only [go_sem, ↓reduceIte, Nat.reduceAdd, Int.reduceNeg, Int.reduceAdd, Int.reduceSub, Int.reduceMul, Int.reduceLT, Int.reduceLE, Int.reduceEq, Int.reduceToNat, Nat.reduceBEq, true_and]
        rfl
      · have h0 : ¬ prodF F = it0 := by intro e; rw [e] at h; exact h rfl
        rw [if_neg h0]
        simp (disch := first | omega | (simp only [List.length_take, List.length_drop, List.length_append, List.map_cons, List.map_nil, List.length_map, List.length_cons, List.length_nil, List.length_set, List.length_replicate]; omega) | (simp only [List.length_cons, List.length_nil, Nat.zero_add, Nat.reduceAdd])) only [go_sem, ↓reduceIte, Nat.reduceAdd, Int.reduceNeg, Int.reduceAdd, Int.reduceSub, Int.reduceMul, Int.reduceLT, Int.reduceLE, Int.reduceEq, Int.reduceToNat, Nat.reduceBEq, true_and]
        rfl
end Go.Proofs.Ytolkglnkdfcceaa

namespace Go.Proofs.Ytolkglnkdfcceaa
open Go.RowKit
def val (x : It) : Rat := Rat.divInt x.num x.den
theorem numB_den {x : It} (h : numB x = true) : x.den ≠ 0 := by have := (numB_iff.1 h).2.1; omega
theorem val_redN {n d : Int} (h : d ≠ 0) : val (redN n d) = Rat.divInt n d := by
  have hd := redN_den (n := n) h
  obtain ⟨h1, h2, h3⟩ := gcd_pos (n := n) h
  unfold val
  rw [Rat.divInt_eq_divInt_iff (by omega) h]
  obtain ⟨p, hp⟩ := h2
  obtain ⟨q, hq⟩ := h3
  unfold redN
  simp only
  have e1 : n / (Int.gcd n d : Int) = p := by conv => lhs; lhs; rw [hp]
                                              exact Int.mul_ediv_cancel_left _ (by omega)
  have e2 : d / (Int.gcd n d : Int) = q := by conv => lhs; lhs; rw [hq]
                                              exact Int.mul_ediv_cancel_left _ (by omega)
  split
  · rw [Int.neg_ediv_of_dvd ⟨p, hp⟩, Int.neg_ediv_of_dvd ⟨q, hq⟩, e1, e2]
    conv => lhs; rhs; rw [hq]
    conv => rhs; lhs; rw [hp]
    simp only [Int.neg_mul, Int.mul_neg]
    grind
  · rw [e1, e2]
    conv => lhs; rhs; rw [hq]
    conv => rhs; lhs; rw [hp]
    grind
theorem val_mk {n d : Int} (h : numB (mkN n d) = true) : d ≠ 0 ∧ val (mkN n d) = Rat.divInt n d := by
  unfold mkN at h ⊢
  split
  · rename_i hc; rw [if_pos hc, numB_it0] at h; cases h
  · rename_i hc
    rw [if_neg hc] at h
    have h0 : d ≠ 0 := fun e => hc (Or.inl e)
    split
    · exact ⟨h0, val_redN h0⟩
    · rename_i hn; rw [if_neg hn, numB_it0] at h; cases h
theorem val_add {x y : It} (h : numB (addN x y) = true) : numB x = true ∧ numB y = true ∧ val (addN x y) = val x + val y := by
  unfold addN at h ⊢
  split
  · rename_i hc
    rw [if_pos hc] at h
    rw [Bool.and_eq_true] at hc
    refine ⟨hc.1, hc.2, ?_⟩
    rw [(val_mk h).2]
    unfold val
    rw [Rat.divInt_add_divInt _ _ (numB_den hc.1) (numB_den hc.2)]
  · rename_i hc; rw [if_neg hc, numB_it0] at h; cases h
theorem val_mul {x y : It} (h : numB (mulN x y) = true) : numB x = true ∧ numB y = true ∧ val (mulN x y) = val x * val y := by
  unfold mulN at h ⊢
  split
  · rename_i hc
    rw [if_pos hc] at h
    rw [Bool.and_eq_true] at hc
    refine ⟨hc.1, hc.2, ?_⟩
    rw [(val_mk h).2]
    unfold val
    rw [Rat.divInt_mul_divInt]
  · rename_i hc; rw [if_neg hc, numB_it0] at h; cases h
theorem val_neg {x : It} (h : numB x = true) : numB (negN x) = true ∧ val (negN x) = - val x := by
  unfold negN
  rw [if_pos h]
  obtain ⟨h1, h2, h3, h4⟩ := numB_iff.1 h
  refine ⟨numB_iff.2 ⟨rfl, h2, by simp only; omega, by simp only [Int.neg_gcd]; exact h4⟩, ?_⟩
  unfold val
  simp only [Rat.neg_divInt]
theorem numB_neg {x : It} (h : numB (negN x) = true) : numB x = true := by
  unfold negN at h
  split at h
  · assumption
  · rw [numB_it0] at h; cases h
theorem val_sub {x y : It} (h : numB (subN x y) = true) : numB x = true ∧ numB y = true ∧ val (subN x y) = val x - val y := by
  unfold subN at h ⊢
  obtain ⟨h1, h2, h3⟩ := val_add h
  have h4 := numB_neg h2
  exact ⟨h1, h4, by rw [h3, (val_neg h4).2, Rat.sub_eq_add_neg]⟩
theorem val_zero {x : It} (h : numB x = true) : val x = 0 ↔ x.num = 0 := by
  unfold val
  have e : (0 : Rat) = Rat.divInt 0 1 := by simp
  rw [e, Rat.divInt_eq_divInt_iff (numB_den h) (by omega)]
  omega
theorem val_div {x y : It} (h : numB (divN x y) = true) : numB x = true ∧ numB y = true ∧ val y ≠ 0 ∧ val (divN x y) * val y = val x := by
  unfold divN at h ⊢
  split
  · rename_i hc
    rw [if_pos hc] at h
    rw [Bool.and_eq_true] at hc
    obtain ⟨h0, h1⟩ := val_mk h
    have hy : y.num ≠ 0 := fun e => h0 (by rw [e, Int.mul_zero])
    refine ⟨hc.1, hc.2, fun e => hy ((val_zero hc.2).1 e), ?_⟩
    rw [h1]
    unfold val
    rw [Rat.divInt_mul_divInt, Rat.divInt_eq_divInt_iff (Int.mul_ne_zero h0 (numB_den hc.2)) (numB_den hc.1)]
    grind
  · rename_i hc; rw [if_neg hc, numB_it0] at h; cases h
theorem val_inj {x y : It} (hx : numB x = true) (hy : numB y = true) (h : val x = val y) : x = y := by
  obtain ⟨x1, x2, x3, x4⟩ := numB_iff.1 hx
  obtain ⟨y1, y2, y3, y4⟩ := numB_iff.1 hy
  unfold val at h
  rw [Rat.divInt_eq_divInt_iff (by omega) (by omega)] at h
  have d1 : x.den.natAbs ∣ y.den.natAbs := Nat.Coprime.dvd_of_dvd_mul_left (m := x.num.natAbs) (Nat.coprime_comm.1 x4) (by rw [← Int.natAbs_mul, h, Int.natAbs_mul]; exact Nat.dvd_mul_left _ _)
  have d2 : y.den.natAbs ∣ x.den.natAbs := Nat.Coprime.dvd_of_dvd_mul_left (m := y.num.natAbs) (Nat.coprime_comm.1 y4) (by rw [← Int.natAbs_mul, ← h, Int.natAbs_mul]; exact Nat.dvd_mul_left _ _)
  have e : x.den = y.den := by have := Nat.dvd_antisymm d1 d2; omega
  rw [e] at h
  have e2 := Int.eq_of_mul_eq_mul_right (by omega) h
  cases x; cases y
  simp only at e e2 x1 y1
  subst e e2
  rw [x1, y1]
theorem val_l2N (n : Int) : val (l2N n) = n := by
  unfold val
  show Rat.divInt n 1 = n
  exact (Rat.mk_eq_divInt (num := n) (den := 1) (nz := by decide) (c := Nat.coprime_one_right _)).symm
def sumQ : Nat → (Nat → Rat) → Rat
  | 0, _ => 0
  | n + 1, g => sumQ n g + g n
theorem sumQ_congr {n : Nat} {f g : Nat → Rat} (h : ∀ i, i < n → f i = g i) : sumQ n f = sumQ n g := by
  induction n with
  | zero => rfl
  | succ n ih => rw [sumQ, sumQ, ih fun i hi => h i (by omega), h n (by omega)]
theorem sumQ_add {n : Nat} {f g : Nat → Rat} : sumQ n (fun i => f i + g i) = sumQ n f + sumQ n g := by
  induction n with
  | zero => simp only [sumQ]; grind
  | succ n ih => simp only [sumQ, ih]; grind
theorem sumQ_mul {n : Nat} {f : Nat → Rat} {c : Rat} : sumQ n (fun i => c * f i) = c * sumQ n f := by
  induction n with
  | zero => simp only [sumQ]; grind
  | succ n ih => simp only [sumQ, ih]; grind
theorem sumQ_zero {n : Nat} {f : Nat → Rat} (h : ∀ i, i < n → f i = 0) : sumQ n f = 0 := by
  induction n with
  | zero => rfl
  | succ n ih => rw [sumQ, ih fun i hi => h i (by omega), h n (by omega)]; grind
theorem sumQ_single {n : Nat} {f : Nat → Rat} {k : Nat} (hk : k < n) (h : ∀ i, i < n → i ≠ k → f i = 0) : sumQ n f = f k := by
  induction n with
  | zero => omega
  | succ n ih =>
    rw [sumQ]
    by_cases e : k = n
    · subst e; rw [sumQ_zero fun i hi => h i (by omega) (by omega)]; grind
    · rw [ih (by omega) fun i hi he => h i (by omega) he, h n (by omega) (by omega)]; grind
theorem sumQ_upd {n : Nat} {f g : Nat → Rat} {k : Nat} (hk : k < n) (h : ∀ i, i < n → i ≠ k → f i = g i) : sumQ n f = sumQ n g - g k + f k := by
  induction n with
  | zero => omega
  | succ n ih =>
    rw [sumQ, sumQ]
    by_cases e : k = n
    · subst e; rw [sumQ_congr (f := f) (g := g) fun i hi => h i (by omega) (by omega)]; grind
    · rw [ih (by omega) fun i hi he => h i (by omega) he, h n (by omega) (by omega)]; grind
def sw (r k a : Nat) : Nat := if a = r then k else if a = k then r else a
theorem sumQ_sw {n r k : Nat} {f : Nat → Rat} (hr : r < n) (hk : k < n) : sumQ n (fun a => f (sw r k a)) = sumQ n f := by
  by_cases e : r = k
  · subst e
    refine sumQ_congr fun i _ => ?_
    unfold sw; split
    · rename_i h; rw [h]
    · rfl
  · have h1 := sumQ_upd (f := fun a => f (sw r k a)) (g := fun a => if a = k then f r else f a) hr fun i _ hi => by unfold sw; rw [if_neg hi]; split <;> rfl
    have h2 := sumQ_upd (f := fun a => if a = k then f r else f a) (g := f) hk fun i _ hi => by rw [if_neg hi]
    rw [h1, h2]
    simp only [sw, if_true, if_neg e]
    grind
structure StepQ (R W r k c : Nat) (F N : Nat → Nat → Rat) : Prop where
  hr : r < R
  hk : k < R
  hc : c < W
  p0 : F k c ≠ 0
  pr : ∀ b, b < W → N r b * F k c = F k b
  el : ∀ a, a < R → a ≠ r → ∀ b, b < W → N a b = F (sw r k a) b - F (sw r k a) c * N r b
variable {R W r k c : Nat} {F N : Nat → Nat → Rat}
def Sat (R W : Nat) (F : Nat → Nat → Rat) (v : Nat → Rat) : Prop := ∀ a, a < R → sumQ W (fun b => F a b * v b) = 0
theorem sw_sw (r k a : Nat) : sw r k (sw r k a) = a := by unfold sw; grind
theorem sw_lt (hr : r < R) (hk : k < R) {a : Nat} (ha : a < R) : sw r k a < R := by unfold sw; grind
theorem StepQ.sat (h : StepQ R W r k c F N) {v : Nat → Rat} (hs : Sat R W N v) : Sat R W F v := by
  have hr := hs r h.hr
  have key : ∀ a, a < R → a ≠ r → sumQ W (fun b => F (sw r k a) b * v b) = 0 := by
    intro a ha hne
    have e : sumQ W (fun b => F (sw r k a) b * v b) = sumQ W (fun b => N a b * v b + F (sw r k a) c * (N r b * v b)) := sumQ_congr fun b hb => by rw [h.el a ha hne b hb]; grind
    rw [e, sumQ_add, hs a ha, sumQ_mul, hr]; grind
  intro a ha
  by_cases e : a = k
  · subst e
    have e : sumQ W (fun b => F a b * v b) = sumQ W (fun b => F a c * (N r b * v b)) := sumQ_congr fun b hb => by rw [← h.pr b hb]; grind
    rw [e, sumQ_mul, hr]; grind
  · have := key (sw r k a) (sw_lt h.hr h.hk ha) (by unfold sw; grind)
    rwa [sw_sw] at this
def Ind (R W : Nat) (F : Nat → Nat → Rat) : Prop := ∀ u : Nat → Rat, (∀ b, b < W → sumQ R (fun a => u a * F a b) = 0) → ∀ a, a < R → u a = 0
theorem StepQ.ind (h : StepQ R W r k c F N) (hi : Ind R W F) : Ind R W N := by
  intro u hu
  obtain ⟨s, hs⟩ : ∃ s : Rat, s = sumQ R (fun a => if a = r then 0 else u a * F (sw r k a) c) := ⟨_, rfl⟩
  obtain ⟨w, hw⟩ : ∃ w : Nat → Rat, w = fun a => if a = k then (u r - s) * (F k c)⁻¹ else u (sw r k a) := ⟨_, rfl⟩
  have hp := h.p0
  have hwz := hi w fun b hb => by
    have e1 : sumQ R (fun a => w a * F a b) = sumQ R (fun a => w (sw r k a) * F (sw r k a) b) := (sumQ_sw (f := fun a => w a * F a b) h.hr h.hk).symm
    have e2 : sumQ R (fun a => w (sw r k a) * F (sw r k a) b) = sumQ R (fun a => u a * N a b + N r b * (if a = r then 0 - s else u a * F (sw r k a) c)) := by
      refine sumQ_congr fun a ha => ?_
      by_cases e : a = r
      · subst e
        rw [if_pos rfl]
        have hk' : sw a k a = k := by unfold sw; rw [if_pos rfl]
        have hpr := h.pr b hb
        rw [hk', hw]
        simp only [if_true]
        rw [← hpr]
        have : (F k c)⁻¹ * F k c = 1 := Rat.inv_mul_cancel _ hp
        grind
      · rw [if_neg e]
        have hne : sw r k a ≠ k := by unfold sw; grind
        have hel := h.el a ha e b hb
        rw [hw]
        simp only [if_neg hne, sw_sw]
        rw [hel]
        grind
    rw [e1, e2, sumQ_add, hu b hb, sumQ_mul]
    have e3 := sumQ_upd (f := fun a => if a = r then 0 - s else u a * F (sw r k a) c) (g := fun a => if a = r then 0 else u a * F (sw r k a) c) h.hr fun i _ hne => by simp only [if_neg hne]
    rw [e3, ← hs]
    simp only [if_true]
    grind
  have hother : ∀ a, a < R → a ≠ r → u a = 0 := by
    intro a ha e
    have := hwz (sw r k a) (sw_lt h.hr h.hk ha)
    have hne : sw r k a ≠ k := by unfold sw; grind
    rw [hw] at this
    simpa only [if_neg hne, sw_sw] using this
  have hs0 : s = 0 := by
    rw [hs]
    refine sumQ_zero fun a ha => ?_
    by_cases e : a = r
    · rw [if_pos e]
    · rw [if_neg e, hother a ha e]; grind
  intro a ha
  by_cases e : a = r
  · subst e
    have := hwz k h.hk
    rw [hw] at this
    simp only [if_true, hs0] at this
    have h2 : (F k c)⁻¹ * F k c = 1 := Rat.inv_mul_cancel _ hp
    have : u a * ((F k c)⁻¹ * F k c) = 0 := by grind
    rw [h2] at this
    grind
  · exact hother a ha e
end Go.Proofs.Ytolkglnkdfcceaa

namespace Go.Proofs.Ytolkglnkdfcceaa
open Go.RowKit
def vf (f : Nat → Nat → It) (a b : Nat) : Rat := val (f a b)
theorem nz_spec (f : Nat → Nat → It) (c R r : Nat) : (nz f c R r = R ∧ ∀ i, r ≤ i → i < R → (f i c).num = 0) ∨ (r ≤ nz f c R r ∧ nz f c R r < R ∧ (f (nz f c R r) c).num ≠ 0) := by
  unfold nz
  cases h : (List.range R).find? fun i => decide (r ≤ i) && !decide ((f i c).num = 0) with
  | none =>
    left
    refine ⟨rfl, fun i hi hR => ?_⟩
    rw [List.find?_range_eq_none] at h
    have := h i hR
    simp only [Bool.not_eq_true', Bool.and_eq_false_iff, decide_eq_false_iff_not, Bool.not_eq_false', decide_eq_true_eq] at this
    rcases this with h1 | h1
    · exact absurd hi h1
    · exact h1
  | some k =>
    right
    rw [List.find?_range_eq_some] at h
    obtain ⟨h1, h2, -⟩ := h
    simp only [Bool.and_eq_true, decide_eq_true_eq, Bool.not_eq_true', decide_eq_false_iff_not] at h1
    exact ⟨h1.1, List.mem_range.1 h2, h1.2⟩
theorem grid_nb {R W : Nat} {f : Nat → Nat → It} (h : allN (gridL W f (R * W)) = true) {a b : Nat} (ha : a < R) (hb : b < W) : numB (f a b) = true := by
  unfold allN at h
  rw [List.all_eq_true] at h
  exact h _ (List.mem_of_getElem? (gridL_get f hb (grid_lt ha hb)))
theorem stepF_q {R W r k c : Nat} {f : Nat → Nat → It} (hr : r < R) (hk : k < R) (hc : c < W) (hp : (f k c).num ≠ 0) (hf : ∀ a b, a < R → b < W → numB (f a b) = true) (hn : allN (gridL W (stepF W R r k c f) (R * W)) = true) :
    StepQ R W r k c (vf f) (vf (stepF W R r k c f)) := by
  have hnb := fun a b (ha : a < R) (hb : b < W) => grid_nb hn ha hb
  have er : ∀ b, b < W → stepF W R r k c f r b = divN (f k b) (f k c) := by
    intro b hb
    unfold stepF elJ
    rw [if_neg (by rintro ⟨_, h, _⟩; exact h rfl)]
    unfold sdJ
    rw [if_pos hb, if_pos rfl]
  have eg : ∀ a b, a ≠ r → b < W → sdJ r k (f k c) f W a b = f (sw r k a) b := by
    intro a b ha hb
    unfold sdJ sw
    rw [if_pos hb, if_neg ha, if_neg ha]
    split <;> rfl
  refine ⟨hr, hk, hc, fun e => hp ((val_zero (hf k c hk hc)).1 e), fun b hb => ?_, fun a ha hne b hb => ?_⟩
  · have h := hnb r b hr hb
    unfold vf
    rw [er b hb] at h ⊢
    exact (val_div h).2.2.2
  · have h := hnb a b ha hb
    have hrb := hnb r b hr hb
    have hs := sw_lt hr hk ha
    unfold vf
    rw [er b hb] at hrb ⊢
    have e : stepF W R r k c f a b = if (f (sw r k a) c).num ≠ 0 then subN (f (sw r k a) b) (mulN (f (sw r k a) c) (divN (f k b) (f k c))) else f (sw r k a) b := by
      have e2 : sdJ r k (f k c) f W r b = divN (f k b) (f k c) := by unfold sdJ; rw [if_pos hb, if_pos rfl]
      unfold stepF elJ
      rw [eg a c hne hc, eg a b hne hb, e2]
      by_cases h0 : (f (sw r k a) c).num ≠ 0
      · rw [if_pos h0, if_pos ⟨Or.inl ⟨ha, hb⟩, hne, h0⟩]
      · rw [if_neg h0, if_neg (fun x => h0 x.2.2)]
    rw [e] at h ⊢
    split
    · rename_i h0
      rw [if_pos h0] at h
      obtain ⟨h1, h2, h3⟩ := val_sub h
      rw [h3, (val_mul h2).2.2]
    · rename_i h0
      have : val (f (sw r k a) c) = 0 := (val_zero (hf _ _ hs hc)).2 (by simpa using h0)
      rw [this]; grind
structure RInv (R W c : Nat) (f0 f : Nat → Nat → It) (st : List Stp) : Prop where
  nb : ∀ a b, a < R → b < W → numB (f a b) = true
  sat : ∀ v, Sat R W (vf f) v → Sat R W (vf f0) v
  ind : Ind R W (vf f0) → Ind R W (vf f)
  le : st.length ≤ R
  un : ∀ j, j < st.length → ∀ a, a < R → vf f a (st.getD j default).1 = if a = j then 1 else 0
  ze : ∀ a, st.length ≤ a → a < R → ∀ b, b < c → vf f a b = 0
  lt : ∀ j, j < st.length → (st.getD j default).1 < c
theorem getD_app_l {α : Type} [Inhabited α] {l m : List α} {j : Nat} (h : j < l.length) : (l ++ m).getD j default = l.getD j default := by
  rw [List.getD_eq_getElem?_getD, List.getD_eq_getElem?_getD, List.getElem?_append_left h]
theorem getD_app_r {α : Type} [Inhabited α] {l : List α} {x : α} : (l ++ [x]).getD l.length default = x := by
  rw [List.getD_eq_getElem?_getD, List.getElem?_append_right (Nat.le_refl _)]; simp
theorem RInv.step {R W c : Nat} {f0 f f' : Nat → Nat → It} {st st' : List Stp} (hc : c < W) (h : RInv R W c f0 f st) (hs : red1 W R c f st = some (f', st')) : RInv R W (c + 1) f0 f' st' := by
  have lt' : ∀ j, j < st.length → (st.getD j default).1 < c + 1 := fun j hj => Nat.lt_succ_of_lt (h.lt j hj)
  unfold red1 at hs
  split at hs
  · rename_i hR
    injection hs with hs; injection hs with e1 e2; subst e1 e2
    exact ⟨h.nb, h.sat, h.ind, h.le, h.un, fun a ha haR => by omega, lt'⟩
  · rename_i hR
    rcases nz_spec f c R st.length with ⟨h1, h2⟩ | ⟨h1, h2, h3⟩
    · rw [if_pos h1] at hs
      injection hs with hs; injection hs with e1 e2; subst e1 e2
      refine ⟨h.nb, h.sat, h.ind, h.le, h.un, fun a ha haR b hb => ?_, lt'⟩
      by_cases e : b = c
      · subst e; exact (val_zero (h.nb a b haR hc)).2 (h2 a ha haR)
      · exact h.ze a ha haR b (by omega)
    · rw [if_neg (by omega)] at hs
      split at hs
      · rename_i hn
        generalize nz f c R st.length = k at *
        injection hs with hs; injection hs with e1 e2; subst e1 e2
        have hq := stepF_q (by omega) h2 hc h3 h.nb hn
        have hpc : ∀ j, j < st.length → (st.getD j default).1 < W := fun j hj => by have := h.lt j hj; omega
        have rz : ∀ b, b < W → vf f k b = 0 → vf (stepF W R st.length k c f) st.length b = 0 := by
          intro b hb hz
          have := hq.pr b hb
          rw [hz] at this
          have h4 := hq.p0
          rcases Rat.mul_eq_zero.1 this with h5 | h5
          · exact h5
          · exact absurd h5 h4
        have r1 : vf (stepF W R st.length k c f) st.length c = 1 := by
          have := hq.pr c hc
          have h4 := hq.p0
          have h5 : vf f k c * (vf f k c)⁻¹ = 1 := Rat.mul_inv_cancel _ h4
          grind
        refine ⟨fun a b ha hb => grid_nb hn ha hb, fun v hv => h.sat v (hq.sat hv), fun hi => hq.ind (h.ind hi), by simp; omega, ?_, ?_, ?_⟩
        · intro j hj a ha
          rw [List.length_append, List.length_singleton] at hj
          by_cases e : j < st.length
          · rw [getD_app_l e]
            have hz := rz _ (hpc j e) (by rw [h.un j e k h2, if_neg (by omega)])
            by_cases ea : a = st.length
            · subst ea
              rw [hz, if_neg (by omega)]
            · rw [hq.el a ha ea _ (hpc j e), hz, h.un j e _ (sw_lt (by omega) h2 ha)]
              unfold sw
              rw [if_neg ea]
              by_cases ek : a = k
              · rw [if_pos ek, if_neg (by omega), if_neg (by omega)]; grind
              · rw [if_neg ek]; grind
          · obtain rfl : j = st.length := by omega
            rw [getD_app_r]
            simp only
            by_cases ea : a = st.length
            · subst ea; rw [r1, if_pos rfl]
            · rw [hq.el a ha ea c hc, r1, if_neg ea]; grind
        · intro a ha haR b hb
          rw [List.length_append, List.length_singleton] at ha
          have ea : a ≠ st.length := by omega
          by_cases e : b = c
          · subst e
            rw [hq.el a haR ea b hc, r1]; grind
          · rw [hq.el a haR ea b (by omega), rz b (by omega) (h.ze k h1 h2 b (by omega))]
            have : vf f (sw st.length k a) b = 0 := by
              refine h.ze _ ?_ (sw_lt (by omega) h2 haR) b (by omega)
              unfold sw; rw [if_neg ea]; split <;> omega
            rw [this]; grind
        · intro j hj
          rw [List.length_append, List.length_singleton] at hj
          by_cases e : j < st.length
          · rw [getD_app_l e]; exact lt' j e
          · obtain rfl : j = st.length := by omega
            rw [getD_app_r]; exact Nat.lt_succ_self _
      · cases hs
theorem redS_inv {R W : Nat} {f0 : Nat → Nat → It} (h0 : ∀ a b, a < R → b < W → numB (f0 a b) = true) : ∀ {c : Nat} {f : Nat → Nat → It} {st : List Stp}, c ≤ W → redS W R f0 c = some (f, st) → RInv R W c f0 f st
  | 0, f, st, _, h => by
    simp only [redS] at h
    injection h with h; injection h with e1 e2; subst e1 e2
    exact ⟨h0, fun _ h => h, fun h => h, by simp, fun j hj => by simp at hj, fun a _ _ b hb => by omega, fun j hj => by simp at hj⟩
  | c + 1, f, st, hc, h => by
    simp only [redS] at h
    split at h
    · cases h
    · rename_i g s1 h1
      exact (redS_inv h0 (by omega) h1).step (by omega) h
end Go.Proofs.Ytolkglnkdfcceaa

namespace Go.Proofs.Ytolkglnkdfcceaa
open Go.RowKit
set_option maxRecDepth 100000
theorem besL_getD {a b : Nat} {la lb : List It} {n : Nat} (hla : la.length = n * a) (hlb : lb.length = n * b) : ∀ m, m ≤ n → ∀ i j, i < m → j < a + b → (besL a b la lb m).getD (i * (a + b) + j) default = if j < a then la.getD (i * a + j) default else lb.getD (i * b + (j - a)) default
  | 0, _, i, j, hi, _ => by omega
  | m + 1, hm, i, j, hi, hj => by
    have hl := besL_len' a b la lb n hla hlb m (by omega)
    by_cases e : i < m
    · rw [← besL_getD hla hlb m (by omega) i j e hj]
      have := grid_lt (R := m) (W := a + b) e hj
      unfold besL
      rw [List.getD_eq_getElem?_getD, List.getElem?_append_left (by omega), List.getD_eq_getElem?_getD]
      cases m <;> rfl
    · obtain rfl : i = m := by omega
      have k1 : i * a + a ≤ n * a := by rw [← Nat.succ_mul]; exact Nat.mul_le_mul_right _ hm
      have k2 : i * b + b ≤ n * b := by rw [← Nat.succ_mul]; exact Nat.mul_le_mul_right _ hm
      unfold besL
      have e1 : ∀ (x : List It), (besL a b la lb i ++ x).getD (i * (a + b) + j) default = x.getD j default := by
        intro x
        rw [List.getD_eq_getElem?_getD, List.getElem?_append_right (by omega), hl, Nat.add_sub_cancel_left, List.getD_eq_getElem?_getD]
      have e2 : ((la.drop (i * a)).take a).length = a := by rw [List.length_take, List.length_drop]; omega
      have e3 : (besL a b la lb i ++ ((la.drop (i * a)).take a ++ (lb.drop (i * b)).take b)).getD (i * (a + b) + j) default = if j < a then la.getD (i * a + j) default else lb.getD (i * b + (j - a)) default := by
        rw [e1, List.getD_eq_getElem?_getD]
        split
        · rename_i hja
          rw [List.getElem?_append_left (by omega), List.getElem?_take, if_pos hja, List.getElem?_drop, List.getD_eq_getElem?_getD]
        · rename_i hja
          rw [List.getElem?_append_right (by omega), e2, List.getElem?_take, if_pos (by omega), List.getElem?_drop, List.getD_eq_getElem?_getD]
      exact e3
theorem allN_getD {l : List It} (h : allN l = true) {i : Nat} (hi : i < l.length) : numB (l.getD i default) = true := by
  unfold allN at h
  rw [List.all_eq_true] at h
  rw [List.getD_eq_getElem?_getD, List.getElem?_eq_getElem hi]
  exact h _ (List.getElem_mem hi)
theorem mulS_val {C K : Nat} {la lb : List It} {i k : Nat} : ∀ {n : Nat}, numB (mulS C K la lb i k n) = true → val (mulS C K la lb i k n) = sumQ n (fun m => val (cel C la i m) * val (cel K lb m k))
  | 0, h => by
    simp only [mulS, sumQ]
    rw [val_l2N]; rfl
  | n + 1, h => by
    simp only [mulS, sumQ] at h ⊢
    obtain ⟨h1, h2, h3⟩ := val_add h
    rw [h3, mulS_val h1, (val_mul h2).2.2]
theorem mt_len {m : Mt} (h : mtB m = true) : m.cells.length = m.rows.toNat * m.cols.toNat ∧ allN m.cells = true ∧ m.rows.toNat ≤ 12 ∧ m.cols.toNat ≤ 12 := by
  obtain ⟨h1, h2, h3, h4, h5⟩ := mtB_dims h
  have : ((m.rows.toNat * m.cols.toNat : Nat) : Int) = m.rows * m.cols := by rw [Int.natCast_mul, Int.toNat_of_nonneg h1, Int.toNat_of_nonneg h3]
  refine ⟨by omega, by rw [mtB_true ⟨h1, h2, h3, h4, h5⟩] at h; exact h, by omega, by omega⟩
end Go.Proofs.Ytolkglnkdfcceaa

namespace Go.Proofs.Ytolkglnkdfcceaa
open Go.RowKit
set_option maxRecDepth 100000
theorem redS_nz {W R : Nat} {f0 : Nat → Nat → It} : ∀ {c : Nat} {f : Nat → Nat → It} {st : List Stp}, redS W R f0 c = some (f, st) → ∀ x ∈ st, x.2.1.num ≠ 0
  | 0, f, st, h => by simp only [redS] at h; injection h with h; injection h with _ h; subst h; simp
  | c + 1, f, st, h => by
    simp only [redS] at h
    split at h
    · cases h
    · rename_i g s1 h1
      have i1 := redS_nz h1
      unfold red1 at h
      split at h
      · injection h with h; injection h with _ h; subst h; exact i1
      · split at h
        · injection h with h; injection h with _ h; subst h; exact i1
        · rename_i hn
          split at h
          · injection h with h; injection h with _ h; subst h
            intro x hx
            rcases List.mem_append.1 hx with hx | hx
            · exact i1 x hx
            · rw [List.mem_singleton.1 hx]
              rcases nz_spec g c R s1.length with ⟨h2, _⟩ | ⟨_, _, h2⟩
              · exact absurd h2 hn
              · exact h2
          · cases h
theorem fold_nz : ∀ {l : List It} {a : It}, (∀ x ∈ l, x.num ≠ 0) → (numB a = true → val a ≠ 0) → numB (l.foldl mulN a) = true → val (l.foldl mulN a) ≠ 0
  | [], a, _, ha, hn => ha hn
  | x :: l, a, hl, ha, hn => by
    refine fold_nz (l := l) (a := mulN a x) (fun y hy => hl y (List.mem_cons_of_mem _ hy)) (fun h => ?_) hn
    obtain ⟨h1, h2, h3⟩ := val_mul h
    rw [h3]
    have h4 : val x ≠ 0 := fun e => hl x (List.mem_cons_self ..) ((val_zero h2).1 e)
    have h5 := ha h1
    intro e
    rcases Rat.mul_eq_zero.1 e with e | e
    · exact h5 e
    · exact h4 e
theorem mulN_or (x y : It) : mulN x y = it0 ∨ numB (mulN x y) = true := by
  unfold mulN
  split
  · exact mkN_numB _ _
  · exact .inl rfl
theorem fold_or : ∀ {l : List It} {a : It}, (a = it0 ∨ numB a = true) → (l.foldl mulN a = it0 ∨ numB (l.foldl mulN a) = true)
  | [], a, h => h
  | x :: l, a, _ => fold_or (l := l) (mulN_or a x)
theorem det_rank {m : Mt} (hd : (detM m).isSome = true) : (rdc m).isSome = true ∧ ((detI m).num = 0 ↔ ((rrP m).length : Int) ≠ m.rows) := by
  unfold detI
  obtain ⟨e, he⟩ := Option.isSome_iff_exists.1 hd
  rw [he]
  simp only [Option.getD_some]
  unfold detM at he
  split at he
  · cases he
  · rename_i x hx
    obtain ⟨f, st⟩ := x
    have hp : rrP m = pivL st := by unfold rrP; rw [hx]
    obtain ⟨b1, b2, b3, b4, b5⟩ := rdc_bd hx
    obtain ⟨d1, d2, d3, d4, d5⟩ := mtB_dims b1
    rw [hx, hp, pivL_len]
    refine ⟨rfl, ?_⟩
    simp only at he
    split at he
    · cases he
    · rename_i hrc
      split at he
      · rename_i hlt
        injection he with he
        subst he
        exact ⟨fun _ => by omega, fun _ => rfl⟩
      · rename_i hge
        split at he
        · cases he
        · rename_i hne
          injection he with he
          subst he
          have hn : numB (prodF (facL st)) = true := by
            rcases fold_or (l := facL st) (a := l2N 1) (.inr (by decide)) with h | h
            · exact absurd h hne
            · exact h
          have hx2 := hx
          unfold rdc at hx2
          rw [if_pos b1] at hx2
          have hnz := fold_nz (l := facL st) (a := l2N 1) (fun x hx => by
            unfold facL at hx
            obtain ⟨y, hy, hx⟩ := List.mem_flatMap.1 hx
            simp only [List.mem_cons] at hx
            rcases hx with rfl | hx
            · exact redS_nz hx2 y hy
            · split at hx
              · rw [List.mem_singleton] at hx; subst hx; decide
              · cases hx) (fun _ => by rw [val_l2N]; decide) hn
          have : (prodF (facL st)).num ≠ 0 := fun e => hnz ((val_zero hn).2 e)
          exact ⟨fun h => absurd h this, fun h => absurd (by omega) h⟩
theorem sumQ_split {n m : Nat} {g : Nat → Rat} : sumQ (n + m) g = sumQ n g + sumQ m (fun i => g (n + i)) := by
  induction m with
  | zero => simp only [Nat.add_zero, sumQ]; grind
  | succ m ih => rw [← Nat.add_assoc, sumQ, ih, sumQ]; grind
theorem piv_id {n : Nat} {st : List Stp} (hp : st.Pairwise fun x y => x.1 < y.1) (hn : st.length = n) (hb : ∀ j, j < n → (st.getD j default).1 < n) : ∀ j, j < n → (st.getD j default).1 = j := by
  have mono : ∀ i j, i < j → j < n → (st.getD i default).1 < (st.getD j default).1 := by
    intro i j hij hj
    have := List.pairwise_iff_getElem.1 hp i j (by omega) (by omega) hij
    rw [List.getD_eq_getElem?_getD, List.getD_eq_getElem?_getD, List.getElem?_eq_getElem (show i < st.length by omega), List.getElem?_eq_getElem (show j < st.length by omega)]
    exact this
  have lo : ∀ j, j < n → j ≤ (st.getD j default).1 := by
    intro j
    induction j with
    | zero => intro _; omega
    | succ j ih => intro hj; have := mono j (j + 1) (by omega) hj; have := ih (by omega); omega
  have hi : ∀ k j, j + k = n - 1 → j < n → (st.getD j default).1 ≤ j := by
    intro k
    induction k with
    | zero => intro j hj hjn; have := hb j hjn; omega
    | succ k ih => intro j hj hjn; have := mono j (j + 1) (by omega) (by omega); have := ih (j + 1) (by omega) (by omega); omega
  intro j hj
  have := lo j hj
  have := hi (n - 1 - j) j (by omega) hj
  omega
theorem invL_getD {n : Nat} {l : List It} (hl : l.length = n * (n + n)) : ∀ m, m ≤ n → (invL n l m).length = m * n ∧ ∀ i j, i < m → j < n → (invL n l m).getD (i * n + j) default = l.getD (i * (n + n) + (n + j)) default
  | 0, _ => ⟨by simp [invL], fun i j hi => by omega⟩
  | m + 1, hm => by
    obtain ⟨h1, h2⟩ := invL_getD hl m (by omega)
    have k1 : m * (n + n) + (n + n) ≤ n * (n + n) := by rw [← Nat.succ_mul]; exact Nat.mul_le_mul_right _ hm
    have h3 : ((l.drop (m * (n + n) + n)).take n).length = n := by rw [List.length_take, List.length_drop]; omega
    refine ⟨by simp only [invL, List.length_append, h1, h3, Nat.succ_mul], fun i j hi hj => ?_⟩
    simp only [invL]
    by_cases e : i < m
    · have := grid_lt (R := m) (W := n) e hj
      rw [← h2 i j e hj, List.getD_eq_getElem?_getD, List.getElem?_append_left (by omega), List.getD_eq_getElem?_getD]
    · obtain rfl : i = m := by omega
      rw [List.getD_eq_getElem?_getD, List.getElem?_append_right (by omega), h1, Nat.add_sub_cancel_left, List.getElem?_take, if_pos hj, List.getElem?_drop, List.getD_eq_getElem?_getD, Nat.add_assoc]
theorem id_val {n i j : Nat} (hi : i < n) (hj : j < n) : val ((idL n).getD (i * n + j) default) = if i = j then 1 else 0 := by
  unfold idL
  rw [grid_getD _ hi hj]
  unfold idF
  split
  · rw [val_l2N]; rfl
  · rw [val_l2N]; rfl
theorem inv_sat {n : Nat} {la l : List It} (hla : la.length = n * n) (na : allN la = true) (h : invE n la = some l) {i j : Nat} (hi : i < n) (hj : j < n) :
    sumQ n (fun b => val (la.getD (i * n + b) default) * val (l.getD (b * n + j) default)) = (if i = j then 1 else 0) ∧ l.length = n * n := by
  unfold invE at h
  split at h
  · cases h
  · rename_i x hx
    obtain ⟨f, st⟩ := x
    simp only at h
    split at h
    · cases h
    · rename_i hbig
      have hbig : big n st = false := by simpa using hbig
      injection h with h
      subst h
      unfold augR at hx
      have hid : allN (idL n) = true := by
        rw [allN, List.all_eq_true]
        intro x hx
        unfold idL gridL idF at hx
        obtain ⟨t, _, rfl⟩ := List.mem_map.1 hx
        split <;> decide
      have h0 : ∀ a b, a < n → b < n + n → numB (celF (n + n) (besL n n la (idL n) n) a b) = true := by
        intro a b ha hb
        unfold celF
        rw [besL_getD hla (idL_len n) n (Nat.le_refl _) a b ha hb]
        split
        · exact allN_getD na (by rw [hla]; exact grid_lt ha ‹_›)
        · exact allN_getD hid (by rw [idL_len]; exact grid_lt ha (by omega))
      have c1 : ∀ a b, a < n → b < n → vf (celF (n + n) (besL n n la (idL n) n)) a b = val (la.getD (a * n + b) default) := by
        intro a b ha hb
        unfold vf celF
        rw [besL_getD hla (idL_len n) n (Nat.le_refl _) a b ha (by omega), if_pos hb]
      have c2 : ∀ a b, a < n → b < n → vf (celF (n + n) (besL n n la (idL n) n)) a (n + b) = if a = b then 1 else 0 := by
        intro a b ha hb
        unfold vf celF
        rw [besL_getD hla (idL_len n) n (Nat.le_refl _) a (n + b) ha (by omega), if_neg (by omega), Nat.add_sub_cancel_left]
        exact id_val ha hb
      have inv := redS_inv h0 (Nat.le_refl _) hx
      have hpw := (redS_piv hx).2
      have hind : Ind n (n + n) (vf f) := by
        refine inv.ind fun u hu a ha => ?_
        have := hu (n + a) (by omega)
        rw [sumQ_single ha (fun i hi hne => by rw [c2 i a hi ha, if_neg hne]; grind), c2 a a ha ha, if_pos rfl] at this
        grind
      have hlen : st.length = n := by
        rcases Nat.lt_or_ge st.length n with hlt | hge
        · exfalso
          have := hind (fun a => if a = st.length then 1 else 0) (fun b hb => by
            refine sumQ_zero fun a ha => ?_
            split
            · rename_i e; rw [e, inv.ze st.length (Nat.le_refl _) hlt b hb]; grind
            · grind) st.length hlt
          simp at this
        · have := inv.le; omega
      have hpiv := piv_id hpw hlen (fun j hj => big_lt (by omega) hbig)
      have hun : ∀ a b, a < n → b < n → vf f a b = if a = b then 1 else 0 := by
        intro a b ha hb
        have := inv.un b (by omega) a ha
        rwa [hpiv b hb] at this
      obtain ⟨g1, g2⟩ := invL_getD (l := gridL (n + n) f (n * (n + n))) (gridL_len _ _ _) n (Nat.le_refl _)
      have hX : ∀ b, b < n → val ((invL n (gridL (n + n) f (n * (n + n))) n).getD (b * n + j) default) = vf f b (n + j) := by
        intro b hb
        rw [g2 b j hb hj, grid_getD f hb (by omega)]; rfl
      refine ⟨?_, g1⟩
      have hsat := inv.sat (fun b => if b < n then vf f b (n + j) else if b = n + j then -1 else 0) (by
        intro a ha
        rw [sumQ_split]
        dsimp only
        rw [sumQ_single (k := a) ha (fun b hb hne => by rw [hun a b ha hb, if_neg (fun e => hne e.symm)]; grind), sumQ_single (k := j) hj (fun b hb hne => by rw [if_neg (by omega), if_neg (by omega)]; grind)]
        rw [hun a a ha ha, if_pos rfl, if_pos ha, if_neg (by omega), if_pos rfl]
        grind) i hi
      rw [sumQ_split] at hsat
      dsimp only at hsat
      rw [sumQ_single (n := n) (f := fun b => vf (celF (n + n) (besL n n la (idL n) n)) i (n + b) * (if n + b < n then vf f (n + b) (n + j) else if n + b = n + j then -1 else 0)) (k := j) hj (fun b hb hne => by rw [if_neg (by omega), if_neg (by omega)]; grind), c2 i j hi hj] at hsat
      rw [if_neg (show ¬ n + j < n by omega), if_pos (show n + j = n + j from rfl)] at hsat
      have e : sumQ n (fun b => vf (celF (n + n) (besL n n la (idL n) n)) i b * (if b < n then vf f b (n + j) else if b = n + j then -1 else 0)) = sumQ n (fun b => val (la.getD (i * n + b) default) * val ((invL n (gridL (n + n) f (n * (n + n))) n).getD (b * n + j) default)) := by
        refine sumQ_congr fun b hb => ?_
        rw [if_pos hb, c1 i b hi hb, hX b hb]
      rw [e] at hsat
      grind
theorem inv_mul {m : Mt} (hs : (inv m).isSome = true) (h : mulB m (invM m) = true) : ∃ n : Nat, m.rows = n ∧ n ≤ 12 ∧ (mulM m (invM m)).cells = idL n := by
  obtain ⟨l, hl⟩ := Option.isSome_iff_exists.1 hs
  have hM : invM m = ⟨m.rows, m.rows, l⟩ := by unfold invM; rw [hl]
  rw [hM] at h ⊢
  rw [mulM_true h]
  unfold inv at hl
  split at hl
  · rename_i hc
    obtain ⟨c1, c2⟩ := hc
    obtain ⟨a1, a2, a3, a4⟩ := mt_len c1
    obtain ⟨d1, d2, d3, d4, d5⟩ := mtB_dims c1
    have hn := h
    unfold mulB at hn
    simp only [Bool.and_eq_true] at hn
    have hn := hn.2
    obtain ⟨r, c, la⟩ := m
    simp only at c2 hl a1 a2 a3 a4 d1 hn ⊢
    subst c2
    obtain ⟨n, rfl⟩ : ∃ n : Nat, r = n := ⟨r.toNat, by omega⟩
    rw [Int.toNat_natCast] at *
    refine ⟨n, rfl, a3, ?_⟩
    unfold mulL at hn ⊢
    simp only [Int.toNat_natCast] at hn ⊢
    unfold idL gridL
    refine List.map_congr_left fun t ht => ?_
    rw [List.mem_range] at ht
    have hn0 : 0 < n := by rcases Nat.eq_zero_or_pos n with h0 | h0
                           · subst h0; omega
                           · exact h0
    have hi : t / n < n := Nat.div_lt_of_lt_mul ht
    have hj : t % n < n := Nat.mod_lt _ hn0
    have hnt : numB (mulS n n la l (t / n) (t % n) n) = true := grid_nb hn hi hj
    obtain ⟨hsat, hll⟩ := inv_sat a1 a2 hl hi hj
    refine val_inj hnt ?_ ?_
    · unfold idF; split <;> decide
    · rw [mulS_val hnt]
      have e : sumQ n (fun m => val (cel n la (t / n) m) * val (cel n l m (t % n))) = sumQ n (fun b => val (la.getD (t / n * n + b) default) * val (l.getD (b * n + t % n) default)) := by
        refine sumQ_congr fun b hb => ?_
        unfold cel
        rw [List.getD_eq_getElem?_getD, List.getD_eq_getElem?_getD, List.getElem?_eq_getElem (show t / n * n + b < la.length by rw [a1]; exact grid_lt hi hb), List.getElem?_eq_getElem (show b * n + t % n < l.length by rw [hll]; exact grid_lt hb hj)]
        rfl
      rw [e, hsat]
      unfold idF
      split
      · rw [val_l2N]; rfl
      · rw [val_l2N]; rfl
  · cases hl
theorem num_m (n : Int) : Meets Try.prog 12 [(false, [.sc (.int .i64 n)])] [(true, encIt (l2N n), true)] := by
  refine meets_upf Try.func12 u_laws_num_g rfl ?_; simp only [u_laws_num_u]
  simp (disch := first | omega | (simp only [List.length_take, List.length_drop, List.length_append, List.map_cons, List.map_nil, List.length_map, List.length_cons, List.length_nil, List.length_set, List.length_replicate]; omega) | (simp only [List.length_cons, List.length_nil, Nat.zero_add, Nat.reduceAdd])) only [go_sem, ↓reduceIte, Nat.reduceAdd, Int.reduceNeg, Int.reduceAdd, Int.reduceSub, Int.reduceMul, Int.reduceLT, Int.reduceLE, Int.reduceEq, Int.reduceToNat, Nat.reduceBEq, e_sle, e_sge, e_shl1, e_orI, e_andI, e_shr, wrapu, wrap8, tn1, nat1, ix_s, ix_z, st_s, st_z, fl_s, fl_z, fl1_s, fl1_z, map_s, map_z, true_and]
  rfl
set_option maxHeartbeats 8000000 in
theorem lawInverses_m (a0 : List Int) (h0 : a0.length ≤ 9223372036854775807) : Meets Try.prog 6 [(false, [encU8s a0])] [(false, [.sc (.bool true)], true)] := by
  have hb := big_m a0 h0
  by_cases hbig : 1048576 < a0.length
  · rw [decide_eq_true hbig] at hb
    refine meets_upf Try.func6 u_laws_FnInverses_g rfl ?_; simp only [u_laws_FnInverses_u]
    simp only [encU8s] at hb ⊢
    repeat' (first | (with_reducible refine jn_in ?_) | (with_reducible refine cl_ok (by assumption) rfl ?_) | (with_reducible refine cl_okP (by assumption) rfl ?_) | (with_reducible refine br_if (fun hbr => ?_) (fun hbr => ?_)) | (with_reducible refine br_ifn (fun hbr => ?_) (fun hbr => ?_)) | (with_reducible refine br_nb (fun hbr => ?_) (fun hbr => ?_)) | (with_reducible refine br_b (fun hbr => ?_) (fun hbr => ?_)) | simp (disch := first | omega | (simp only [List.length_take, List.length_drop, List.length_append, List.map_cons, List.map_nil, List.length_map, List.length_cons, List.length_nil, List.length_set, List.length_replicate]; omega) | (simp only [List.length_cons, List.length_nil, Nat.zero_add, Nat.reduceAdd])) only [go_sem, ↓reduceIte, Nat.reduceAdd, Int.reduceNeg, Int.reduceAdd, Int.reduceSub, Int.reduceMul, Int.reduceLT, Int.reduceLE, Int.reduceEq, Int.reduceToNat, Nat.reduceBEq, e_sle, e_sge, e_shl1, e_orI, e_andI, e_shr, wrapu, wrap8, tn1, nat1, ix_s, ix_z, st_s, st_z, fl_s, fl_z, fl1_s, fl1_z, map_s, map_z, true_and])
    all_goals rfl
  rw [decide_eq_false hbig] at hb
  obtain ⟨m, -, hd⟩ := drawInv_e a0 (by omega)
  have h1 := implInv_m m
  have h2 := specInv_m m
  have h3 := sameMts_m (invM m) (invM m) (by have := invM_len m; omega)
  rw [decide_eq_true rfl] at h3
  have h4 := implDet_m m
  have h5 := specDet_m m
  have h6 := specRank_m m
  have h7 := implMul_m m (invM m)
  have h8 := specMul_m m (invM m)
  have hnum := num_m 1
  have hdr := @det_rank m
  have hsm := @inv_mul m
  refine meets_upf Try.func6 u_laws_FnInverses_g rfl ?_; simp only [u_laws_FnInverses_u]
  simp only [encU8s, encMt, encIts, encIt] at hb hd h1 h2 h3 h4 h5 h6 h7 h8 hnum ⊢
  have hne := ne_it (detI m) (detI m)
  rw [decide_eq_true rfl] at hne
  simp (disch := first | omega | (simp only [List.length_take, List.length_drop, List.length_append, List.map_cons, List.map_nil, List.length_map, List.length_cons, List.length_nil, List.length_set, List.length_replicate]; omega) | (simp only [List.length_cons, List.length_nil, Nat.zero_add, Nat.reduceAdd])) only [go_sem, ↓reduceIte, Nat.reduceAdd, Int.reduceNeg, Int.reduceAdd, Int.reduceSub, Int.reduceMul, Int.reduceLT, Int.reduceLE, Int.reduceEq, Int.reduceToNat, Nat.reduceBEq, e_sle, e_sge, e_shl1, e_orI, e_andI, e_shr, wrapu, wrap8, tn1, nat1, ix_s, ix_z, st_s, st_z, fl_s, fl_z, fl1_s, fl1_z, map_s, map_z, true_and]
  refine cl_ok hb rfl ?_
  simp (disch := first | omega | (simp only [List.length_take, List.length_drop, List.length_append, List.map_cons, List.map_nil, List.length_map, List.length_cons, List.length_nil, List.length_set, List.length_replicate]; omega) | (simp only [List.length_cons, List.length_nil, Nat.zero_add, Nat.reduceAdd])) only [go_sem, ↓reduceIte, Nat.reduceAdd, Int.reduceNeg, Int.reduceAdd, Int.reduceSub, Int.reduceMul, Int.reduceLT, Int.reduceLE, Int.reduceEq, Int.reduceToNat, Nat.reduceBEq, e_sle, e_sge, e_shl1, e_orI, e_andI, e_shr, wrapu, wrap8, tn1, nat1, ix_s, ix_z, st_s, st_z, fl_s, fl_z, fl1_s, fl1_z, map_s, map_z, true_and]
  refine cl_ok hd rfl ?_
  simp (disch := first | omega | (simp only [List.length_take, List.length_drop, List.length_append, List.map_cons, List.map_nil, List.length_map, List.length_cons, List.length_nil, List.length_set, List.length_replicate]; omega) | (simp only [List.length_cons, List.length_nil, Nat.zero_add, Nat.reduceAdd])) only [go_sem, ↓reduceIte, Nat.reduceAdd, Int.reduceNeg, Int.reduceAdd, Int.reduceSub, Int.reduceMul, Int.reduceLT, Int.reduceLE, Int.reduceEq, Int.reduceToNat, Nat.reduceBEq, e_sle, e_sge, e_shl1, e_orI, e_andI, e_shr, wrapu, wrap8, tn1, nat1, ix_s, ix_z, st_s, st_z, fl_s, fl_z, fl1_s, fl1_z, map_s, map_z, true_and]
  refine cl_ok h1 rfl ?_
  simp (disch := first | omega | (simp only [List.length_take, List.length_drop, List.length_append, List.map_cons, List.map_nil, List.length_map, List.length_cons, List.length_nil, List.length_set, List.length_replicate]; omega) | (simp only [List.length_cons, List.length_nil, Nat.zero_add, Nat.reduceAdd])) only [go_sem, ↓reduceIte, Nat.reduceAdd, Int.reduceNeg, Int.reduceAdd, Int.reduceSub, Int.reduceMul, Int.reduceLT, Int.reduceLE, Int.reduceEq, Int.reduceToNat, Nat.reduceBEq, e_sle, e_sge, e_shl1, e_orI, e_andI, e_shr, wrapu, wrap8, tn1, nat1, ix_s, ix_z, st_s, st_z, fl_s, fl_z, fl1_s, fl1_z, map_s, map_z, true_and]
  refine cl_ok h2 rfl ?_
  simp (disch := first | omega | (simp only [List.length_take, List.length_drop, List.length_append, List.map_cons, List.map_nil, List.length_map, List.length_cons, List.length_nil, List.length_set, List.length_replicate]; omega) | (simp only [List.length_cons, List.length_nil, Nat.zero_add, Nat.reduceAdd])) only [go_sem, ↓reduceIte, Nat.reduceAdd, Int.reduceNeg, Int.reduceAdd, Int.reduceSub, Int.reduceMul, Int.reduceLT, Int.reduceLE, Int.reduceEq, Int.reduceToNat, Nat.reduceBEq, e_sle, e_sge, e_shl1, e_orI, e_andI, e_shr, wrapu, wrap8, tn1, nat1, ix_s, ix_z, st_s, st_z, fl_s, fl_z, fl1_s, fl1_z, map_s, map_z, true_and]
  refine cl_ok h4 rfl ?_
  simp (disch := first | omega | (simp only [List.length_take, List.length_drop, List.length_append, List.map_cons, List.map_nil, List.length_map, List.length_cons, List.length_nil, List.length_set, List.length_replicate]; omega) | (simp only [List.length_cons, List.length_nil, Nat.zero_add, Nat.reduceAdd])) only [go_sem, ↓reduceIte, Nat.reduceAdd, Int.reduceNeg, Int.reduceAdd, Int.reduceSub, Int.reduceMul, Int.reduceLT, Int.reduceLE, Int.reduceEq, Int.reduceToNat, Nat.reduceBEq, e_sle, e_sge, e_shl1, e_orI, e_andI, e_shr, wrapu, wrap8, tn1, nat1, ix_s, ix_z, st_s, st_z, fl_s, fl_z, fl1_s, fl1_z, map_s, map_z, true_and]
  refine cl_ok h5 rfl ?_
  simp (disch := first | omega | (simp only [List.length_take, List.length_drop, List.length_append, List.map_cons, List.map_nil, List.length_map, List.length_cons, List.length_nil, List.length_set, List.length_replicate]; omega) | (simp only [List.length_cons, List.length_nil, Nat.zero_add, Nat.reduceAdd])) only [go_sem, ↓reduceIte, Nat.reduceAdd, Int.reduceNeg, Int.reduceAdd, Int.reduceSub, Int.reduceMul, Int.reduceLT, Int.reduceLE, Int.reduceEq, Int.reduceToNat, Nat.reduceBEq, e_sle, e_sge, e_shl1, e_orI, e_andI, e_shr, wrapu, wrap8, tn1, nat1, ix_s, ix_z, st_s, st_z, fl_s, fl_z, fl1_s, fl1_z, map_s, map_z, true_and]
  refine cl_ok h6 rfl ?_
  simp (disch := first | omega | (simp only [List.length_take, List.length_drop, List.length_append, List.map_cons, List.map_nil, List.length_map, List.length_cons, List.length_nil, List.length_set, List.length_replicate]; omega) | (simp only [List.length_cons, List.length_nil, Nat.zero_add, Nat.reduceAdd])) only [go_sem, ↓reduceIte, Nat.reduceAdd, Int.reduceNeg, Int.reduceAdd, Int.reduceSub, Int.reduceMul, Int.reduceLT, Int.reduceLE, Int.reduceEq, Int.reduceToNat, Nat.reduceBEq, e_sle, e_sge, e_shl1, e_orI, e_andI, e_shr, wrapu, wrap8, tn1, nat1, ix_s, ix_z, st_s, st_z, fl_s, fl_z, fl1_s, fl1_z, map_s, map_z, true_and]
  refine jn (fun vs => vs = [.sc (.bool false)]) ?_ ?_
  · have hx : (detM m).isSome = true → (!decide ((detI m).num = 0)) = decide (((rrP m).length : Int) = m.rows) := fun h => by
      have := (hdr h).2
      by_cases e : (detI m).num = 0
      · rw [decide_eq_true e, decide_eq_false (this.1 e)]; rfl
      · rw [decide_eq_false e, decide_eq_true (by rw [this] at e; simpa using e)]; rfl
    generalize (inv m).isSome = x1 at *
    cases x2 : (detM m).isSome <;> cases x1
    · repeat' (first | (with_reducible refine jn_in ?_) | (with_reducible refine cl_ok (by assumption) rfl ?_) | (with_reducible refine cl_okP (by assumption) rfl ?_) | (with_reducible refine br_if (fun hbr => ?_) (fun hbr => ?_)) | (with_reducible refine br_ifn (fun hbr => ?_) (fun hbr => ?_)) | (with_reducible refine br_nb (fun hbr => ?_) (fun hbr => ?_)) | (with_reducible refine br_b (fun hbr => ?_) (fun hbr => ?_)) | simp (disch := first | omega | (simp only [List.length_take, List.length_drop, List.length_append, List.map_cons, List.map_nil, List.length_map, List.length_cons, List.length_nil, List.length_set, List.length_replicate]; omega) | (simp only [List.length_cons, List.length_nil, Nat.zero_add, Nat.reduceAdd])) only [go_sem, ↓reduceIte, Nat.reduceAdd, Int.reduceNeg, Int.reduceAdd, Int.reduceSub, Int.reduceMul, Int.reduceLT, Int.reduceLE, Int.reduceEq, Int.reduceToNat, Nat.reduceBEq, e_sle, e_sge, e_shl1, e_orI, e_andI, e_shr, wrapu, wrap8, tn1, nat1, ix_s, ix_z, st_s, st_z, fl_s, fl_z, fl1_s, fl1_z, map_s, map_z, hne])
      all_goals rfl
    · repeat' (first | (with_reducible refine jn_in ?_) | (with_reducible refine cl_ok (by assumption) rfl ?_) | (with_reducible refine cl_okP (by assumption) rfl ?_) | (with_reducible refine br_if (fun hbr => ?_) (fun hbr => ?_)) | (with_reducible refine br_ifn (fun hbr => ?_) (fun hbr => ?_)) | (with_reducible refine br_nb (fun hbr => ?_) (fun hbr => ?_)) | (with_reducible refine br_b (fun hbr => ?_) (fun hbr => ?_)) | simp (disch := first | omega | (simp only [List.length_take, List.length_drop, List.length_append, List.map_cons, List.map_nil, List.length_map, List.length_cons, List.length_nil, List.length_set, List.length_replicate]; omega) | (simp only [List.length_cons, List.length_nil, Nat.zero_add, Nat.reduceAdd])) only [go_sem, ↓reduceIte, Nat.reduceAdd, Int.reduceNeg, Int.reduceAdd, Int.reduceSub, Int.reduceMul, Int.reduceLT, Int.reduceLE, Int.reduceEq, Int.reduceToNat, Nat.reduceBEq, e_sle, e_sge, e_shl1, e_orI, e_andI, e_shr, wrapu, wrap8, tn1, nat1, ix_s, ix_z, st_s, st_z, fl_s, fl_z, fl1_s, fl1_z, map_s, map_z, hne])
      all_goals rfl
    · rw [(hdr x2).1]
      repeat' (first | (with_reducible refine jn_in ?_) | (with_reducible refine cl_ok (by assumption) rfl ?_) | (with_reducible refine cl_okP (by assumption) rfl ?_) | (with_reducible refine br_if (fun hbr => ?_) (fun hbr => ?_)) | (with_reducible refine br_ifn (fun hbr => ?_) (fun hbr => ?_)) | (with_reducible refine br_nb (fun hbr => ?_) (fun hbr => ?_)) | (with_reducible refine br_b (fun hbr => ?_) (fun hbr => ?_)) | simp (disch := first | omega | (simp only [List.length_take, List.length_drop, List.length_append, List.map_cons, List.map_nil, List.length_map, List.length_cons, List.length_nil, List.length_set, List.length_replicate]; omega) | (simp only [List.length_cons, List.length_nil, Nat.zero_add, Nat.reduceAdd])) only [go_sem, ↓reduceIte, Nat.reduceAdd, Int.reduceNeg, Int.reduceAdd, Int.reduceSub, Int.reduceMul, Int.reduceLT, Int.reduceLE, Int.reduceEq, Int.reduceToNat, Nat.reduceBEq, e_sle, e_sge, e_shl1, e_orI, e_andI, e_shr, wrapu, wrap8, tn1, nat1, ix_s, ix_z, st_s, st_z, fl_s, fl_z, fl1_s, fl1_z, map_s, map_z, hne, hx x2])
      all_goals rfl
    · rw [(hdr x2).1]
      repeat' (first | (with_reducible refine jn_in ?_) | (with_reducible refine cl_ok (by assumption) rfl ?_) | (with_reducible refine cl_okP (by assumption) rfl ?_) | (with_reducible refine br_if (fun hbr => ?_) (fun hbr => ?_)) | (with_reducible refine br_ifn (fun hbr => ?_) (fun hbr => ?_)) | (with_reducible refine br_nb (fun hbr => ?_) (fun hbr => ?_)) | (with_reducible refine br_b (fun hbr => ?_) (fun hbr => ?_)) | simp (disch := first | omega | (simp only [List.length_take, List.length_drop, List.length_append, List.map_cons, List.map_nil, List.length_map, List.length_cons, List.length_nil, List.length_set, List.length_replicate]; omega) | (simp only [List.length_cons, List.length_nil, Nat.zero_add, Nat.reduceAdd])) only [go_sem, ↓reduceIte, Nat.reduceAdd, Int.reduceNeg, Int.reduceAdd, Int.reduceSub, Int.reduceMul, Int.reduceLT, Int.reduceLE, Int.reduceEq, Int.reduceToNat, Nat.reduceBEq, e_sle, e_sge, e_shl1, e_orI, e_andI, e_shr, wrapu, wrap8, tn1, nat1, ix_s, ix_z, st_s, st_z, fl_s, fl_z, fl1_s, fl1_z, map_s, map_z, hne, hx x2])
      all_goals rfl
  · rintro vs - rfl
    simp only [u_laws_FnInverses_j2]
    simp (disch := first | omega | (simp only [List.length_take, List.length_drop, List.length_append, List.map_cons, List.map_nil, List.length_map, List.length_cons, List.length_nil, List.length_set, List.length_replicate]; omega) | (simp only [List.length_cons, List.length_nil, Nat.zero_add, Nat.reduceAdd])) only [go_sem, ↓reduceIte, Nat.reduceAdd, Int.reduceNeg, Int.reduceAdd, Int.reduceSub, Int.reduceMul, Int.reduceLT, Int.reduceLE, Int.reduceEq, Int.reduceToNat, Nat.reduceBEq, e_sle, e_sge, e_shl1, e_orI, e_andI, e_shr, wrapu, wrap8, tn1, nat1, ix_s, ix_z, st_s, st_z, fl_s, fl_z, fl1_s, fl1_z, map_s, map_z, true_and]
    refine cl_ok h7 rfl ?_
    simp (disch := first | omega | (simp only [List.length_take, List.length_drop, List.length_append, List.map_cons, List.map_nil, List.length_map, List.length_cons, List.length_nil, List.length_set, List.length_replicate]; omega) | (simp only [List.length_cons, List.length_nil, Nat.zero_add, Nat.reduceAdd])) only [go_sem, ↓reduceIte, Nat.reduceAdd, Int.reduceNeg, Int.reduceAdd, Int.reduceSub, Int.reduceMul, Int.reduceLT, Int.reduceLE, Int.reduceEq, Int.reduceToNat, Nat.reduceBEq, e_sle, e_sge, e_shl1, e_orI, e_andI, e_shr, wrapu, wrap8, tn1, nat1, ix_s, ix_z, st_s, st_z, fl_s, fl_z, fl1_s, fl1_z, map_s, map_z, true_and]
    refine cl_ok h8 rfl ?_
    cases hs : (inv m).isSome <;> cases hm : mulB m (invM m)
    · repeat' (first | (with_reducible refine jn_in ?_) | (with_reducible refine cl_ok (by assumption) rfl ?_) | (with_reducible refine cl_okP (by assumption) rfl ?_) | (with_reducible refine br_if (fun hbr => ?_) (fun hbr => ?_)) | (with_reducible refine br_ifn (fun hbr => ?_) (fun hbr => ?_)) | (with_reducible refine br_nb (fun hbr => ?_) (fun hbr => ?_)) | (with_reducible refine br_b (fun hbr => ?_) (fun hbr => ?_)) | simp (disch := first | omega | (simp only [List.length_take, List.length_drop, List.length_append, List.map_cons, List.map_nil, List.length_map, List.length_cons, List.length_nil, List.length_set, List.length_replicate]; omega) | (simp only [List.length_cons, List.length_nil, Nat.zero_add, Nat.reduceAdd])) only [go_sem, ↓reduceIte, Nat.reduceAdd, Int.reduceNeg, Int.reduceAdd, Int.reduceSub, Int.reduceMul, Int.reduceLT, Int.reduceLE, Int.reduceEq, Int.reduceToNat, Nat.reduceBEq, e_sle, e_sge, e_shl1, e_orI, e_andI, e_shr, wrapu, wrap8, tn1, nat1, ix_s, ix_z, st_s, st_z, fl_s, fl_z, fl1_s, fl1_z, map_s, map_z, true_and])
      all_goals rfl
    · repeat' (first | (with_reducible refine jn_in ?_) | (with_reducible refine cl_ok (by assumption) rfl ?_) | (with_reducible refine cl_okP (by assumption) rfl ?_) | (with_reducible refine br_if (fun hbr => ?_) (fun hbr => ?_)) | (with_reducible refine br_ifn (fun hbr => ?_) (fun hbr => ?_)) | (with_reducible refine br_nb (fun hbr => ?_) (fun hbr => ?_)) | (with_reducible refine br_b (fun hbr => ?_) (fun hbr => ?_)) | simp (disch := first | omega | (simp only [List.length_take, List.length_drop, List.length_append, List.map_cons, List.map_nil, List.length_map, List.length_cons, List.length_nil, List.length_set, List.length_replicate]; omega) | (simp only [List.length_cons, List.length_nil, Nat.zero_add, Nat.reduceAdd])) only [go_sem, ↓reduceIte, Nat.reduceAdd, Int.reduceNeg, Int.reduceAdd, Int.reduceSub, Int.reduceMul, Int.reduceLT, Int.reduceLE, Int.reduceEq, Int.reduceToNat, Nat.reduceBEq, e_sle, e_sge, e_shl1, e_orI, e_andI, e_shr, wrapu, wrap8, tn1, nat1, ix_s, ix_z, st_s, st_z, fl_s, fl_z, fl1_s, fl1_z, map_s, map_z, true_and])
      all_goals rfl
    · repeat' (first | (with_reducible refine jn_in ?_) | (with_reducible refine cl_ok (by assumption) rfl ?_) | (with_reducible refine cl_okP (by assumption) rfl ?_) | (with_reducible refine br_if (fun hbr => ?_) (fun hbr => ?_)) | (with_reducible refine br_ifn (fun hbr => ?_) (fun hbr => ?_)) | (with_reducible refine br_nb (fun hbr => ?_) (fun hbr => ?_)) | (with_reducible refine br_b (fun hbr => ?_) (fun hbr => ?_)) | simp (disch := first | omega | (simp only [List.length_take, List.length_drop, List.length_append, List.map_cons, List.map_nil, List.length_map, List.length_cons, List.length_nil, List.length_set, List.length_replicate]; omega) | (simp only [List.length_cons, List.length_nil, Nat.zero_add, Nat.reduceAdd])) only [go_sem, ↓reduceIte, Nat.reduceAdd, Int.reduceNeg, Int.reduceAdd, Int.reduceSub, Int.reduceMul, Int.reduceLT, Int.reduceLE, Int.reduceEq, Int.reduceToNat, Nat.reduceBEq, e_sle, e_sge, e_shl1, e_orI, e_andI, e_shr, wrapu, wrap8, tn1, nat1, ix_s, ix_z, st_s, st_z, fl_s, fl_z, fl1_s, fl1_z, map_s, map_z, true_and])
      all_goals rfl
    · obtain ⟨n, hr, hn, hcell⟩ := hsm hs hm
      rw [hcell, hr]
      simp (disch := first | omega | (simp only [List.length_take, List.length_drop, List.length_append, List.map_cons, List.map_nil, List.length_map, List.length_cons, List.length_nil, List.length_set, List.length_replicate]; omega) | (simp only [List.length_cons, List.length_nil, Nat.zero_add, Nat.reduceAdd])) only [go_sem, ↓reduceIte, Nat.reduceAdd, Int.reduceNeg, Int.reduceAdd, Int.reduceSub, Int.reduceMul, Int.reduceLT, Int.reduceLE, Int.reduceEq, Int.reduceToNat, Nat.reduceBEq, e_sle, e_sge, e_shl1, e_orI, e_andI, e_shr, wrapu, wrap8, tn1, nat1, ix_s, ix_z, st_s, st_z, fl_s, fl_z, fl1_s, fl1_z, map_s, map_z, true_and]
      refine lp (fun i : Nat => [.sc (.int .i64 i)]) (fun i => i ≤ n * n) (fun i => n * n - i) 0 rfl (Nat.zero_le _) ?_
      intro i hi
      simp only [u_laws_FnInverses_l1]
      have hnn : n * n ≤ 12 * 12 := Nat.mul_le_mul hn hn
      have hil := idL_len n
      by_cases hlt : i < n * n
      · have hn0 : 0 < n := by rcases Nat.eq_zero_or_pos n with h0 | h0
                               · subst h0; omega
                               · exact h0
        simp (disch := first | omega | (simp only [List.length_take, List.length_drop, List.length_append, List.map_cons, List.map_nil, List.length_map, List.length_cons, List.length_nil, List.length_set, List.length_replicate]; omega) | (simp only [List.length_cons, List.length_nil, Nat.zero_add, Nat.reduceAdd])) only [go_sem, ↓reduceIte, Nat.reduceAdd, Int.reduceNeg, Int.reduceAdd, Int.reduceSub, Int.reduceMul, Int.reduceLT, Int.reduceLE, Int.reduceEq, Int.reduceToNat, Nat.reduceBEq, e_sle, e_sge, e_shl1, e_orI, e_andI, e_shr, wrapu, wrap8, tn1, nat1, ix_s, ix_z, st_s, st_z, fl_s, fl_z, fl1_s, fl1_z, map_s, map_z, true_and]
        refine br_if (fun hbr => ?_) (fun hbr => absurd hbr (by omega))
        have e1 : (idL n).getD i default = idF (i / n) (i % n) := by
          unfold idL gridL
          rw [List.getD_eq_getElem?_getD, List.getElem?_map, List.getElem?_range hlt]; rfl
        have w1 : (i : Int).tdiv n = ((i / n : Nat) : Int) := rfl
        have w3 : (i : Int).tmod n = ((i % n : Nat) : Int) := rfl
        have w2 : i / n ≤ i := Nat.div_le_self _ _
        have w5 : (0 : Int) ≤ ((i / n : Nat) : Int) := Int.natCast_nonneg _
        have n1 := ne_it (l2N 1) (l2N 1)
        have n2 := ne_it (l2N 0) (l2N 1)
        have z1 : (l2N 1).num = 1 := rfl
        have z2 : (l2N 0).num = 0 := rfl
        rw [decide_eq_true rfl] at n1
        rw [decide_eq_false (by decide)] at n2
        simp only [z1, z2] at n1 n2
        refine jn_in ?_
        simp (disch := first | omega | (simp only [List.length_take, List.length_drop, List.length_append, List.map_cons, List.map_nil, List.length_map, List.length_cons, List.length_nil, List.length_set, List.length_replicate]; omega) | (simp only [List.length_cons, List.length_nil, Nat.zero_add, Nat.reduceAdd])) only [go_sem, ↓reduceIte, Nat.reduceAdd, Int.reduceNeg, Int.reduceAdd, Int.reduceSub, Int.reduceMul, Int.reduceLT, Int.reduceLE, Int.reduceEq, Int.reduceToNat, Nat.reduceBEq, e_sle, e_sge, e_shl1, e_orI, e_andI, e_shr, wrapu, wrap8, tn1, nat1, ix_s, ix_z, st_s, st_z, fl_s, fl_z, fl1_s, fl1_z, map_s, map_z, ix_it, encIt]
        refine cl_ok hnum rfl ?_
        simp (disch := first | omega | (simp only [List.length_take, List.length_drop, List.length_append, List.map_cons, List.map_nil, List.length_map, List.length_cons, List.length_nil, List.length_set, List.length_replicate]; omega) | (simp only [List.length_cons, List.length_nil, Nat.zero_add, Nat.reduceAdd])) only [go_sem, ↓reduceIte, Nat.reduceAdd, Int.reduceNeg, Int.reduceAdd, Int.reduceSub, Int.reduceMul, Int.reduceLT, Int.reduceLE, Int.reduceEq, Int.reduceToNat, Nat.reduceBEq, e_sle, e_sge, e_shl1, e_orI, e_andI, e_shr, wrapu, wrap8, tn1, nat1, ix_s, ix_z, st_s, st_z, fl_s, fl_z, fl1_s, fl1_z, map_s, map_z, true_and]
        by_cases hd : i / n = i % n
        · have e2 : (idL n).getD i default = l2N 1 := by rw [e1]; unfold idF; rw [if_pos hd]
          have hd' : ((i / n : Nat) : Int) = ((i % n : Nat) : Int) := by rw [hd]
          rw [e2]
          repeat' (first | (with_reducible refine jn_in ?_) | (with_reducible refine cl_ok (by assumption) rfl ?_) | (with_reducible refine cl_okP (by assumption) rfl ?_) | (with_reducible refine br_if (fun hbr => ?_) (fun hbr => ?_)) | (with_reducible refine br_ifn (fun hbr => ?_) (fun hbr => ?_)) | (with_reducible refine br_nb (fun hbr => ?_) (fun hbr => ?_)) | (with_reducible refine br_b (fun hbr => ?_) (fun hbr => ?_)) | simp (disch := first | omega | (simp only [List.length_take, List.length_drop, List.length_append, List.map_cons, List.map_nil, List.length_map, List.length_cons, List.length_nil, List.length_set, List.length_replicate]; omega) | (simp only [List.length_cons, List.length_nil, Nat.zero_add, Nat.reduceAdd])) only [go_sem, ↓reduceIte, Nat.reduceAdd, Int.reduceNeg, Int.reduceAdd, Int.reduceSub, Int.reduceMul, Int.reduceLT, Int.reduceLE, Int.reduceEq, Int.reduceToNat, Nat.reduceBEq, e_sle, e_sge, e_shl1, e_orI, e_andI, e_shr, wrapu, wrap8, tn1, nat1, ix_s, ix_z, st_s, st_z, fl_s, fl_z, fl1_s, fl1_z, map_s, map_z, n1, ix_it, encIt, e2, z1, z2, w1, w3, u_laws_FnInverses_j0, nat1])
          all_goals first
            | exact ⟨i + 1, rfl, by omega, by omega⟩
            | exact absurd hd' ‹_›
            | exact absurd ‹((i / n : Nat) : Int) = ((i % n : Nat) : Int)› hd'
        · have e2 : (idL n).getD i default = l2N 0 := by rw [e1]; unfold idF; rw [if_neg hd]
          have hd' : ¬ ((i / n : Nat) : Int) = ((i % n : Nat) : Int) := by omega
          rw [e2]
          repeat' (first | (with_reducible refine jn_in ?_) | (with_reducible refine cl_ok (by assumption) rfl ?_) | (with_reducible refine cl_okP (by assumption) rfl ?_) | (with_reducible refine br_if (fun hbr => ?_) (fun hbr => ?_)) | (with_reducible refine br_ifn (fun hbr => ?_) (fun hbr => ?_)) | (with_reducible refine br_nb (fun hbr => ?_) (fun hbr => ?_)) | (with_reducible refine br_b (fun hbr => ?_) (fun hbr => ?_)) | simp (disch := first | omega | (simp only [List.length_take, List.length_drop, List.length_append, List.map_cons, List.map_nil, List.length_map, List.length_cons, List.length_nil, List.length_set, List.length_replicate]; omega) | (simp only [List.length_cons, List.length_nil, Nat.zero_add, Nat.reduceAdd])) only [go_sem, ↓reduceIte, Nat.reduceAdd, Int.reduceNeg, Int.reduceAdd, Int.reduceSub, Int.reduceMul, Int.reduceLT, Int.reduceLE, Int.reduceEq, Int.reduceToNat, Nat.reduceBEq, e_sle, e_sge, e_shl1, e_orI, e_andI, e_shr, wrapu, wrap8, tn1, nat1, ix_s, ix_z, st_s, st_z, fl_s, fl_z, fl1_s, fl1_z, map_s, map_z, n2, ix_it, encIt, e2, z1, z2, w1, w3, u_laws_FnInverses_j0, nat1])
          all_goals first
            | exact ⟨i + 1, rfl, by omega, by omega⟩
            | exact absurd hd' ‹_›
            | exact absurd ‹((i / n : Nat) : Int) = ((i % n : Nat) : Int)› hd'
      · simp (disch := first | omega | (simp only [List.length_take, List.length_drop, List.length_append, List.map_cons, List.map_nil, List.length_map, List.length_cons, List.length_nil, List.length_set, List.length_replicate]; omega) | (simp only [List.length_cons, List.length_nil, Nat.zero_add, Nat.reduceAdd])) only [go_sem, ↓reduceIte, Nat.reduceAdd, Int.reduceNeg, Int.reduceAdd, Int.reduceSub, Int.reduceMul, Int.reduceLT, Int.reduceLE, Int.reduceEq, Int.reduceToNat, Nat.reduceBEq, e_sle, e_sge, e_shl1, e_orI, e_andI, e_shr, wrapu, wrap8, tn1, nat1, ix_s, ix_z, st_s, st_z, fl_s, fl_z, fl1_s, fl1_z, map_s, map_z, true_and]
        refine br_if (fun hbr => absurd hbr (by omega)) (fun hbr => ?_)
        simp (disch := first | omega | (simp only [List.length_take, List.length_drop, List.length_append, List.map_cons, List.map_nil, List.length_map, List.length_cons, List.length_nil, List.length_set, List.length_replicate]; omega) | (simp only [List.length_cons, List.length_nil, Nat.zero_add, Nat.reduceAdd])) only [go_sem, ↓reduceIte, Nat.reduceAdd, Int.reduceNeg, Int.reduceAdd, Int.reduceSub, Int.reduceMul, Int.reduceLT, Int.reduceLE, Int.reduceEq, Int.reduceToNat, Nat.reduceBEq, e_sle, e_sge, e_shl1, e_orI, e_andI, e_shr, wrapu, wrap8, tn1, nat1, ix_s, ix_z, st_s, st_z, fl_s, fl_z, fl1_s, fl1_z, map_s, map_z, true_and]
        exact ret_b (decide_eq_true (by rw [hil, Int.natCast_mul])).symm
end Go.Proofs.Ytolkglnkdfcceaa

namespace Go.Proofs.Ytolkglnkdfcceaa.fnInverses
open Go.ChangeShapes Go.WideShapes Go.ChangeAt Go.RowKit
open Go.ChangeMaps (open_string shut_string)
theorem own : ownKnob Try.prog.godebug = none := by kernel_rfl
theorem laidOut : laidOutB Try.prog = true := by kernel_rfl
set_option maxRecDepth 100000 in
set_option maxHeartbeats 2000000 in
theorem walk {H : Type} (enc : TypeId × Value → H) (v0 : Value) (d0 : DataW H) (p0 : List MemPlace) (base : Nat) (w : World)
    (ok0 : Value.okWide Try.prog w .any base 22 v0) (h0 : DataW.Trod enc Try.prog w 0 (fun _ => true) true 22 v0 d0 p0)
    (sz : (DataW.weightsEach Try.prog [22] [d0]).all (· ≤ reachBytes) = true) :
    Calls Try.prog 6 #[v0] w fun e w' => e = .returned (.bool true) ∧ Below w.heap.size w w' := by
  obtain ⟨a0, r0, i0⟩ := argD_sl (base := base) opD_U8s Try.underlying22 h0 ok0
  exact run_law (lawInverses_m a0 i0.1) (ArgsR.cons r0 ArgsR.nil)
set_option maxRecDepth 100000 in
theorem lifted (os : Os) (started : os.Started) (H : Type) (enc : TypeId × Value → H) :
    ReturnsInHanded {} Try.checked os 6 .any (Rows.fnInversesSpec.pre6 enc Try.prog Try.f6 Rows.fnInversesRow.domain false) (Rows.fnInversesSpec.post enc Try.prog Try.f6 false true false false) := by
  refine returnsInHanded_of_change_sized (C := Try.checked) own started (by kernel_rfl) Try.func6
    (ChangeSpec.witness6 (enc := enc) (C := Try.checked) false ⟨#[], #[.slice none 0 0], []⟩ 8 (by kernel_rfl) (by kernel_rfl) (by kernel_rfl) (by kernel_rfl)) ?_
  intro W base args ds gs before hval0 hW hcnd0 hsz0 hholds
  have hval : ∀ (j : Nat) t v, Try.f6.params[j]? = some t → args[j]? = some v → Value.okWide Try.prog W .any base t v := hval0
  have hsz : (DataW.weightsEach Try.prog (Try.f6.params.toList ++ Rows.fnInversesSpec.plain.varTypes Try.prog) (ds ++ gs)).all (· ≤ reachBytes) = true := hsz0
  have hW' := hW
  obtain ⟨p, q, hA0, hV, rfl, hfz, hnd⟩ := hW
  have hA : DataW.TrodAll enc Try.prog W 0 (fun _ => true) true Try.f6.params.toList args.toList ds p := hA0
  rw [Try.params6] at hA hval hsz
  obtain ⟨v0, vs0, d0, ds0, p0, q0, hargs, rfl, rfl, h0, r0⟩ := trodAll_cons hA
  obtain ⟨rfl, rfl, rfl⟩ := trodAll_nil r0
  obtain rfl : args = #[v0] := by cases args; simp_all
  obtain ⟨rfl, rfl⟩ := trodVars_none hV
  have lt0 : ∀ x ∈ p0, x.block < W.heap.size := by obtain ⟨m, hm⟩ := h0; exact DataW.trod_lt m _ _ _ hm
  refine (walk enc v0 d0 p0 base W (hval 0 22 v0 rfl rfl) h0 hsz).mono fun e W' ⟨he, bel⟩ => ?_
  subst he
  exact ⟨_, rfl, _, _, _, [], _, [], hW', trodAll_mk1 (shut_bool Try.underlying4 _), (trodAll_cons_mk (Below.trod laidOut (by kernel_rfl) (of_decide_eq_true (by kernel_rfl)) h0 bel lt0) trodAll_mk0), rfl, bel.frame _, fun h => by cases h⟩
theorem over : Rows.fnInversesRow.holds Try.pinned (OpenSpec.ofChange Rows.fnInversesSpec) :=
  OpenClaim.holds_of_wide 6 Try.f6 rfl rfl rfl rfl rfl rfl rfl ⟨rfl, rfl, rfl, rfl, rfl⟩ rfl rfl rfl rfl rfl (by kernel_rfl) Try.func6 (by kernel_rfl)
    (of_decide_eq_true (by kernel_rfl)) (by unfold Func.isWrapper; first | (rw [if_pos (by decide +kernel)]; kernel_rfl) | (rw [if_neg (by decide +kernel)]; exact ⟨rfl, rfl⟩))
    (fun os started H enc _ => lifted os started H enc)
theorem proved : Rows.FnInversesSaid := over
end Go.Proofs.Ytolkglnkdfcceaa.fnInverses

