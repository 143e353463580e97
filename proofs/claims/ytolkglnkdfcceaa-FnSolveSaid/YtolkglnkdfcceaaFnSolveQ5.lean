/- Proved: for every input the law 'FnSolve' returns true and its arguments read behind the call as before: part 5 of its proof. No condition. -/
import Derived.WalkKit
import Derived.Lib.Hide
import Derived.WalkSpells
import Derived.Laws.OwnMore
import Derived.Deep.AppendLies
import Derived.Deep.Draws
import Derived.Maps.AppendAt
import Derived.RegionTactic
import Derived.OwnWalk
import Derived.Below
import Derived.Laws.AppendOwnNone
import Derived.Deep.QuietTactic
import Derived.BigQuiet
import Derived.StillTailTactics
import Derived.Laws.Cells
import Derived.Laws.IdiomCopy
import Derived.ChangeKeysEq
import Derived.Laws.BytesArg
import Derived.Laws.StructEq
import Derived.Laws.Tables
import Derived.Great.BuildSlice
import Derived.StillTail
import Derived.OrdersHeld
import Derived.Test.YtolkglnkdfcceaaProg
import Derived.Deep.Slices
import Derived.Deep.Fields
import Derived.ChangeSame
import Derived.OpenShut
import Derived.Laws.ResultCell
import Derived.Deep.RegionWith
import Derived.Test.YtolkglnkdfcceaaRows
import Derived.ProofKit
import Derived.ShutString
import Derived.ChangeOld
import Derived.SizedLaws
import Derived.Test.YtolkglnkdfcceaaFnSolveQ4
set_option linter.unusedVariables false
set_option linter.unusedSimpArgs false
namespace Go.Proofs.Ytolkglnkdfcceaa
open Go.RowKit
set_option maxRecDepth 100000

def u_impl_reduce_h : List Hint := [⟨3000027, 2, ⟨[(17, .p false [.d 66]), (138, .p false [.d 64]), (16, .p false [.ptr 6 6 0]), (124, .p false [.d 55]), (15, .p false [.d 40]), (103, .p false [.d 41]), (14, .p false [.d 42]), (13, .p false [.ptr 5 5 0]), (63, .p false [.d 43]), (10, .p false [.d 44]), (59, .p false [.d 45]), (53, .p false [.d 46]), (9, .p false [.d 47]), (8, .p false [.d 48]), (36, .p false [.d 49]), (6, .p false [.own 4 4]), (7, .p false [.d 15]), (5, .p false [.ptr 3 3 0]), (4, .p false [.d 5]), (3, .p false [.nil]), (2, .p false [.ptr 1 1 0]), (1, .p false [.ptr 0 0 0]), (0, .p true [.d 0, .d 1, .d 2])], [(0, .var 0 28 [.d 0, .d 1, .d 2]), (1, .var 1 28 [.d 3, .d 4, .nil]), (3, .var 3 28 [.d 0, .d 1, .own 2 2]), (2, .row 2 33 3 67), (4, .row 4 67 5 51), (5, .var 5 33 [.d 52, .d 53, .d 54]), (6, .var 6 33 [.d 56, .d 57, .d 58])], 7, 7, 68, [(64, false), (62, false), (55, true), (5, false)]⟩, []⟩, ⟨2000009, 5, ⟨[(138, .p false [.d 56]), (16, .p false [.ptr 6 6 0]), (124, .p false [.d 55]), (15, .p false [.d 40]), (103, .p false [.d 41]), (14, .p false [.d 42]), (13, .p false [.ptr 5 5 0]), (63, .p false [.d 43]), (10, .p false [.d 44]), (59, .p false [.d 45]), (53, .p false [.d 46]), (9, .p false [.d 47]), (8, .p false [.d 48]), (36, .p false [.d 49]), (6, .p false [.own 4 4]), (7, .p false [.d 15]), (5, .p false [.ptr 3 3 0]), (4, .p false [.d 5]), (3, .p false [.nil]), (2, .p false [.ptr 1 1 0]), (1, .p false [.ptr 0 0 0]), (0, .p true [.d 0, .d 1, .d 2])], [(0, .var 0 28 [.d 0, .d 1, .d 2]), (1, .var 1 28 [.d 3, .d 4, .nil]), (3, .var 3 28 [.d 0, .d 1, .own 2 2]), (2, .row 2 33 3 57), (4, .row 4 67 5 51), (5, .var 5 33 [.d 52, .d 53, .d 54]), (6, .var 6 33 [.d 58, .d 59, .d 60])], 7, 7, 61, [(55, true), (5, false)]⟩, []⟩, ⟨3000022, 15, ⟨[(15, .p false [.d 40]), (103, .p false [.d 41]), (14, .p false [.d 42]), (13, .p false [.ptr 5 5 0]), (63, .p false [.d 43]), (10, .p false [.d 44]), (59, .p false [.d 45]), (53, .p false [.d 46]), (9, .p false [.d 47]), (8, .p false [.d 48]), (36, .p false [.d 49]), (6, .p false [.own 4 4]), (7, .p false [.d 15]), (5, .p false [.ptr 3 3 0]), (4, .p false [.d 5]), (3, .p false [.nil]), (2, .p false [.ptr 1 1 0]), (1, .p false [.ptr 0 0 0]), (0, .p true [.d 0, .d 1, .d 2])], [(0, .var 0 28 [.d 0, .d 1, .d 2]), (1, .var 1 28 [.d 3, .d 4, .nil]), (3, .var 3 28 [.d 0, .d 1, .own 2 2]), (2, .row 2 33 3 50), (4, .row 4 67 5 51), (5, .var 5 33 [.d 52, .d 53, .d 54])], 6, 6, 55, [(5, false)]⟩, []⟩, ⟨3000018, 2, ⟨[(14, .p false [.d 36]), (13, .p false [.ptr 5 5 0]), (63, .p false [.d 28]), (10, .p false [.d 26]), (59, .p false [.d 24]), (53, .p false [.d 22]), (9, .p false [.d 23]), (8, .p false [.d 21]), (36, .p false [.d 20]), (6, .p false [.own 4 4]), (7, .p false [.d 15]), (5, .p false [.ptr 3 3 0]), (4, .p false [.d 5]), (3, .p false [.nil]), (2, .p false [.ptr 1 1 0]), (1, .p false [.ptr 0 0 0]), (0, .p true [.d 0, .d 1, .d 2])], [(0, .var 0 28 [.d 0, .d 1, .d 2]), (1, .var 1 28 [.d 3, .d 4, .nil]), (3, .var 3 28 [.d 0, .d 1, .own 2 2]), (2, .row 2 33 3 37), (4, .row 4 67 5 17), (5, .var 5 33 [.d 29, .d 30, .d 31])], 6, 6, 38, [(28, false), (24, false), (20, true), (18, true), (5, false)]⟩, []⟩, ⟨3000012, 2, ⟨[(10, .p false [.d 26]), (59, .p false [.d 24]), (53, .p false [.d 22]), (9, .p false [.d 23]), (8, .p false [.d 21]), (36, .p false [.d 20]), (6, .p false [.own 4 4]), (7, .p false [.d 15]), (5, .p false [.ptr 3 3 0]), (4, .p false [.d 5]), (3, .p false [.nil]), (2, .p false [.ptr 1 1 0]), (1, .p false [.ptr 0 0 0]), (0, .p true [.d 0, .d 1, .d 2])], [(0, .var 0 28 [.d 0, .d 1, .d 2]), (1, .var 1 28 [.d 3, .d 4, .nil]), (3, .var 3 28 [.d 0, .d 1, .own 2 2]), (2, .row 2 33 3 27), (4, .row 4 67 5 17)], 5, 5, 28, [(24, false), (20, true), (18, true), (5, false)]⟩, []⟩, ⟨2000001, 7, ⟨[(59, .p false [.d 21]), (53, .p false [.d 22]), (9, .p false [.d 23]), (8, .p false [.d 24]), (36, .p false [.d 25]), (6, .p false [.own 4 4]), (7, .p false [.d 15]), (5, .p false [.ptr 3 3 0]), (4, .p false [.d 5]), (3, .p false [.nil]), (2, .p false [.ptr 1 1 0]), (1, .p false [.ptr 0 0 0]), (0, .p true [.d 0, .d 1, .d 2])], [(0, .var 0 28 [.d 0, .d 1, .d 2]), (1, .var 1 28 [.d 3, .d 4, .nil]), (3, .var 3 28 [.d 0, .d 1, .own 2 2]), (2, .row 2 33 3 26), (4, .row 4 67 5 27)], 5, 5, 28, [(5, false)]⟩, [⟨true, 6, 0, 67, 5⟩]⟩, ⟨2000002, 2, ⟨[(53, .p false [.d 22]), (9, .p false [.d 23]), (8, .p false [.d 21]), (36, .p false [.d 20]), (6, .p false [.own 4 4]), (7, .p false [.d 15]), (5, .p false [.ptr 3 3 0]), (4, .p false [.d 5]), (3, .p false [.nil]), (2, .p false [.ptr 1 1 0]), (1, .p false [.ptr 0 0 0]), (0, .p true [.d 0, .d 1, .d 2])], [(0, .var 0 28 [.d 0, .d 1, .d 2]), (1, .var 1 28 [.d 3, .d 4, .nil]), (3, .var 3 28 [.d 0, .d 1, .own 2 2]), (2, .row 2 33 3 16), (4, .row 4 67 5 17)], 5, 5, 24, [(20, true), (18, true), (5, false)]⟩, []⟩, ⟨3000008, 1, ⟨[(9, .p false [.d 22]), (8, .p false [.d 21]), (36, .p false [.d 20]), (6, .p false [.own 4 4]), (7, .p false [.d 15]), (5, .p false [.ptr 3 3 0]), (4, .p false [.d 5]), (3, .p false [.nil]), (2, .p false [.ptr 1 1 0]), (1, .p false [.ptr 0 0 0]), (0, .p true [.d 0, .d 1, .d 2])], [(0, .var 0 28 [.d 0, .d 1, .d 2]), (1, .var 1 28 [.d 3, .d 4, .nil]), (3, .var 3 28 [.d 0, .d 1, .own 2 2]), (2, .row 2 33 3 16), (4, .row 4 67 5 17)], 5, 5, 23, [(20, true), (18, true), (5, false)]⟩, []⟩, ⟨3000004, 3, ⟨[(6, .p false [.own 4 4]), (7, .p false [.d 15]), (5, .p false [.ptr 3 3 0]), (4, .p false [.d 5]), (3, .p false [.nil]), (2, .p false [.ptr 1 1 0]), (1, .p false [.ptr 0 0 0]), (0, .p true [.d 0, .d 1, .d 2])], [(0, .var 0 28 [.d 0, .d 1, .d 2]), (1, .var 1 28 [.d 3, .d 4, .nil]), (3, .var 3 28 [.d 0, .d 1, .own 2 2]), (2, .row 2 33 3 16), (4, .row 4 67 5 17)], 5, 5, 18, [(5, false)]⟩, [⟨true, 6, 0, 67, 5⟩]⟩]
def u_impl_reduce_d : List (Nat × Nat × Bool × List Nat) := [(29, 20, false, []), (20, 15, false, []), (15, 17, false, [3, 4, 5]), (14, 14, false, []), (1, 9, false, [])]
def u_impl_reduce_l0 : UP := .po (.bin .lss false 0 7) <| .ite 0 (.sel [1, 5, 6, 7, 8] <| .cl 44 [(true, [4, 3, 1]), (false, [0]), (false, [2])] [(true, [none, none, none], true)] <| .po (.k (.int .i64 0)) <| .po (.bin .eql false 3 0) <| .ite 0 (.po (.k (.int .i64 1)) <| .po (.bin .add false 6 0) <| .jump 3 [0]) <| .jump 2 [0, 5]) <| .po (.k (.bool false)) <| .jump 2 [0, 2]
def u_impl_reduce_l1 : UP := .po (.bin .lss false 1 10) <| .ite 0 (.po (.sc 11) <| .po (.bin .mul false 10 11) <| .po (.sc 0) <| .po (.bin .add false 0 3) <| .po (.sc 0) <| .po (.sc 14) <| .po (.sc 13) <| .sel [0, 3, 4, 7, 8, 9, 11, 12, 13, 14] <| .cl 44 [(true, [9, 8, 1]), (false, [7]), (false, [2])] [(true, [none, none, none], true)] <| .po (.sc 8) <| .po (.sc 7) <| .po (.sc 6) <| .po (.sc 12) <| .po (.sc 11) <| .cl 44 [(true, [12, 11, 4]), (false, [9]), (false, [5])] [(true, [none, none, none], true)] <| .sel [0, 1, 2, 3, 4, 5, 6, 7, 8, 9, 10, 11] <| .cl 43 [(true, [11, 10, 9]), (true, [2, 1, 0])] [(true, [none, none, none], true)] <| .sel [0, 1, 2, 6, 7, 8, 9, 10, 11] <| .cl 68 [(true, [5, 4, 3]), (true, [2, 1, 0])] [(true, [none, none, none], true)] <| .po (.isI 9) <| .po (.chk 3 10 9) <| .po (.sc 2) <| .po (.sc 1) <| .po (.sc 0) <| .po (.set 3 10 9 0 [2, 1, 0]) <| .po (.k (.int .i64 1)) <| .po (.bin .add false 13 0) <| .jump 6 [0, 2]) <| .jump 5 [4, 1, 7, 6, 5]
def u_impl_reduce_j2 : UP := .po (.k (.int .i64 1)) <| .po (.bin .add false 20 0) <| .jump 4 [0, 20, 19, 18, 17, 16, 15, 14, 13, 12, 5, 10, 9, 8, 7]
def u_impl_reduce_l3 : UP := .po (.bin .lss false 14 34) <| .ite 0 (.sel [1, 2, 3, 4, 5, 6, 7, 8, 9, 10, 11, 12, 13, 14, 15, 33, 34, 35] <| .join 5 u_impl_reduce_j2 <| .sel [4, 6, 14, 15, 16, 17] <| .cl 44 [(true, [5, 4, 0]), (false, [2]), (false, [3])] [(true, [none, none, none], true)] <| .po (.k (.int .i64 0)) <| .po (.k (.int .i64 0)) <| .po (.k (.string ⟨#[]⟩)) <| .po (.bin .eql false 8 7) <| .ite 0 (.po (.k (.bool true)) <| .jump 5 [0, 8, 7, 6, 5]) <| .po (.k (.int .i64 0)) <| .po (.bin .eql false 7 0) <| .ite 0 (.jump 5 [0, 9, 8, 7, 6]) <| .po (.k (.int .i64 0)) <| .sel [0, 1, 7, 8, 9, 10, 11, 12, 14, 15] <| .loop [0, 5] u_impl_reduce_l1) <| .po (.bin .neq false 8 7) <| .po (.k (.int .i64 0)) <| .po (.k (.int .i64 0)) <| .po (.k (.int .i64 0)) <| .po (.k (.string ⟨#[]⟩)) <| .po (.k (.bool false)) <| .po (.sc 39) <| .po (.sc 9) <| .po (.sc 8) <| .po (.sc 7) <| .po (.sc 5) <| .po (.mk 67 5 [[39, 9, 8, 7, 5]]) <| .po (.flat 0) <| .po (.app 67 5 48 11 0) <| .sel [0, 13, 14, 15, 16, 17, 18] <| .cl 62 [(false, [1])] [(false, [none], true)] <| .po (.un .not 0) <| .ite 0 (.po (.k (.int .i64 0)) <| .po (.k (.int .i64 0)) <| .po (.k (.bool false)) <| .po (.sc 2) <| .po (.sc 1) <| .po (.e 33 3) <| .po (.e 67 5) <| .po (.sc 2) <| .ret [(true, [4, 3, 1]), (false, [0]), (false, [2])]) <| .jump 1 [8, 7, 6, 5, 4, 3, 2]
def u_impl_reduce_l4 : UP := .po (.bin .lss false 1 16) <| .ite 0 (.po (.sc 17) <| .po (.bin .mul false 13 17) <| .po (.sc 0) <| .po (.bin .add false 0 3) <| .po (.sc 0) <| .po (.sc 20) <| .po (.sc 19) <| .sel [0, 3, 4, 6, 7, 8, 15, 19, 20] <| .cl 44 [(true, [8, 7, 1]), (false, [6]), (false, [2])] [(true, [none, none, none], true)] <| .po (.sc 8) <| .po (.sc 7) <| .po (.sc 6) <| .cl 67 [(true, [2, 1, 0]), (true, [8, 7, 6])] [(true, [none, none, none], true)] <| .po (.isI 6) <| .po (.chk 3 7 6) <| .po (.sc 2) <| .po (.sc 1) <| .po (.sc 0) <| .po (.set 3 7 6 0 [2, 1, 0]) <| .po (.k (.int .i64 1)) <| .po (.bin .add false 10 0) <| .jump 3 [0, 2]) <| .po (.k (.int .i64 0)) <| .loop [0, 1, 3, 8, 10, 11, 13, 12, 14, 15, 2, 16, 7, 6, 5] u_impl_reduce_l3
def u_impl_reduce_l5 : UP := .po (.bin .lss false 1 11) <| .ite 0 (.po (.sc 12) <| .po (.bin .mul false 7 12) <| .po (.sc 0) <| .po (.bin .add false 0 3) <| .po (.sc 0) <| .po (.sc 14) <| .po (.bin .mul false 7 14) <| .po (.sc 0) <| .po (.bin .add false 0 5) <| .po (.sc 0) <| .po (.sc 2) <| .po (.sc 0) <| .po (.isI 0) <| .po (.chk 3 5 0) <| .po (.idx 3 5 0) <| .po (.isI 5) <| .po (.chk 3 8 5) <| .po (.idx 3 8 5) <| .po (.isI 8) <| .po (.chk 3 11 8) <| .po (.sc 5) <| .po (.sc 4) <| .po (.sc 3) <| .po (.set 3 11 8 0 [5, 4, 3]) <| .po (.isI 7) <| .po (.chk 3 0 7) <| .po (.sc 3) <| .po (.sc 2) <| .po (.sc 1) <| .po (.set 3 0 7 0 [3, 2, 1]) <| .po (.k (.int .i64 1)) <| .po (.bin .add false 15 0) <| .jump 2 [0, 2]) <| .cl 44 [(true, [13, 12, 1]), (false, [7]), (false, [11])] [(true, [none, none, none], true)] <| .po (.k (.int .i64 0)) <| .po (.k (.int .i64 0)) <| .po (.k (.string ⟨#[]⟩)) <| .po (.k (.int .i64 0)) <| .sel [0, 4, 5, 6, 7, 8, 9, 11, 12, 13, 14, 15, 16, 18, 19, 20] <| .loop [0, 5] u_impl_reduce_l4
def u_impl_reduce_j6 : UP := .po (.bin .eql false 0 8) <| .ite 0 (.jump 1 [0, 2, 1, 3, 4, 6, 5]) <| .po (.k (.int .i64 0)) <| .loop [0, 7] u_impl_reduce_l5
def u_impl_reduce_j7 : UP := .po (.k (.int .i64 1)) <| .po (.bin .add false 11 0) <| .jump 0 [0, 3, 2]
def u_impl_reduce_l8 : UP := .po (.bin .lss false 2 6) <| .ite 0 (.po (.lenL 1) <| .po (.bin .lss false 0 9) <| .ite 0 (.sel [0, 3, 4, 5, 9, 10] <| .join 7 u_impl_reduce_j7 <| .po (.lenL 1) <| .join 2 u_impl_reduce_j6 <| .loop [0] u_impl_reduce_l0) <| .po (.k (.bool true)) <| .po (.sc 11) <| .po (.sc 10) <| .po (.sc 0) <| .ret [(true, [11, 10, 5]), (false, [4]), (false, [0])]) <| .po (.k (.bool false)) <| .po (.k (.bool true)) <| .po (.sc 10) <| .po (.sc 9) <| .po (.sc 0) <| .ret [(true, [10, 9, 4]), (false, [3]), (false, [0])]
def u_impl_reduce_u : UP := .po (.k (.int .i64 0)) <| .po (.k (.int .i64 0)) <| .po (.k (.bool false)) <| .po (.sc 5) <| .po (.sc 4) <| .cl 66 [(false, [3])] [(false, [some (33, 3)], true)] <| .po (.k (.int .i64 0)) <| .po (.k (.int .i64 0)) <| .po (.k (.int .i64 0)) <| .po (.k (.int .i64 0)) <| .po (.k (.int .i64 0)) <| .po (.k (.int .i64 0)) <| .po (.k (.int .i64 0)) <| .po (.e 67 5) <| .sel [0, 1, 8, 13, 14] <| .loop [1, 2, 0] u_impl_reduce_l8
theorem u_impl_reduce_g : toUPf Try.prog 50 Try.f50 owA u_impl_reduce_h u_impl_reduce_d = some ([(true, 3)], u_impl_reduce_u) := by kernel_rfl
end Go.Proofs.Ytolkglnkdfcceaa

namespace Go.Proofs.Ytolkglnkdfcceaa
open Go.RowKit

def celF (W : Nat) (l : List It) (i j : Nat) : It := l.getD (i * W + j) default
def fup (f : Nat → Nat → It) (i k : Nat) (x : It) : Nat → Nat → It := fun a b => if a = i ∧ b = k then x else f a b
theorem grid_getD {W R i k : Nat} (f : Nat → Nat → It) (hi : i < R) (hk : k < W) : (gridL W f (R * W)).getD (i * W + k) default = f i k := by
  rw [List.getD_eq_getElem?_getD, gridL_get f hk (grid_lt hi hk)]; rfl
theorem grid_set {W R i k : Nat} (f : Nat → Nat → It) (x : It) (hi : i < R) (hk : k < W) : (gridL W f (R * W)).set (i * W + k) x = gridL W (fup f i k x) (R * W) := by
  apply List.ext_getElem?
  intro t
  rw [List.getElem?_set]
  have hlt := grid_lt hi hk
  obtain ⟨g1, g2⟩ := grid_ix (i := i) hk
  by_cases h : i * W + k = t
  · subst h
    rw [if_pos rfl, gridL_len, if_pos hlt, gridL_get _ hk hlt]
    simp [fup]
  · rw [if_neg h]
    unfold gridL
    rw [List.getElem?_map, List.getElem?_map]
    cases ht : (List.range (R * W))[t]? with
    | none => rfl
    | some u =>
      have hu : u = t := by
        have := List.getElem?_eq_some_iff.1 ht
        obtain ⟨_, e⟩ := this
        simpa using e.symm
      subst hu
      simp only [Option.map_some, fup]
      rw [if_neg]
      rintro ⟨e1, e2⟩
      apply h
      have := Nat.div_add_mod u W
      rw [e1, e2, Nat.mul_comm] at this
      exact this
theorem grid_of {W R : Nat} {l : List It} (hl : l.length = R * W) : l = gridL W (celF W l) (R * W) := by
  apply List.ext_getElem?
  intro t
  unfold gridL celF
  rw [List.getElem?_map]
  by_cases h : t < R * W
  · rw [List.getElem?_range h, List.getElem?_eq_getElem (by omega)]
    simp only [Option.map_some]
    have e : t / W * W + t % W = t := by rw [Nat.mul_comm]; exact Nat.div_add_mod t W
    rw [e, List.getD_eq_getElem?_getD, List.getElem?_eq_getElem (by omega)]; rfl
  · rw [List.getElem?_eq_none (by omega), List.getElem?_eq_none (by simp; omega)]; rfl

def nz (f : Nat → Nat → It) (c R r : Nat) : Nat := ((List.range R).find? fun i => decide (r ≤ i) && !decide ((f i c).num = 0)).getD R
theorem nz_is {f : Nat → Nat → It} {c R r k : Nat} (hk : k ≤ R) (hr : r ≤ k) (h1 : ∀ i, r ≤ i → i < k → (f i c).num = 0) (h2 : k = R ∨ (f k c).num ≠ 0) : nz f c R r = k := by
  unfold nz
  rcases Nat.lt_or_ge k R with h | h
  · have h3 : (f k c).num ≠ 0 := by rcases h2 with h2 | h2
                                    · omega
                                    · exact h2
    have : (List.range R).find? (fun i => decide (r ≤ i) && !decide ((f i c).num = 0)) = some k := by
      rw [List.find?_range_eq_some]
      refine ⟨by simp [hr, h3], List.mem_range.2 h, fun j hj => ?_⟩
      by_cases hrj : r ≤ j
      · simp [h1 j hrj hj]
      · simp [hrj]
    rw [this]; rfl
  · have : (List.range R).find? (fun i => decide (r ≤ i) && !decide ((f i c).num = 0)) = none := by
      rw [List.find?_range_eq_none]
      intro j hj
      by_cases hrj : r ≤ j
      · simp [h1 j hrj (by omega)]
      · simp [hrj]
    rw [this]
    show R = k
    omega

def swapJ (r k : Nat) (f : Nat → Nat → It) (J : Nat) : Nat → Nat → It := fun a b => if b < J then (if a = r then f k b else if a = k then f r b else f a b) else f a b
def divJ (r : Nat) (p : It) (g : Nat → Nat → It) (J : Nat) : Nat → Nat → It := fun a b => if b < J ∧ a = r then divN (g a b) p else g a b
def sdJ (r k : Nat) (p : It) (f : Nat → Nat → It) (J : Nat) : Nat → Nat → It := fun a b => if b < J then (if a = r then divN (f k b) p else if a = k then f r b else f a b) else f a b
def elJ (r c W : Nat) (g : Nat → Nat → It) (i J : Nat) : Nat → Nat → It := fun a b => if (a < i ∧ b < W ∨ a = i ∧ b < J) ∧ a ≠ r ∧ (g a c).num ≠ 0 then subN (g a b) (mulN (g a c) (g r b)) else g a b
variable {r k c W i j : Nat} {f g : Nat → Nat → It} {p : It}
theorem swapJ_0 : swapJ r k f 0 = f := by funext a b; simp [swapJ]
theorem swapJ_at {a : Nat} : swapJ r k f j a j = f a j := by simp [swapJ]
theorem swapJ_r (h : j < W) : swapJ r k f W r j = f k j := by simp [swapJ, h]
theorem swapJ_step : fup (fup (swapJ r k f j) r j (f k j)) k j (f r j) = swapJ r k f (j + 1) := by
  funext a b
  unfold fup swapJ
  rcases Nat.lt_trichotomy b j with h | h | h
  · simp [show b ≠ j by omega, show b < j by omega, show b < j + 1 by omega]
  · subst h
    by_cases h1 : a = k
    · subst h1; by_cases h2 : a = r <;> simp [h2]
    · by_cases h2 : a = r
      · subst h2; simp [h1]
      · simp [h1, h2]
  · simp [show b ≠ j by omega, show ¬ b < j by omega, show ¬ b < j + 1 by omega]
theorem divJ_0 : divJ r p g 0 = g := by funext a b; simp [divJ]
theorem divJ_at {a : Nat} : divJ r p g j a j = g a j := by simp [divJ]
theorem divJ_step : fup (divJ r p g j) r j (divN (g r j) p) = divJ r p g (j + 1) := by
  funext a b
  unfold fup divJ
  rcases Nat.lt_trichotomy b j with h | h | h
  · simp [show b ≠ j by omega, show b < j by omega, show b < j + 1 by omega]
  · subst h; by_cases h2 : a = r <;> simp [h2]
  · simp [show b ≠ j by omega, show ¬ b < j by omega, show ¬ b < j + 1 by omega]
theorem div_swap : divJ r p (swapJ r k f W) W = sdJ r k p f W := by
  funext a b
  unfold divJ swapJ sdJ
  by_cases h : b < W
  · by_cases h2 : a = r <;> simp [h, h2]
  · simp [h]
theorem sdJ_0 : sdJ r k p f 0 = f := by funext a b; simp [sdJ]
theorem sdJ_at {a : Nat} : sdJ r k p f j a j = f a j := by simp [sdJ]
theorem sdJ_step : fup (fup (sdJ r k p f j) k j (f r j)) r j (divN (f k j) p) = sdJ r k p f (j + 1) := by
  funext a b
  unfold fup sdJ
  rcases Nat.lt_trichotomy b j with h | h | h
  · simp [show b ≠ j by omega, show b < j by omega, show b < j + 1 by omega]
  · subst h
    by_cases h1 : a = r
    · subst h1; simp
    · by_cases h2 : a = k <;> simp [h1, h2]
  · simp [show b ≠ j by omega, show ¬ b < j by omega, show ¬ b < j + 1 by omega]
theorem elJ_0 : elJ r c W g 0 0 = g := by funext a b; simp [elJ]
theorem elJ_at : elJ r c W g i j i j = g i j := by simp [elJ]
theorem elJ_c (hc : c < W) : elJ r c W g i 0 i c = g i c := by simp [elJ]
theorem elJ_r {b : Nat} : elJ r c W g i j r b = g r b := by simp [elJ]
theorem elJ_W : elJ r c W g i W = elJ r c W g (i + 1) 0 := by
  funext a b
  unfold elJ
  have : (a < i ∧ b < W ∨ a = i ∧ b < W) ↔ (a < i + 1 ∧ b < W ∨ a = i + 1 ∧ b < 0) := by omega
  simp only [this]
theorem elJ_skip (h : i = r ∨ (g i c).num = 0) : elJ r c W g i 0 = elJ r c W g (i + 1) 0 := by
  funext a b
  unfold elJ
  by_cases ha : a = i
  · subst ha
    rcases h with h | h
    · simp [h]
    · simp [h]
  · have : (a < i ∧ b < W ∨ a = i ∧ b < 0) ↔ (a < i + 1 ∧ b < W ∨ a = i + 1 ∧ b < 0) := by omega
    simp only [this]
theorem elJ_step (h1 : i ≠ r) (h2 : (g i c).num ≠ 0) (hj : j < W) : fup (elJ r c W g i j) i j (subN (g i j) (mulN (g i c) (g r j))) = elJ r c W g i (j + 1) := by
  funext a b
  unfold fup elJ
  by_cases ha : a = i
  · subst ha
    rcases Nat.lt_trichotomy b j with h | h | h
    · simp [h1, h2, show b ≠ j by omega, show b < j by omega, show b < j + 1 by omega]
    · subst h; simp [h1, h2]
    · simp [h1, h2, show b ≠ j by omega, show ¬ b < j by omega, show ¬ b < j + 1 by omega]
  · simp [ha]
def stepF (W R r k c : Nat) (f : Nat → Nat → It) : Nat → Nat → It := elJ r c W (sdJ r k (f k c) f W) R 0

abbrev Stp := Nat × It × Bool
def red1 (W R c : Nat) (f : Nat → Nat → It) (st : List Stp) : Option ((Nat → Nat → It) × List Stp) :=
  if R ≤ st.length then some (f, st) else if nz f c R st.length = R then some (f, st)
  else if allN (gridL W (stepF W R st.length (nz f c R st.length) c f) (R * W)) = true then some (stepF W R st.length (nz f c R st.length) c f, st ++ [(c, f (nz f c R st.length) c, decide (nz f c R st.length ≠ st.length))]) else none
def redS (W R : Nat) (f0 : Nat → Nat → It) : Nat → Option ((Nat → Nat → It) × List Stp)
  | 0 => some (f0, [])
  | c + 1 => match redS W R f0 c with
    | none => none
    | some (f, st) => red1 W R c f st
theorem redS_step {W R : Nat} {f0 f : Nat → Nat → It} {st : List Stp} {c : Nat} (h : redS W R f0 c = some (f, st)) : redS W R f0 (c + 1) = red1 W R c f st := by simp only [redS, h]
theorem redS_none {W R : Nat} {f0 : Nat → Nat → It} {c : Nat} (h : redS W R f0 c = none) : ∀ {d}, c ≤ d → redS W R f0 d = none := by
  intro d hd
  induction d with
  | zero => obtain rfl : c = 0 := by omega
            exact h
  | succ d ih =>
    rcases Nat.lt_or_ge d c with h1 | h1
    · obtain rfl : c = d + 1 := by omega
      exact h
    · simp only [redS, ih h1]
theorem redS_idle {W R : Nat} {f0 f : Nat → Nat → It} {st : List Stp} {c : Nat} (h : redS W R f0 c = some (f, st)) (hs : R ≤ st.length) : ∀ {d}, c ≤ d → redS W R f0 d = some (f, st) := by
  intro d hd
  induction d with
  | zero => obtain rfl : c = 0 := by omega
            exact h
  | succ d ih =>
    rcases Nat.lt_or_ge d c with h1 | h1
    · obtain rfl : c = d + 1 := by omega
      exact h
    · rw [redS_step (ih h1)]; unfold red1; rw [if_pos hs]
theorem redS_len {W R : Nat} {f0 : Nat → Nat → It} : ∀ {c : Nat} {f : Nat → Nat → It} {st : List Stp}, redS W R f0 c = some (f, st) → st.length ≤ c ∧ st.length ≤ R
  | 0, f, st, h => by simp only [redS] at h; injection h with h; injection h with _ h; subst h; simp
  | c + 1, f, st, h => by
    simp only [redS] at h
    split at h
    · cases h
    · rename_i g s1 h1
      obtain ⟨i1, i2⟩ := redS_len h1
      unfold red1 at h
      split at h
      · injection h with h; injection h with _ h; subst h; omega
      · split at h
        · injection h with h; injection h with _ h; subst h; omega
        · split at h
          · injection h with h; injection h with _ h; subst h; simp; omega
          · cases h
end Go.Proofs.Ytolkglnkdfcceaa

namespace Go.Proofs.Ytolkglnkdfcceaa
open Go.RowKit
set_option maxRecDepth 100000

def encSt (x : Stp) : List DV := [.sc (.int .i64 (x.1 : Nat)), .sc (.int .i64 x.2.1.num), .sc (.int .i64 x.2.1.den), .sc (.string x.2.1.text), .sc (.bool x.2.2)]
def encSts (l : List Stp) : DV := .sl 67 5 (l.map encSt)
def resI (W R : Nat) : Option ((Nat → Nat → It) × List Stp) → List Rs
  | none => [(true, encMt ⟨0, 0, []⟩, true), (false, [encSts []], true), (false, [.sc (.bool false)], true)]
  | some (f, st) => [(true, encMt ⟨R, W, gridL W f (R * W)⟩, true), (false, [encSts st], true), (false, [.sc (.bool true)], true)]
theorem cellAt_g {W R i j : Nat} {r : Int} (f : Nat → Nat → It) (hi : i < R) (hj : j < W) (hR : R ≤ 100) (hW : W ≤ 100) :
    Meets Try.prog 44 [(true, encMt ⟨r, W, gridL W f (R * W)⟩), (false, [.sc (.int .i64 (i : Nat))]), (false, [.sc (.int .i64 (j : Nat))])] [(true, encIt (f i j), true)] := by
  have h1 := grid_lt hi hj
  have h2 : R * W ≤ 100 * 100 := Nat.mul_le_mul hR hW
  exact cellAt_m r W i j _ _ (gridL_get f hj h1) (by omega)

theorem nm (a b : Nat) : (a : Int) * (b : Int) = ((a * b : Nat) : Int) := rfl
theorem na (a b : Nat) : (a : Int) + (b : Int) = ((a + b : Nat) : Int) := rfl
theorem fl1_st {t : Nat} {a b c : Int} {d : ByteArray} {e : Bool} : eFlat (some (.sl t 5 [[.sc (.int .i64 a), .sc (.int .i64 b), .sc (.int .i64 c), .sc (.string d), .sc (.bool e)]])) = some [] := rfl
section
variable {W R i k t : Nat} {f : Nat → Nat → It} {kd : IntKind} {x : It}
theorem ix_g (hi : i < R) (hk : k < W) : eIdx 3 (some (.sl t 3 ((gridL W f (R * W)).map encIt))) (some (.sc (.int kd ((i * W + k : Nat) : Int)))) = some (encIt (f i k)) := by
  have := grid_lt hi hk
  rw [ix_it (by omega) (by rw [gridL_len]; omega), Int.toNat_natCast, grid_getD f hi hk]
theorem chk_g (hi : i < R) (hk : k < W) : eChk 3 (some (.sl t 3 ((gridL W f (R * W)).map encIt))) (some (.sc (.int kd ((i * W + k : Nat) : Int)))) = some [] := by
  have := grid_lt hi hk
  exact e_chk_map (by omega) (by rw [gridL_len]; omega)
theorem st_g (hi : i < R) (hk : k < W) : eSet 3 0 (some (.sl t 3 ((gridL W f (R * W)).map encIt))) (some (.sc (.int kd ((i * W + k : Nat) : Int)))) (some [.sc (.int .i64 x.num), .sc (.int .i64 x.den), .sc (.string x.text)]) = some [.sl t 3 ((gridL W (fup f i k x) (R * W)).map encIt)] := by
  have := grid_lt hi hk
  rw [st_it (by omega) (by rw [gridL_len]; omega) rfl, Int.toNat_natCast, ← grid_set f x hi hk, List.map_set]; rfl
end
def Jst (W R c : Nat) (f0 : Nat → Nat → It) (vs : List DV) : Prop := ∃ x0 x1 x2 x3 x4 f' st', vs = [x0, x1, x2, x3, x4, .sl 33 3 ((gridL W f' (R * W)).map encIt), .sl 67 5 (st'.map encSt)] ∧ redS W R f0 (c + 1) = some (f', st')
def Jnz (R c r : Nat) (f : Nat → Nat → It) (vs : List DV) : Prop := ∃ x0, vs = [x0, .sc (.int .i64 (nz f c R r : Nat))] ∧ r ≤ nz f c R r ∧ nz f c R r ≤ R

set_option maxHeartbeats 8000000 in
theorem implRed_m (R W : Nat) (f0 : Nat → Nat → It) (hR : R ≤ 100) (hW : W ≤ 100) :
    Meets Try.prog 50 [(true, encMt ⟨R, W, gridL W f0 (R * W)⟩)] (resI W R (redS W R f0 W)) := by
  have hRW : R * W ≤ 100 * 100 := Nat.mul_le_mul hR hW
  have hcp := copyItems_m (gridL W f0 (R * W)) (by rw [gridL_len]; omega)
  refine meets_upf Try.func50 u_impl_reduce_g rfl ?_; simp only [u_impl_reduce_u]
  simp only [encMt, encIts] at hcp ⊢
  simp (disch := first | omega | (simp only [List.length_take, List.length_drop, List.length_append, List.map_cons, List.map_nil, List.length_map, List.length_cons, List.length_nil, List.length_set, List.length_replicate]; omega) | (simp only [List.length_cons, List.length_nil, Nat.zero_add, Nat.reduceAdd])) only [go_sem, ↓reduceIte, Nat.reduceAdd, Int.reduceNeg, Int.reduceAdd, Int.reduceSub, Int.reduceMul, Int.reduceLT, Int.reduceLE, Int.reduceEq, Int.reduceToNat, Nat.reduceBEq, true_and]
  refine cl_ok hcp rfl ?_
  simp (disch := first | omega | (simp only [List.length_take, List.length_drop, List.length_append, List.map_cons, List.map_nil, List.length_map, List.length_cons, List.length_nil, List.length_set, List.length_replicate]; omega) | (simp only [List.length_cons, List.length_nil, Nat.zero_add, Nat.reduceAdd])) only [go_sem, ↓reduceIte, Nat.reduceAdd, Int.reduceNeg, Int.reduceAdd, Int.reduceSub, Int.reduceMul, Int.reduceLT, Int.reduceLE, Int.reduceEq, Int.reduceToNat, Nat.reduceBEq, true_and]
  refine lp (fun s : Nat × (Nat → Nat → It) × List Stp => [.sc (.int .i64 (s.1 : Nat)), .sl 33 3 ((gridL W s.2.1 (R * W)).map encIt), .sl 67 5 (s.2.2.map encSt)]) (fun s => s.1 ≤ W ∧ redS W R f0 s.1 = some (s.2.1, s.2.2)) (fun s => W - s.1) (0, f0, []) rfl ⟨by simp, rfl⟩ ?_
  rintro ⟨c, f, st⟩ ⟨g1, g2⟩
  simp only at g1 g2 ⊢
  obtain ⟨g3, g4⟩ := redS_len g2
  simp only [u_impl_reduce_l8]
  simp (disch := first | omega | (simp only [List.length_take, List.length_drop, List.length_append, List.map_cons, List.map_nil, List.length_map, List.length_cons, List.length_nil, List.length_set, List.length_replicate]; omega) | (simp only [List.length_cons, List.length_nil, Nat.zero_add, Nat.reduceAdd])) only [go_sem, ↓reduceIte, Nat.reduceAdd, Int.reduceNeg, Int.reduceAdd, Int.reduceSub, Int.reduceMul, Int.reduceLT, Int.reduceLE, Int.reduceEq, Int.reduceToNat, Nat.reduceBEq, true_and]
  refine br_if (fun hc => ?_) (fun hc => ?_)
  rotate_left
  · obtain rfl : c = W := by omega
    rw [g2]
    simp (disch := first | omega | (simp only [List.length_take, List.length_drop, List.length_append, List.map_cons, List.map_nil, List.length_map, List.length_cons, List.length_nil, List.length_set, List.length_replicate]; omega) | (simp only [List.length_cons, List.length_nil, Nat.zero_add, Nat.reduceAdd])) only [go_sem, ↓reduceIte, Nat.reduceAdd, Int.reduceNeg, Int.reduceAdd, Int.reduceSub, Int.reduceMul, Int.reduceLT, Int.reduceLE, Int.reduceEq, Int.reduceToNat, Nat.reduceBEq, true_and]
    rfl
  simp (disch := first | omega | (simp only [List.length_take, List.length_drop, List.length_append, List.map_cons, List.map_nil, List.length_map, List.length_cons, List.length_nil, List.length_set, List.length_replicate]; omega) | (simp only [List.length_cons, List.length_nil, Nat.zero_add, Nat.reduceAdd])) only [go_sem, ↓reduceIte, Nat.reduceAdd, Int.reduceNeg, Int.reduceAdd, Int.reduceSub, Int.reduceMul, Int.reduceLT, Int.reduceLE, Int.reduceEq, Int.reduceToNat, Nat.reduceBEq, true_and]
  refine br_if (fun hr => ?_) (fun hr => ?_)
  rotate_left
  · rw [redS_idle g2 (by omega) g1]
    simp (disch := first | omega | (simp only [List.length_take, List.length_drop, List.length_append, List.map_cons, List.map_nil, List.length_map, List.length_cons, List.length_nil, List.length_set, List.length_replicate]; omega) | (simp only [List.length_cons, List.length_nil, Nat.zero_add, Nat.reduceAdd])) only [go_sem, ↓reduceIte, Nat.reduceAdd, Int.reduceNeg, Int.reduceAdd, Int.reduceSub, Int.reduceMul, Int.reduceLT, Int.reduceLE, Int.reduceEq, Int.reduceToNat, Nat.reduceBEq, true_and]
    rfl
  simp (disch := first | omega | (simp only [List.length_take, List.length_drop, List.length_append, List.map_cons, List.map_nil, List.length_map, List.length_cons, List.length_nil, List.length_set, List.length_replicate]; omega) | (simp only [List.length_cons, List.length_nil, Nat.zero_add, Nat.reduceAdd])) only [go_sem, ↓reduceIte, Nat.reduceAdd, Int.reduceNeg, Int.reduceAdd, Int.reduceSub, Int.reduceMul, Int.reduceLT, Int.reduceLE, Int.reduceEq, Int.reduceToNat, Nat.reduceBEq, true_and]
  have hrR : st.length < R := by omega
  have hcW : c < W := by omega
  generalize hrr : st.length = r at *
  refine jn (Jst W R c f0) ?_ ?_
  rotate_left
  · rintro vs - ⟨x0, x1, x2, x3, x4, f', st', rfl, h1⟩
    simp only [u_impl_reduce_j7]
    simp (disch := first | omega | (simp only [List.length_take, List.length_drop, List.length_append, List.map_cons, List.map_nil, List.length_map, List.length_cons, List.length_nil, List.length_set, List.length_replicate]; omega) | (simp only [List.length_cons, List.length_nil, Nat.zero_add, Nat.reduceAdd])) only [go_sem, ↓reduceIte, Nat.reduceAdd, Int.reduceNeg, Int.reduceAdd, Int.reduceSub, Int.reduceMul, Int.reduceLT, Int.reduceLE, Int.reduceEq, Int.reduceToNat, Nat.reduceBEq, nat1]
    exact ⟨(c + 1, f', st'), rfl, ⟨by simp only; omega, h1⟩, by simp only; omega⟩
  have hstep := redS_step g2
  unfold red1 at hstep
  rw [hrr, if_neg (by omega)] at hstep
  simp (disch := first | omega | (simp only [List.length_take, List.length_drop, List.length_append, List.map_cons, List.map_nil, List.length_map, List.length_cons, List.length_nil, List.length_set, List.length_replicate]; omega) | (simp only [List.length_cons, List.length_nil, Nat.zero_add, Nat.reduceAdd])) only [go_sem, ↓reduceIte, Nat.reduceAdd, Int.reduceNeg, Int.reduceAdd, Int.reduceSub, Int.reduceMul, Int.reduceLT, Int.reduceLE, Int.reduceEq, Int.reduceToNat, Nat.reduceBEq, hrr]
  refine jn (Jnz R c r f) ?_ ?_
  · refine lp (fun k : Nat => [.sc (.int .i64 (k : Nat))]) (fun k => r ≤ k ∧ k ≤ R ∧ ∀ i, r ≤ i → i < k → (f i c).num = 0) (fun k => R - k) r (by simp (disch := first | omega | (simp only [List.length_take, List.length_drop, List.length_append, List.map_cons, List.map_nil, List.length_map, List.length_cons, List.length_nil, List.length_set, List.length_replicate]; omega) | (simp only [List.length_cons, List.length_nil, Nat.zero_add, Nat.reduceAdd])) only [go_sem, ↓reduceIte, Nat.reduceAdd, Int.reduceNeg, Int.reduceAdd, Int.reduceSub, Int.reduceMul, Int.reduceLT, Int.reduceLE, Int.reduceEq, Int.reduceToNat, Nat.reduceBEq, hrr]) ⟨Nat.le_refl _, by omega, fun i h1 h2 => by omega⟩ ?_
    rintro k ⟨k1, k2, k3⟩
    simp only [u_impl_reduce_l0]
    simp (disch := first | omega | (simp only [List.length_take, List.length_drop, List.length_append, List.map_cons, List.map_nil, List.length_map, List.length_cons, List.length_nil, List.length_set, List.length_replicate]; omega) | (simp only [List.length_cons, List.length_nil, Nat.zero_add, Nat.reduceAdd])) only [go_sem, ↓reduceIte, Nat.reduceAdd, Int.reduceNeg, Int.reduceAdd, Int.reduceSub, Int.reduceMul, Int.reduceLT, Int.reduceLE, Int.reduceEq, Int.reduceToNat, Nat.reduceBEq, true_and]
    refine br_if (fun hk => ?_) (fun hk => ?_)
    · have hkR : k < R := by omega
      simp (disch := first | omega | (simp only [List.length_take, List.length_drop, List.length_append, List.map_cons, List.map_nil, List.length_map, List.length_cons, List.length_nil, List.length_set, List.length_replicate]; omega) | (simp only [List.length_cons, List.length_nil, Nat.zero_add, Nat.reduceAdd])) only [go_sem, ↓reduceIte, Nat.reduceAdd, Int.reduceNeg, Int.reduceAdd, Int.reduceSub, Int.reduceMul, Int.reduceLT, Int.reduceLE, Int.reduceEq, Int.reduceToNat, Nat.reduceBEq, true_and]
      refine cl_ok (cellAt_g f hkR hcW hR hW) rfl ?_
      simp (disch := first | omega | (simp only [List.length_take, List.length_drop, List.length_append, List.map_cons, List.map_nil, List.length_map, List.length_cons, List.length_nil, List.length_set, List.length_replicate]; omega) | (simp only [List.length_cons, List.length_nil, Nat.zero_add, Nat.reduceAdd])) only [go_sem, ↓reduceIte, Nat.reduceAdd, Int.reduceNeg, Int.reduceAdd, Int.reduceSub, Int.reduceMul, Int.reduceLT, Int.reduceLE, Int.reduceEq, Int.reduceToNat, Nat.reduceBEq, encIt]
      refine br_if (fun h0 => ?_) (fun h0 => ?_)
      · simp (disch := first | omega | (simp only [List.length_take, List.length_drop, List.length_append, List.map_cons, List.map_nil, List.length_map, List.length_cons, List.length_nil, List.length_set, List.length_replicate]; omega) | (simp only [List.length_cons, List.length_nil, Nat.zero_add, Nat.reduceAdd])) only [go_sem, ↓reduceIte, Nat.reduceAdd, Int.reduceNeg, Int.reduceAdd, Int.reduceSub, Int.reduceMul, Int.reduceLT, Int.reduceLE, Int.reduceEq, Int.reduceToNat, Nat.reduceBEq, nat1]
        exact ⟨k + 1, rfl, ⟨by omega, by omega, fun i h1 h2 => by
          rcases Nat.lt_or_ge i k with h | h
          · exact k3 i h1 h
          · obtain rfl : i = k := by omega
            exact h0⟩, by omega⟩
      · have hn := nz_is k2 k1 k3 (.inr h0)
        simp (disch := first | omega | (simp only [List.length_take, List.length_drop, List.length_append, List.map_cons, List.map_nil, List.length_map, List.length_cons, List.length_nil, List.length_set, List.length_replicate]; omega) | (simp only [List.length_cons, List.length_nil, Nat.zero_add, Nat.reduceAdd])) only [go_sem, ↓reduceIte, Nat.reduceAdd, Int.reduceNeg, Int.reduceAdd, Int.reduceSub, Int.reduceMul, Int.reduceLT, Int.reduceLE, Int.reduceEq, Int.reduceToNat, Nat.reduceBEq, true_and]
        exact ⟨_, by rw [hn], by omega, by omega⟩
    · obtain rfl : k = R := by omega
      have hn := nz_is k2 k1 k3 (.inl rfl)
      simp (disch := first | omega | (simp only [List.length_take, List.length_drop, List.length_append, List.map_cons, List.map_nil, List.length_map, List.length_cons, List.length_nil, List.length_set, List.length_replicate]; omega) | (simp only [List.length_cons, List.length_nil, Nat.zero_add, Nat.reduceAdd])) only [go_sem, ↓reduceIte, Nat.reduceAdd, Int.reduceNeg, Int.reduceAdd, Int.reduceSub, Int.reduceMul, Int.reduceLT, Int.reduceLE, Int.reduceEq, Int.reduceToNat, Nat.reduceBEq, true_and]
      exact ⟨_, by rw [hn], by omega, by omega⟩
  rintro vs - ⟨x0, rfl, n1, n2⟩
  generalize hk0 : nz f c R r = k at *
  simp only [u_impl_reduce_j6]
  simp (disch := first | omega | (simp only [List.length_take, List.length_drop, List.length_append, List.map_cons, List.map_nil, List.length_map, List.length_cons, List.length_nil, List.length_set, List.length_replicate]; omega) | (simp only [List.length_cons, List.length_nil, Nat.zero_add, Nat.reduceAdd])) only [go_sem, ↓reduceIte, Nat.reduceAdd, Int.reduceNeg, Int.reduceAdd, Int.reduceSub, Int.reduceMul, Int.reduceLT, Int.reduceLE, Int.reduceEq, Int.reduceToNat, Nat.reduceBEq, true_and]
  refine br_if (fun hk => ?_) (fun hk => ?_)
  · rw [if_pos (by omega)] at hstep
    simp (disch := first | omega | (simp only [List.length_take, List.length_drop, List.length_append, List.map_cons, List.map_nil, List.length_map, List.length_cons, List.length_nil, List.length_set, List.length_replicate]; omega) | (simp only [List.length_cons, List.length_nil, Nat.zero_add, Nat.reduceAdd])) only [go_sem, ↓reduceIte, Nat.reduceAdd, Int.reduceNeg, Int.reduceAdd, Int.reduceSub, Int.reduceMul, Int.reduceLT, Int.reduceLE, Int.reduceEq, Int.reduceToNat, Nat.reduceBEq, true_and]
    exact ⟨_, _, _, _, _, f, st, rfl, hstep⟩
  have hkR : k < R := by omega
  rw [if_neg (by omega)] at hstep
  have bR : ∀ i, i < R → i * W ≤ 10000 := fun i hi => by
    have : i * W ≤ 100 * 100 := Nat.mul_le_mul (by omega) hW
    omega
  have br := bR r hrR
  have bk := bR k hkR
  simp (disch := first | omega | (simp only [List.length_take, List.length_drop, List.length_append, List.map_cons, List.map_nil, List.length_map, List.length_cons, List.length_nil, List.length_set, List.length_replicate]; omega) | (simp only [List.length_cons, List.length_nil, Nat.zero_add, Nat.reduceAdd])) only [go_sem, ↓reduceIte, Nat.reduceAdd, Int.reduceNeg, Int.reduceAdd, Int.reduceSub, Int.reduceMul, Int.reduceLT, Int.reduceLE, Int.reduceEq, Int.reduceToNat, Nat.reduceBEq, true_and]
  refine lp_n W (fun j => [.sc (.int .i64 (j : Nat)), .sl 33 3 ((gridL W (swapJ r k f j) (R * W)).map encIt)]) (by rw [swapJ_0]; rfl) fun j hj => ?_
  simp only [u_impl_reduce_l5]
  simp (disch := first | omega | (simp only [List.length_take, List.length_drop, List.length_append, List.map_cons, List.map_nil, List.length_map, List.length_cons, List.length_nil, List.length_set, List.length_replicate]; omega) | (simp only [List.length_cons, List.length_nil, Nat.zero_add, Nat.reduceAdd])) only [go_sem, ↓reduceIte, Nat.reduceAdd, Int.reduceNeg, Int.reduceAdd, Int.reduceSub, Int.reduceMul, Int.reduceLT, Int.reduceLE, Int.reduceEq, Int.reduceToNat, Nat.reduceBEq, true_and]
  refine br_if (fun h => ?_) (fun h => ?_)
  · have hjW : j < W := by omega
    simp (disch := first | omega | (simp only [List.length_take, List.length_drop, List.length_append, List.map_cons, List.map_nil, List.length_map, List.length_cons, List.length_nil, List.length_set, List.length_replicate]; omega) | (simp only [List.length_cons, List.length_nil, Nat.zero_add, Nat.reduceAdd])) only [go_sem, ↓reduceIte, Nat.reduceAdd, Int.reduceNeg, Int.reduceAdd, Int.reduceSub, Int.reduceMul, Int.reduceLT, Int.reduceLE, Int.reduceEq, Int.reduceToNat, Nat.reduceBEq, nm, na, ix_g, chk_g, encIt, st_g, swapJ_at, swapJ_step, nat1]
    exact hjW
  obtain rfl : W = j := by omega
  simp (disch := first | omega | (simp only [List.length_take, List.length_drop, List.length_append, List.map_cons, List.map_nil, List.length_map, List.length_cons, List.length_nil, List.length_set, List.length_replicate]; omega) | (simp only [List.length_cons, List.length_nil, Nat.zero_add, Nat.reduceAdd])) only [go_sem, ↓reduceIte, Nat.reduceAdd, Int.reduceNeg, Int.reduceAdd, Int.reduceSub, Int.reduceMul, Int.reduceLT, Int.reduceLE, Int.reduceEq, Int.reduceToNat, Nat.reduceBEq, true_and]
  refine cl_ok (cellAt_g (swapJ r k f W) hrR hcW hR hW) rfl ?_
  simp (disch := first | omega | (simp only [List.length_take, List.length_drop, List.length_append, List.map_cons, List.map_nil, List.length_map, List.length_cons, List.length_nil, List.length_set, List.length_replicate]; omega) | (simp only [List.length_cons, List.length_nil, Nat.zero_add, Nat.reduceAdd])) only [go_sem, ↓reduceIte, Nat.reduceAdd, Int.reduceNeg, Int.reduceAdd, Int.reduceSub, Int.reduceMul, Int.reduceLT, Int.reduceLE, Int.reduceEq, Int.reduceToNat, Nat.reduceBEq, encIt, swapJ_r hcW]
  generalize hp : f k c = p at *
  refine lp_n W (fun i => [.sc (.int .i64 (i : Nat)), .sl 33 3 ((gridL W (divJ r p (swapJ r k f W) i) (R * W)).map encIt)]) (by rw [divJ_0]; rfl) fun i hi => ?_
  simp only [u_impl_reduce_l4]
  simp (disch := first | omega | (simp only [List.length_take, List.length_drop, List.length_append, List.map_cons, List.map_nil, List.length_map, List.length_cons, List.length_nil, List.length_set, List.length_replicate]; omega) | (simp only [List.length_cons, List.length_nil, Nat.zero_add, Nat.reduceAdd])) only [go_sem, ↓reduceIte, Nat.reduceAdd, Int.reduceNeg, Int.reduceAdd, Int.reduceSub, Int.reduceMul, Int.reduceLT, Int.reduceLE, Int.reduceEq, Int.reduceToNat, Nat.reduceBEq, true_and]
  refine br_if (fun h => ?_) (fun h => ?_)
  · have hiW : i < W := by omega
    simp (disch := first | omega | (simp only [List.length_take, List.length_drop, List.length_append, List.map_cons, List.map_nil, List.length_map, List.length_cons, List.length_nil, List.length_set, List.length_replicate]; omega) | (simp only [List.length_cons, List.length_nil, Nat.zero_add, Nat.reduceAdd])) only [go_sem, ↓reduceIte, Nat.reduceAdd, Int.reduceNeg, Int.reduceAdd, Int.reduceSub, Int.reduceMul, Int.reduceLT, Int.reduceLE, Int.reduceEq, Int.reduceToNat, Nat.reduceBEq, nm, na]
    refine cl_ok (cellAt_g _ hrR hiW hR hW) rfl ?_
    simp (disch := first | omega | (simp only [List.length_take, List.length_drop, List.length_append, List.map_cons, List.map_nil, List.length_map, List.length_cons, List.length_nil, List.length_set, List.length_replicate]; omega) | (simp only [List.length_cons, List.length_nil, Nat.zero_add, Nat.reduceAdd])) only [go_sem, ↓reduceIte, Nat.reduceAdd, Int.reduceNeg, Int.reduceAdd, Int.reduceSub, Int.reduceMul, Int.reduceLT, Int.reduceLE, Int.reduceEq, Int.reduceToNat, Nat.reduceBEq, encIt, divJ_at]
    refine cl_ok (mImplDiv _ p) rfl ?_
    simp (disch := first | omega | (simp only [List.length_take, List.length_drop, List.length_append, List.map_cons, List.map_nil, List.length_map, List.length_cons, List.length_nil, List.length_set, List.length_replicate]; omega) | (simp only [List.length_cons, List.length_nil, Nat.zero_add, Nat.reduceAdd])) only [go_sem, ↓reduceIte, Nat.reduceAdd, Int.reduceNeg, Int.reduceAdd, Int.reduceSub, Int.reduceMul, Int.reduceLT, Int.reduceLE, Int.reduceEq, Int.reduceToNat, Nat.reduceBEq, nm, na, ix_g, chk_g, encIt, st_g, divJ_at, divJ_step, nat1]
    exact hiW
  obtain rfl : W = i := by omega
  rw [div_swap]
  have hgf : elJ r c W (sdJ r k p f W) R 0 = stepF W R r k c f := by unfold stepF; rw [hp]
  generalize sdJ r k p f W = g at *
  simp (disch := first | omega | (simp only [List.length_take, List.length_drop, List.length_append, List.map_cons, List.map_nil, List.length_map, List.length_cons, List.length_nil, List.length_set, List.length_replicate]; omega) | (simp only [List.length_cons, List.length_nil, Nat.zero_add, Nat.reduceAdd])) only [go_sem, ↓reduceIte, Nat.reduceAdd, Int.reduceNeg, Int.reduceAdd, Int.reduceSub, Int.reduceMul, Int.reduceLT, Int.reduceLE, Int.reduceEq, Int.reduceToNat, Nat.reduceBEq, true_and]
  refine lp_n R (fun i => [.sc (.int .i64 (i : Nat)), .sc (.bool (decide ((W : Int) < W))), .sc (.int .i64 (W : Nat)), .sc (.bool (decide ((W : Int) < W))), .sc (.int .i64 (W : Nat)), .sc (.bool (decide ((k : Int) = R))), x0, .sc (.int .i64 (k : Nat)), .sc (.int .i64 (r : Nat)), .sc (.bool (decide ((r : Int) < R))),
    .sl 33 3 ((gridL W (elJ r c W g i 0) (R * W)).map encIt), .sl 67 5 (st.map encSt), .sc (.int .i64 p.num), .sc (.int .i64 p.den), .sc (.string p.text)]) (by rw [elJ_0]; rfl) fun i hi => ?_
  simp only [u_impl_reduce_l3]
  simp (disch := first | omega | (simp only [List.length_take, List.length_drop, List.length_append, List.map_cons, List.map_nil, List.length_map, List.length_cons, List.length_nil, List.length_set, List.length_replicate]; omega) | (simp only [List.length_cons, List.length_nil, Nat.zero_add, Nat.reduceAdd])) only [go_sem, ↓reduceIte, Nat.reduceAdd, Int.reduceNeg, Int.reduceAdd, Int.reduceSub, Int.reduceMul, Int.reduceLT, Int.reduceLE, Int.reduceEq, Int.reduceToNat, Nat.reduceBEq, true_and]
  refine br_if (fun h => ?_) (fun h => ?_)
  · have hiR : i < R := by omega
    have bi := bR i hiR
    simp (disch := first | omega | (simp only [List.length_take, List.length_drop, List.length_append, List.map_cons, List.map_nil, List.length_map, List.length_cons, List.length_nil, List.length_set, List.length_replicate]; omega) | (simp only [List.length_cons, List.length_nil, Nat.zero_add, Nat.reduceAdd])) only [go_sem, ↓reduceIte, Nat.reduceAdd, Int.reduceNeg, Int.reduceAdd, Int.reduceSub, Int.reduceMul, Int.reduceLT, Int.reduceLE, Int.reduceEq, Int.reduceToNat, Nat.reduceBEq, true_and]
    refine jn (fun vs => ∃ y0 y2 y3 y4, vs = [y0, .sl 33 3 ((gridL W (elJ r c W g (i + 1) 0) (R * W)).map encIt), y2, y3, y4]) ?_ ?_
    rotate_left
    · rintro vs - ⟨y0, y2, y3, y4, rfl⟩
      simp only [u_impl_reduce_j2]
      simp (disch := first | omega | (simp only [List.length_take, List.length_drop, List.length_append, List.map_cons, List.map_nil, List.length_map, List.length_cons, List.length_nil, List.length_set, List.length_replicate]; omega) | (simp only [List.length_cons, List.length_nil, Nat.zero_add, Nat.reduceAdd])) only [go_sem, ↓reduceIte, Nat.reduceAdd, Int.reduceNeg, Int.reduceAdd, Int.reduceSub, Int.reduceMul, Int.reduceLT, Int.reduceLE, Int.reduceEq, Int.reduceToNat, Nat.reduceBEq, nat1]
      exact hiR
    simp (disch := first | omega | (simp only [List.length_take, List.length_drop, List.length_append, List.map_cons, List.map_nil, List.length_map, List.length_cons, List.length_nil, List.length_set, List.length_replicate]; omega) | (simp only [List.length_cons, List.length_nil, Nat.zero_add, Nat.reduceAdd])) only [go_sem, ↓reduceIte, Nat.reduceAdd, Int.reduceNeg, Int.reduceAdd, Int.reduceSub, Int.reduceMul, Int.reduceLT, Int.reduceLE, Int.reduceEq, Int.reduceToNat, Nat.reduceBEq, true_and]
    refine cl_ok (cellAt_g _ hiR hcW hR hW) rfl ?_
    simp (disch := first | omega | (simp only [List.length_take, List.length_drop, List.length_append, List.map_cons, List.map_nil, List.length_map, List.length_cons, List.length_nil, List.length_set, List.length_replicate]; omega) | (simp only [List.length_cons, List.length_nil, Nat.zero_add, Nat.reduceAdd])) only [go_sem, ↓reduceIte, Nat.reduceAdd, Int.reduceNeg, Int.reduceAdd, Int.reduceSub, Int.reduceMul, Int.reduceLT, Int.reduceLE, Int.reduceEq, Int.reduceToNat, Nat.reduceBEq, encIt, elJ_c hcW]
    refine br_if (fun hir => ?_) (fun hir => ?_)
    · simp (disch := first | omega | (simp only [List.length_take, List.length_drop, List.length_append, List.map_cons, List.map_nil, List.length_map, List.length_cons, List.length_nil, List.length_set, List.length_replicate]; omega) | (simp only [List.length_cons, List.length_nil, Nat.zero_add, Nat.reduceAdd])) only [go_sem, ↓reduceIte, Nat.reduceAdd, Int.reduceNeg, Int.reduceAdd, Int.reduceSub, Int.reduceMul, Int.reduceLT, Int.reduceLE, Int.reduceEq, Int.reduceToNat, Nat.reduceBEq, elJ_skip (g := g) (c := c) (W := W) (i := i) (r := r) (Or.inl (by omega))]
      exact ⟨_, _, _, _, rfl⟩
    simp (disch := first | omega | (simp only [List.length_take, List.length_drop, List.length_append, List.map_cons, List.map_nil, List.length_map, List.length_cons, List.length_nil, List.length_set, List.length_replicate]; omega) | (simp only [List.length_cons, List.length_nil, Nat.zero_add, Nat.reduceAdd])) only [go_sem, ↓reduceIte, Nat.reduceAdd, Int.reduceNeg, Int.reduceAdd, Int.reduceSub, Int.reduceMul, Int.reduceLT, Int.reduceLE, Int.reduceEq, Int.reduceToNat, Nat.reduceBEq, true_and]
    refine br_if (fun hn => ?_) (fun hn => ?_)
    · simp (disch := first | omega | (simp only [List.length_take, List.length_drop, List.length_append, List.map_cons, List.map_nil, List.length_map, List.length_cons, List.length_nil, List.length_set, List.length_replicate]; omega) | (simp only [List.length_cons, List.length_nil, Nat.zero_add, Nat.reduceAdd])) only [go_sem, ↓reduceIte, Nat.reduceAdd, Int.reduceNeg, Int.reduceAdd, Int.reduceSub, Int.reduceMul, Int.reduceLT, Int.reduceLE, Int.reduceEq, Int.reduceToNat, Nat.reduceBEq, elJ_skip (g := g) (c := c) (W := W) (i := i) (r := r) (Or.inr hn)]
      exact ⟨_, _, _, _, rfl⟩
    have hir' : i ≠ r := by omega
    simp (disch := first | omega | (simp only [List.length_take, List.length_drop, List.length_append, List.map_cons, List.map_nil, List.length_map, List.length_cons, List.length_nil, List.length_set, List.length_replicate]; omega) | (simp only [List.length_cons, List.length_nil, Nat.zero_add, Nat.reduceAdd])) only [go_sem, ↓reduceIte, Nat.reduceAdd, Int.reduceNeg, Int.reduceAdd, Int.reduceSub, Int.reduceMul, Int.reduceLT, Int.reduceLE, Int.reduceEq, Int.reduceToNat, Nat.reduceBEq, true_and]
    refine lp_n W (fun j => [.sc (.int .i64 (j : Nat)), .sl 33 3 ((gridL W (elJ r c W g i j) (R * W)).map encIt)]) rfl fun j hj => ?_
    simp only [u_impl_reduce_l1]
    simp (disch := first | omega | (simp only [List.length_take, List.length_drop, List.length_append, List.map_cons, List.map_nil, List.length_map, List.length_cons, List.length_nil, List.length_set, List.length_replicate]; omega) | (simp only [List.length_cons, List.length_nil, Nat.zero_add, Nat.reduceAdd])) only [go_sem, ↓reduceIte, Nat.reduceAdd, Int.reduceNeg, Int.reduceAdd, Int.reduceSub, Int.reduceMul, Int.reduceLT, Int.reduceLE, Int.reduceEq, Int.reduceToNat, Nat.reduceBEq, true_and]
    refine br_if (fun h => ?_) (fun h => ?_)
    · have hjW : j < W := by omega
      simp (disch := first | omega | (simp only [List.length_take, List.length_drop, List.length_append, List.map_cons, List.map_nil, List.length_map, List.length_cons, List.length_nil, List.length_set, List.length_replicate]; omega) | (simp only [List.length_cons, List.length_nil, Nat.zero_add, Nat.reduceAdd])) only [go_sem, ↓reduceIte, Nat.reduceAdd, Int.reduceNeg, Int.reduceAdd, Int.reduceSub, Int.reduceMul, Int.reduceLT, Int.reduceLE, Int.reduceEq, Int.reduceToNat, Nat.reduceBEq, nm, na]
      refine cl_ok (cellAt_g _ hiR hjW hR hW) rfl ?_
      simp (disch := first | omega | (simp only [List.length_take, List.length_drop, List.length_append, List.map_cons, List.map_nil, List.length_map, List.length_cons, List.length_nil, List.length_set, List.length_replicate]; omega) | (simp only [List.length_cons, List.length_nil, Nat.zero_add, Nat.reduceAdd])) only [go_sem, ↓reduceIte, Nat.reduceAdd, Int.reduceNeg, Int.reduceAdd, Int.reduceSub, Int.reduceMul, Int.reduceLT, Int.reduceLE, Int.reduceEq, Int.reduceToNat, Nat.reduceBEq, encIt, elJ_at]
      refine cl_ok (cellAt_g _ hrR hjW hR hW) rfl ?_
      simp (disch := first | omega | (simp only [List.length_take, List.length_drop, List.length_append, List.map_cons, List.map_nil, List.length_map, List.length_cons, List.length_nil, List.length_set, List.length_replicate]; omega) | (simp only [List.length_cons, List.length_nil, Nat.zero_add, Nat.reduceAdd])) only [go_sem, ↓reduceIte, Nat.reduceAdd, Int.reduceNeg, Int.reduceAdd, Int.reduceSub, Int.reduceMul, Int.reduceLT, Int.reduceLE, Int.reduceEq, Int.reduceToNat, Nat.reduceBEq, encIt, elJ_r]
      refine cl_ok (mImplMul (g i c) (g r j)) rfl ?_
      simp (disch := first | omega | (simp only [List.length_take, List.length_drop, List.length_append, List.map_cons, List.map_nil, List.length_map, List.length_cons, List.length_nil, List.length_set, List.length_replicate]; omega) | (simp only [List.length_cons, List.length_nil, Nat.zero_add, Nat.reduceAdd])) only [go_sem, ↓reduceIte, Nat.reduceAdd, Int.reduceNeg, Int.reduceAdd, Int.reduceSub, Int.reduceMul, Int.reduceLT, Int.reduceLE, Int.reduceEq, Int.reduceToNat, Nat.reduceBEq, encIt]
      refine cl_ok (mImplSub (g i j) _) rfl ?_
      simp (disch := first | omega | (simp only [List.length_take, List.length_drop, List.length_append, List.map_cons, List.map_nil, List.length_map, List.length_cons, List.length_nil, List.length_set, List.length_replicate]; omega) | (simp only [List.length_cons, List.length_nil, Nat.zero_add, Nat.reduceAdd])) only [go_sem, ↓reduceIte, Nat.reduceAdd, Int.reduceNeg, Int.reduceAdd, Int.reduceSub, Int.reduceMul, Int.reduceLT, Int.reduceLE, Int.reduceEq, Int.reduceToNat, Nat.reduceBEq, nm, na, ix_g, chk_g, encIt, st_g, elJ_step hir' hn hjW, nat1]
      exact hjW
    · obtain rfl : W = j := by omega
      simp (disch := first | omega | (simp only [List.length_take, List.length_drop, List.length_append, List.map_cons, List.map_nil, List.length_map, List.length_cons, List.length_nil, List.length_set, List.length_replicate]; omega) | (simp only [List.length_cons, List.length_nil, Nat.zero_add, Nat.reduceAdd])) only [go_sem, ↓reduceIte, Nat.reduceAdd, Int.reduceNeg, Int.reduceAdd, Int.reduceSub, Int.reduceMul, Int.reduceLT, Int.reduceLE, Int.reduceEq, Int.reduceToNat, Nat.reduceBEq, elJ_W]
      exact ⟨_, _, _, _, rfl⟩
  obtain rfl : R = i := by omega
  rw [hgf]
  have hall := allNumbers_m (gridL W (stepF W R r k c f) (R * W)) (by rw [gridL_len]; omega)
  simp only [encIts] at hall
  have hlen : (st ++ [(c, p, decide (k ≠ r))]).length ≤ 200 := by simp; omega
  generalize hsf : stepF W R r k c f = sf at *
  have hst : (st.map encSt) ++ [[.sc (.int .i64 (c : Nat)), .sc (.int .i64 p.num), .sc (.int .i64 p.den), .sc (.string p.text), .sc (.bool (!decide ((k : Int) = (r : Int))))]] = (st ++ [(c, p, decide (k ≠ r))]).map encSt := by
    rw [List.map_append]
    simp only [encSt, List.map_cons, List.map_nil]
    congr 7
    by_cases h : k = r
    · simp [h]
    · have : ¬ (k : Int) = r := by omega
      simp [h, this]
  simp (disch := first | omega | (simp only [List.length_take, List.length_drop, List.length_append, List.map_cons, List.map_nil, List.length_map, List.length_cons, List.length_nil, List.length_set, List.length_replicate]; omega) | (simp only [List.length_cons, List.length_nil, Nat.zero_add, Nat.reduceAdd])) only [go_sem, ↓reduceIte, Nat.reduceAdd, Int.reduceNeg, Int.reduceAdd, Int.reduceSub, Int.reduceMul, Int.reduceLT, Int.reduceLE, Int.reduceEq, Int.reduceToNat, Nat.reduceBEq, fl1_st, hst]
  refine cl_ok hall rfl ?_
  simp (disch := first | omega | (simp only [List.length_take, List.length_drop, List.length_append, List.map_cons, List.map_nil, List.length_map, List.length_cons, List.length_nil, List.length_set, List.length_replicate]; omega) | (simp only [List.length_cons, List.length_nil, Nat.zero_add, Nat.reduceAdd])) only [go_sem, ↓reduceIte, Nat.reduceAdd, Int.reduceNeg, Int.reduceAdd, Int.reduceSub, Int.reduceMul, Int.reduceLT, Int.reduceLE, Int.reduceEq, Int.reduceToNat, Nat.reduceBEq, true_and]
  refine br_nb (fun ha => ?_) (fun ha => ?_)
  · rw [if_pos ha] at hstep
    simp (disch := first | omega | (simp only [List.length_take, List.length_drop, List.length_append, List.map_cons, List.map_nil, List.length_map, List.length_cons, List.length_nil, List.length_set, List.length_replicate]; omega) | (simp only [List.length_cons, List.length_nil, Nat.zero_add, Nat.reduceAdd])) only [go_sem, ↓reduceIte, Nat.reduceAdd, Int.reduceNeg, Int.reduceAdd, Int.reduceSub, Int.reduceMul, Int.reduceLT, Int.reduceLE, Int.reduceEq, Int.reduceToNat, Nat.reduceBEq, true_and]
    exact ⟨_, _, _, _, _, sf, _, rfl, hstep⟩
  · rw [if_neg (by simp [ha])] at hstep
    rw [redS_none hstep (by omega)]
    simp (disch := first | omega | (simp only [List.length_take, List.length_drop, List.length_append, List.map_cons, List.map_nil, List.length_map, List.length_cons, List.length_nil, List.length_set, List.length_replicate]; omega) | (simp only [List.length_cons, List.length_nil, Nat.zero_add, Nat.reduceAdd])) only [go_sem, ↓reduceIte, Nat.reduceAdd, Int.reduceNeg, Int.reduceAdd, Int.reduceSub, Int.reduceMul, Int.reduceLT, Int.reduceLE, Int.reduceEq, Int.reduceToNat, Nat.reduceBEq, true_and]
    rfl
end Go.Proofs.Ytolkglnkdfcceaa

namespace Go.Proofs.Ytolkglnkdfcceaa
open Go.RowKit
set_option maxRecDepth 100000

def pivL (st : List Stp) : List Int := st.map fun x => (x.1 : Int)
def facL (st : List Stp) : List It := st.flatMap fun x => x.2.1 :: (if x.2.2 = true then [l2N (-1)] else [])
def resS (W R : Nat) : Option ((Nat → Nat → It) × List Stp) → List Rs
  | none => [(true, encMt ⟨0, 0, []⟩, true), (false, [encZs []], true), (false, [encIts []], true), (false, [.sc (.bool false)], true)]
  | some (f, st) => [(true, encMt ⟨R, W, gridL W f (R * W)⟩, true), (false, [encZs (pivL st)], true), (false, [encIts (facL st)], true), (false, [.sc (.bool true)], true)]
theorem facL_len (st : List Stp) : (facL st).length ≤ 2 * st.length := by
  induction st with
  | nil => simp [facL]
  | cons x r ih =>
    unfold facL at ih ⊢
    rw [List.flatMap_cons, List.length_append]
    have : (x.2.1 :: (if x.2.2 = true then [l2N (-1)] else [])).length ≤ 2 := by split <;> simp
    simp only [List.length_cons] at this ⊢
    omega
theorem pivL_app (st : List Stp) (x : Stp) : pivL (st ++ [x]) = pivL st ++ [(x.1 : Int)] := by simp [pivL]
theorem facL_app (st : List Stp) (x : Stp) : facL (st ++ [x]) = facL st ++ (x.2.1 :: (if x.2.2 = true then [l2N (-1)] else [])) := by simp [facL]
theorem elJ_skip' {r c W i j : Nat} {g : Nat → Nat → It} (h : i = r ∨ (g i c).num = 0) : elJ r c W g i j = elJ r c W g (i + 1) 0 := by
  funext a b
  unfold elJ
  by_cases ha : a = i
  · subst ha
    rcases h with h | h
    · simp [h]
    · simp [h]
  · have : (a < i ∧ b < W ∨ a = i ∧ b < j) ↔ (a < i + 1 ∧ b < W ∨ a = i + 1 ∧ b < 0) := by omega
    simp only [this]
def JsS (W R c : Nat) (f0 : Nat → Nat → It) (vs : List DV) : Prop := ∃ x0 x1 x2 x3 f' st', vs = [x0, x1, x2, x3, .sl 33 3 ((gridL W f' (R * W)).map encIt), .sl 3 1 ((pivL st').map encZ), .sl 33 3 ((facL st').map encIt)] ∧ redS W R f0 (c + 1) = some (f', st')

set_option maxHeartbeats 8000000 in
theorem specRed_m (R W : Nat) (f0 : Nat → Nat → It) (hR : R ≤ 100) (hW : W ≤ 100) :
    Meets Try.prog 52 [(true, encMt ⟨R, W, gridL W f0 (R * W)⟩)] (resS W R (redS W R f0 W)) := by
  have hRW : R * W ≤ 100 * 100 := Nat.mul_le_mul hR hW
  refine meets_upf Try.func52 u_spec_l14Reduce_g rfl ?_; simp only [u_spec_l14Reduce_u]
  simp only [encMt, encIts]
  have hgl : (gridL W f0 (R * W)).length ≤ 10000 := by rw [gridL_len]; omega
  simp (disch := first | omega | (simp only [List.length_take, List.length_drop, List.length_append, List.map_cons, List.map_nil, List.length_map, List.length_cons, List.length_nil, List.length_set, List.length_replicate]; omega) | (simp only [List.length_cons, List.length_nil, Nat.zero_add, Nat.reduceAdd])) only [go_sem, ↓reduceIte, Nat.reduceAdd, Int.reduceNeg, Int.reduceAdd, Int.reduceSub, Int.reduceMul, Int.reduceLT, Int.reduceLE, Int.reduceEq, Int.reduceToNat, Nat.reduceBEq, true_and]
  refine jn_eq [.sl 33 3 ((gridL W f0 (R * W)).map encIt)] ?_ ?_
  · simp (disch := first | omega | (simp only [List.length_take, List.length_drop, List.length_append, List.map_cons, List.map_nil, List.length_map, List.length_cons, List.length_nil, List.length_set, List.length_replicate]; omega) | (simp only [List.length_cons, List.length_nil, Nat.zero_add, Nat.reduceAdd])) only [go_sem, ↓reduceIte, Nat.reduceAdd, Int.reduceNeg, Int.reduceAdd, Int.reduceSub, Int.reduceMul, Int.reduceLT, Int.reduceLE, Int.reduceEq, Int.reduceToNat, Nat.reduceBEq, true_and]
    refine br_b (fun he => ?_) (fun he => ?_)
    · have he' : gridL W f0 (R * W) = [] := by simpa using he
      simp (disch := first | omega | (simp only [List.length_take, List.length_drop, List.length_append, List.map_cons, List.map_nil, List.length_map, List.length_cons, List.length_nil, List.length_set, List.length_replicate]; omega) | (simp only [List.length_cons, List.length_nil, Nat.zero_add, Nat.reduceAdd])) only [go_sem, ↓reduceIte, Nat.reduceAdd, Int.reduceNeg, Int.reduceAdd, Int.reduceSub, Int.reduceMul, Int.reduceLT, Int.reduceLE, Int.reduceEq, Int.reduceToNat, Nat.reduceBEq, he']
    · simp (disch := first | omega | (simp only [List.length_take, List.length_drop, List.length_append, List.map_cons, List.map_nil, List.length_map, List.length_cons, List.length_nil, List.length_set, List.length_replicate]; omega) | (simp only [List.length_cons, List.length_nil, Nat.zero_add, Nat.reduceAdd])) only [go_sem, ↓reduceIte, Nat.reduceAdd, Int.reduceNeg, Int.reduceAdd, Int.reduceSub, Int.reduceMul, Int.reduceLT, Int.reduceLE, Int.reduceEq, Int.reduceToNat, Nat.reduceBEq, fl_it]
  simp only [u_spec_l14Reduce_j9]
  simp (disch := first | omega | (simp only [List.length_take, List.length_drop, List.length_append, List.map_cons, List.map_nil, List.length_map, List.length_cons, List.length_nil, List.length_set, List.length_replicate]; omega) | (simp only [List.length_cons, List.length_nil, Nat.zero_add, Nat.reduceAdd])) only [go_sem, ↓reduceIte, Nat.reduceAdd, Int.reduceNeg, Int.reduceAdd, Int.reduceSub, Int.reduceMul, Int.reduceLT, Int.reduceLE, Int.reduceEq, Int.reduceToNat, Nat.reduceBEq, true_and]
  refine lp (fun s : Nat × (Nat → Nat → It) × List Stp => [.sc (.int .i64 (s.1 : Nat)), .sl 33 3 ((gridL W s.2.1 (R * W)).map encIt), .sl 3 1 ((pivL s.2.2).map encZ), .sl 33 3 ((facL s.2.2).map encIt)]) (fun s => s.1 ≤ W ∧ redS W R f0 s.1 = some (s.2.1, s.2.2)) (fun s => W - s.1) (0, f0, []) rfl ⟨by simp, rfl⟩ ?_
  rintro ⟨c, f, st⟩ ⟨g1, g2⟩
  simp only at g1 g2 ⊢
  obtain ⟨g3, g4⟩ := redS_len g2
  have hpl : (pivL st).length = st.length := by simp [pivL]
  simp only [u_spec_l14Reduce_l8]
  simp (disch := first | omega | (simp only [List.length_take, List.length_drop, List.length_append, List.map_cons, List.map_nil, List.length_map, List.length_cons, List.length_nil, List.length_set, List.length_replicate]; omega) | (simp only [List.length_cons, List.length_nil, Nat.zero_add, Nat.reduceAdd])) only [go_sem, ↓reduceIte, Nat.reduceAdd, Int.reduceNeg, Int.reduceAdd, Int.reduceSub, Int.reduceMul, Int.reduceLT, Int.reduceLE, Int.reduceEq, Int.reduceToNat, Nat.reduceBEq, true_and]
  refine br_if (fun hc => ?_) (fun hc => ?_)
  rotate_left
  · obtain rfl : W = c := by omega
    rw [g2]
    simp (disch := first | omega | (simp only [List.length_take, List.length_drop, List.length_append, List.map_cons, List.map_nil, List.length_map, List.length_cons, List.length_nil, List.length_set, List.length_replicate]; omega) | (simp only [List.length_cons, List.length_nil, Nat.zero_add, Nat.reduceAdd])) only [go_sem, ↓reduceIte, Nat.reduceAdd, Int.reduceNeg, Int.reduceAdd, Int.reduceSub, Int.reduceMul, Int.reduceLT, Int.reduceLE, Int.reduceEq, Int.reduceToNat, Nat.reduceBEq, true_and]
    rfl
  simp (disch := first | omega | (simp only [List.length_take, List.length_drop, List.length_append, List.map_cons, List.map_nil, List.length_map, List.length_cons, List.length_nil, List.length_set, List.length_replicate]; omega) | (simp only [List.length_cons, List.length_nil, Nat.zero_add, Nat.reduceAdd])) only [go_sem, ↓reduceIte, Nat.reduceAdd, Int.reduceNeg, Int.reduceAdd, Int.reduceSub, Int.reduceMul, Int.reduceLT, Int.reduceLE, Int.reduceEq, Int.reduceToNat, Nat.reduceBEq, hpl]
  refine br_if (fun hr => ?_) (fun hr => ?_)
  rotate_left
  · rw [redS_idle g2 (by omega) g1]
    simp (disch := first | omega | (simp only [List.length_take, List.length_drop, List.length_append, List.map_cons, List.map_nil, List.length_map, List.length_cons, List.length_nil, List.length_set, List.length_replicate]; omega) | (simp only [List.length_cons, List.length_nil, Nat.zero_add, Nat.reduceAdd])) only [go_sem, ↓reduceIte, Nat.reduceAdd, Int.reduceNeg, Int.reduceAdd, Int.reduceSub, Int.reduceMul, Int.reduceLT, Int.reduceLE, Int.reduceEq, Int.reduceToNat, Nat.reduceBEq, true_and]
    rfl
  have hrR : st.length < R := by omega
  have hcW : c < W := by omega
  have hfl := facL_len st
  generalize hrr : st.length = r at *
  refine jn (JsS W R c f0) ?_ ?_
  rotate_left
  · rintro vs - ⟨x0, x1, x2, x3, f', st', rfl, h1⟩
    simp only [u_spec_l14Reduce_j7]
    simp (disch := first | omega | (simp only [List.length_take, List.length_drop, List.length_append, List.map_cons, List.map_nil, List.length_map, List.length_cons, List.length_nil, List.length_set, List.length_replicate]; omega) | (simp only [List.length_cons, List.length_nil, Nat.zero_add, Nat.reduceAdd])) only [go_sem, ↓reduceIte, Nat.reduceAdd, Int.reduceNeg, Int.reduceAdd, Int.reduceSub, Int.reduceMul, Int.reduceLT, Int.reduceLE, Int.reduceEq, Int.reduceToNat, Nat.reduceBEq, nat1]
    exact ⟨(c + 1, f', st'), rfl, ⟨by simp only; omega, h1⟩, by simp only; omega⟩
  have hstep := redS_step g2
  unfold red1 at hstep
  rw [hrr, if_neg (by omega)] at hstep
  have bR : ∀ i, i < R → i * W ≤ 10000 := fun i hi => by
    have : i * W ≤ 100 * 100 := Nat.mul_le_mul (by omega) hW
    omega
  simp (disch := first | omega | (simp only [List.length_take, List.length_drop, List.length_append, List.map_cons, List.map_nil, List.length_map, List.length_cons, List.length_nil, List.length_set, List.length_replicate]; omega) | (simp only [List.length_cons, List.length_nil, Nat.zero_add, Nat.reduceAdd])) only [go_sem, ↓reduceIte, Nat.reduceAdd, Int.reduceNeg, Int.reduceAdd, Int.reduceSub, Int.reduceMul, Int.reduceLT, Int.reduceLE, Int.reduceEq, Int.reduceToNat, Nat.reduceBEq, hpl]
  refine jn (Jnz R c r f) ?_ ?_
  · refine lp (fun k : Nat => [.sc (.int .i64 (k : Nat))]) (fun k => r ≤ k ∧ k ≤ R ∧ ∀ i, r ≤ i → i < k → (f i c).num = 0) (fun k => R - k) r (by simp (disch := first | omega | (simp only [List.length_take, List.length_drop, List.length_append, List.map_cons, List.map_nil, List.length_map, List.length_cons, List.length_nil, List.length_set, List.length_replicate]; omega) | (simp only [List.length_cons, List.length_nil, Nat.zero_add, Nat.reduceAdd])) only [go_sem, ↓reduceIte, Nat.reduceAdd, Int.reduceNeg, Int.reduceAdd, Int.reduceSub, Int.reduceMul, Int.reduceLT, Int.reduceLE, Int.reduceEq, Int.reduceToNat, Nat.reduceBEq, hrr, hpl]) ⟨Nat.le_refl _, by omega, fun i h1 h2 => by omega⟩ ?_
    rintro k ⟨k1, k2, k3⟩
    simp only [u_spec_l14Reduce_l0]
    simp (disch := first | omega | (simp only [List.length_take, List.length_drop, List.length_append, List.map_cons, List.map_nil, List.length_map, List.length_cons, List.length_nil, List.length_set, List.length_replicate]; omega) | (simp only [List.length_cons, List.length_nil, Nat.zero_add, Nat.reduceAdd])) only [go_sem, ↓reduceIte, Nat.reduceAdd, Int.reduceNeg, Int.reduceAdd, Int.reduceSub, Int.reduceMul, Int.reduceLT, Int.reduceLE, Int.reduceEq, Int.reduceToNat, Nat.reduceBEq, true_and]
    refine br_if (fun hk => ?_) (fun hk => ?_)
    · have hkR : k < R := by omega
      have bk := bR k hkR
      simp (disch := first | omega | (simp only [List.length_take, List.length_drop, List.length_append, List.map_cons, List.map_nil, List.length_map, List.length_cons, List.length_nil, List.length_set, List.length_replicate]; omega) | (simp only [List.length_cons, List.length_nil, Nat.zero_add, Nat.reduceAdd])) only [go_sem, ↓reduceIte, Nat.reduceAdd, Int.reduceNeg, Int.reduceAdd, Int.reduceSub, Int.reduceMul, Int.reduceLT, Int.reduceLE, Int.reduceEq, Int.reduceToNat, Nat.reduceBEq, nm, na, ix_g, chk_g, encIt]
      refine br_if (fun h0 => ?_) (fun h0 => ?_)
      · simp (disch := first | omega | (simp only [List.length_take, List.length_drop, List.length_append, List.map_cons, List.map_nil, List.length_map, List.length_cons, List.length_nil, List.length_set, List.length_replicate]; omega) | (simp only [List.length_cons, List.length_nil, Nat.zero_add, Nat.reduceAdd])) only [go_sem, ↓reduceIte, Nat.reduceAdd, Int.reduceNeg, Int.reduceAdd, Int.reduceSub, Int.reduceMul, Int.reduceLT, Int.reduceLE, Int.reduceEq, Int.reduceToNat, Nat.reduceBEq, nat1]
        exact ⟨k + 1, rfl, ⟨by omega, by omega, fun i h1 h2 => by
          rcases Nat.lt_or_ge i k with h | h
          · exact k3 i h1 h
          · obtain rfl : i = k := by omega
            exact h0⟩, by omega⟩
      · have hn := nz_is k2 k1 k3 (.inr h0)
        simp (disch := first | omega | (simp only [List.length_take, List.length_drop, List.length_append, List.map_cons, List.map_nil, List.length_map, List.length_cons, List.length_nil, List.length_set, List.length_replicate]; omega) | (simp only [List.length_cons, List.length_nil, Nat.zero_add, Nat.reduceAdd])) only [go_sem, ↓reduceIte, Nat.reduceAdd, Int.reduceNeg, Int.reduceAdd, Int.reduceSub, Int.reduceMul, Int.reduceLT, Int.reduceLE, Int.reduceEq, Int.reduceToNat, Nat.reduceBEq, true_and]
        exact ⟨_, by rw [hn], by omega, by omega⟩
    · obtain rfl : k = R := by omega
      have hn := nz_is k2 k1 k3 (.inl rfl)
      simp (disch := first | omega | (simp only [List.length_take, List.length_drop, List.length_append, List.map_cons, List.map_nil, List.length_map, List.length_cons, List.length_nil, List.length_set, List.length_replicate]; omega) | (simp only [List.length_cons, List.length_nil, Nat.zero_add, Nat.reduceAdd])) only [go_sem, ↓reduceIte, Nat.reduceAdd, Int.reduceNeg, Int.reduceAdd, Int.reduceSub, Int.reduceMul, Int.reduceLT, Int.reduceLE, Int.reduceEq, Int.reduceToNat, Nat.reduceBEq, true_and]
      exact ⟨_, by rw [hn], by omega, by omega⟩
  rintro vs - ⟨x0, rfl, n1, n2⟩
  generalize hk0 : nz f c R r = k at *
  simp only [u_spec_l14Reduce_j6]
  simp (disch := first | omega | (simp only [List.length_take, List.length_drop, List.length_append, List.map_cons, List.map_nil, List.length_map, List.length_cons, List.length_nil, List.length_set, List.length_replicate]; omega) | (simp only [List.length_cons, List.length_nil, Nat.zero_add, Nat.reduceAdd])) only [go_sem, ↓reduceIte, Nat.reduceAdd, Int.reduceNeg, Int.reduceAdd, Int.reduceSub, Int.reduceMul, Int.reduceLT, Int.reduceLE, Int.reduceEq, Int.reduceToNat, Nat.reduceBEq, true_and]
  refine br_if (fun hk => ?_) (fun hk => ?_)
  · rw [if_pos (by omega)] at hstep
    simp (disch := first | omega | (simp only [List.length_take, List.length_drop, List.length_append, List.map_cons, List.map_nil, List.length_map, List.length_cons, List.length_nil, List.length_set, List.length_replicate]; omega) | (simp only [List.length_cons, List.length_nil, Nat.zero_add, Nat.reduceAdd])) only [go_sem, ↓reduceIte, Nat.reduceAdd, Int.reduceNeg, Int.reduceAdd, Int.reduceSub, Int.reduceMul, Int.reduceLT, Int.reduceLE, Int.reduceEq, Int.reduceToNat, Nat.reduceBEq, true_and]
    exact ⟨_, _, _, _, f, st, rfl, hstep⟩
  have hkR : k < R := by omega
  rw [if_neg (by omega)] at hstep
  have br := bR r hrR
  have bk := bR k hkR
  have fl1 : ∀ x : It, eFlat (some (.sl 33 3 [[.sc (.int .i64 x.num), .sc (.int .i64 x.den), .sc (.string x.text)]])) = some [] := fun _ => rfl
  have ap1 : ∀ (l : List It) (x : It), l.map encIt ++ [[.sc (.int .i64 x.num), .sc (.int .i64 x.den), .sc (.string x.text)]] = (l ++ [x]).map encIt := fun l x => by rw [List.map_append]; rfl
  have hap := facL_app st (c, f k c, decide (k ≠ r))
  simp (disch := first | omega | (simp only [List.length_take, List.length_drop, List.length_append, List.map_cons, List.map_nil, List.length_map, List.length_cons, List.length_nil, List.length_set, List.length_replicate]; omega) | (simp only [List.length_cons, List.length_nil, Nat.zero_add, Nat.reduceAdd])) only [go_sem, ↓reduceIte, Nat.reduceAdd, Int.reduceNeg, Int.reduceAdd, Int.reduceSub, Int.reduceMul, Int.reduceLT, Int.reduceLE, Int.reduceEq, Int.reduceToNat, Nat.reduceBEq, nm, na, ix_g, chk_g, encIt, fl1, ap1]
  refine jn_eq [.sl 33 3 ((facL (st ++ [(c, f k c, decide (k ≠ r))])).map encIt)] ?_ ?_
  · refine br_ifn (fun h => ?_) (fun h => ?_)
    · have : k = r := by omega
      simp (disch := first | omega | (simp only [List.length_take, List.length_drop, List.length_append, List.map_cons, List.map_nil, List.length_map, List.length_cons, List.length_nil, List.length_set, List.length_replicate]; omega) | (simp only [List.length_cons, List.length_nil, Nat.zero_add, Nat.reduceAdd])) only [go_sem, ↓reduceIte, Nat.reduceAdd, Int.reduceNeg, Int.reduceAdd, Int.reduceSub, Int.reduceMul, Int.reduceLT, Int.reduceLE, Int.reduceEq, Int.reduceToNat, Nat.reduceBEq, true_and]
      rw [hap]; simp [this]
    · have : k ≠ r := by omega
      simp (disch := first | omega | (simp only [List.length_take, List.length_drop, List.length_append, List.map_cons, List.map_nil, List.length_map, List.length_cons, List.length_nil, List.length_set, List.length_replicate]; omega) | (simp only [List.length_cons, List.length_nil, Nat.zero_add, Nat.reduceAdd])) only [go_sem, ↓reduceIte, Nat.reduceAdd, Int.reduceNeg, Int.reduceAdd, Int.reduceSub, Int.reduceMul, Int.reduceLT, Int.reduceLE, Int.reduceEq, Int.reduceToNat, Nat.reduceBEq, true_and]
      refine cl_ok (mL2Num (-1)) rfl ?_
      have hl2 : (facL st ++ [f k c]).length ≤ 1000 := by simp; omega
      simp (disch := first | omega | (simp only [List.length_take, List.length_drop, List.length_append, List.map_cons, List.map_nil, List.length_map, List.length_cons, List.length_nil, List.length_set, List.length_replicate]; omega) | (simp only [List.length_cons, List.length_nil, Nat.zero_add, Nat.reduceAdd])) only [go_sem, ↓reduceIte, Nat.reduceAdd, Int.reduceNeg, Int.reduceAdd, Int.reduceSub, Int.reduceMul, Int.reduceLT, Int.reduceLE, Int.reduceEq, Int.reduceToNat, Nat.reduceBEq, encIt, fl1, ap1]
      rw [hap]; simp [this]
  generalize hp : f k c = p at *
  simp only [u_spec_l14Reduce_j5]
  simp (disch := first | omega | (simp only [List.length_take, List.length_drop, List.length_append, List.map_cons, List.map_nil, List.length_map, List.length_cons, List.length_nil, List.length_set, List.length_replicate]; omega) | (simp only [List.length_cons, List.length_nil, Nat.zero_add, Nat.reduceAdd])) only [go_sem, ↓reduceIte, Nat.reduceAdd, Int.reduceNeg, Int.reduceAdd, Int.reduceSub, Int.reduceMul, Int.reduceLT, Int.reduceLE, Int.reduceEq, Int.reduceToNat, Nat.reduceBEq, true_and]
  refine lp_n W (fun j => [.sc (.int .i64 (j : Nat)), .sl 33 3 ((gridL W (sdJ r k p f j) (R * W)).map encIt)]) (by rw [sdJ_0]; rfl) fun j hj => ?_
  simp only [u_spec_l14Reduce_l4]
  simp (disch := first | omega | (simp only [List.length_take, List.length_drop, List.length_append, List.map_cons, List.map_nil, List.length_map, List.length_cons, List.length_nil, List.length_set, List.length_replicate]; omega) | (simp only [List.length_cons, List.length_nil, Nat.zero_add, Nat.reduceAdd])) only [go_sem, ↓reduceIte, Nat.reduceAdd, Int.reduceNeg, Int.reduceAdd, Int.reduceSub, Int.reduceMul, Int.reduceLT, Int.reduceLE, Int.reduceEq, Int.reduceToNat, Nat.reduceBEq, true_and]
  refine br_if (fun h => ?_) (fun h => ?_)
  · have hjW : j < W := by omega
    simp (disch := first | omega | (simp only [List.length_take, List.length_drop, List.length_append, List.map_cons, List.map_nil, List.length_map, List.length_cons, List.length_nil, List.length_set, List.length_replicate]; omega) | (simp only [List.length_cons, List.length_nil, Nat.zero_add, Nat.reduceAdd])) only [go_sem, ↓reduceIte, Nat.reduceAdd, Int.reduceNeg, Int.reduceAdd, Int.reduceSub, Int.reduceMul, Int.reduceLT, Int.reduceLE, Int.reduceEq, Int.reduceToNat, Nat.reduceBEq, nm, na, ix_g, chk_g, encIt, st_g, sdJ_at]
    refine cl_ok (mSpecDiv (f k j) p) rfl ?_
    simp (disch := first | omega | (simp only [List.length_take, List.length_drop, List.length_append, List.map_cons, List.map_nil, List.length_map, List.length_cons, List.length_nil, List.length_set, List.length_replicate]; omega) | (simp only [List.length_cons, List.length_nil, Nat.zero_add, Nat.reduceAdd])) only [go_sem, ↓reduceIte, Nat.reduceAdd, Int.reduceNeg, Int.reduceAdd, Int.reduceSub, Int.reduceMul, Int.reduceLT, Int.reduceLE, Int.reduceEq, Int.reduceToNat, Nat.reduceBEq, nm, na, ix_g, chk_g, encIt, st_g, sdJ_at, sdJ_step, nat1]
    exact hjW
  obtain rfl : W = j := by omega
  have hgf : elJ r c W (sdJ r k p f W) R 0 = stepF W R r k c f := by unfold stepF; rw [hp]
  generalize sdJ r k p f W = g at *
  simp (disch := first | omega | (simp only [List.length_take, List.length_drop, List.length_append, List.map_cons, List.map_nil, List.length_map, List.length_cons, List.length_nil, List.length_set, List.length_replicate]; omega) | (simp only [List.length_cons, List.length_nil, Nat.zero_add, Nat.reduceAdd])) only [go_sem, ↓reduceIte, Nat.reduceAdd, Int.reduceNeg, Int.reduceAdd, Int.reduceSub, Int.reduceMul, Int.reduceLT, Int.reduceLE, Int.reduceEq, Int.reduceToNat, Nat.reduceBEq, true_and]
  refine lp_n R (fun i => [.sc (.int .i64 (i : Nat)), .sl 33 3 ((gridL W (elJ r c W g i 0) (R * W)).map encIt)]) (by rw [elJ_0]; rfl) fun i hi => ?_
  simp only [u_spec_l14Reduce_l3]
  simp (disch := first | omega | (simp only [List.length_take, List.length_drop, List.length_append, List.map_cons, List.map_nil, List.length_map, List.length_cons, List.length_nil, List.length_set, List.length_replicate]; omega) | (simp only [List.length_cons, List.length_nil, Nat.zero_add, Nat.reduceAdd])) only [go_sem, ↓reduceIte, Nat.reduceAdd, Int.reduceNeg, Int.reduceAdd, Int.reduceSub, Int.reduceMul, Int.reduceLT, Int.reduceLE, Int.reduceEq, Int.reduceToNat, Nat.reduceBEq, true_and]
  refine br_if (fun h => ?_) (fun h => ?_)
  · have hiR : i < R := by omega
    have bi := bR i hiR
    simp (disch := first | omega | (simp only [List.length_take, List.length_drop, List.length_append, List.map_cons, List.map_nil, List.length_map, List.length_cons, List.length_nil, List.length_set, List.length_replicate]; omega) | (simp only [List.length_cons, List.length_nil, Nat.zero_add, Nat.reduceAdd])) only [go_sem, ↓reduceIte, Nat.reduceAdd, Int.reduceNeg, Int.reduceAdd, Int.reduceSub, Int.reduceMul, Int.reduceLT, Int.reduceLE, Int.reduceEq, Int.reduceToNat, Nat.reduceBEq, true_and]
    refine jn (fun vs => ∃ y0 y1 y3 y4 y5, vs = [y0, y1, .sl 33 3 ((gridL W (elJ r c W g (i + 1) 0) (R * W)).map encIt), y3, y4, y5]) ?_ ?_
    rotate_left
    · rintro vs - ⟨y0, y1, y3, y4, y5, rfl⟩
      simp only [u_spec_l14Reduce_j2]
      simp (disch := first | omega | (simp only [List.length_take, List.length_drop, List.length_append, List.map_cons, List.map_nil, List.length_map, List.length_cons, List.length_nil, List.length_set, List.length_replicate]; omega) | (simp only [List.length_cons, List.length_nil, Nat.zero_add, Nat.reduceAdd])) only [go_sem, ↓reduceIte, Nat.reduceAdd, Int.reduceNeg, Int.reduceAdd, Int.reduceSub, Int.reduceMul, Int.reduceLT, Int.reduceLE, Int.reduceEq, Int.reduceToNat, Nat.reduceBEq, nat1]
      exact hiR
    simp (disch := first | omega | (simp only [List.length_take, List.length_drop, List.length_append, List.map_cons, List.map_nil, List.length_map, List.length_cons, List.length_nil, List.length_set, List.length_replicate]; omega) | (simp only [List.length_cons, List.length_nil, Nat.zero_add, Nat.reduceAdd])) only [go_sem, ↓reduceIte, Nat.reduceAdd, Int.reduceNeg, Int.reduceAdd, Int.reduceSub, Int.reduceMul, Int.reduceLT, Int.reduceLE, Int.reduceEq, Int.reduceToNat, Nat.reduceBEq, nm, na, ix_g, chk_g, encIt, elJ_c hcW]
    refine lp_n W (fun j => [.sc (.int .i64 (j : Nat)), .sl 33 3 ((gridL W (elJ r c W g i j) (R * W)).map encIt)]) rfl fun j hj => ?_
    simp only [u_spec_l14Reduce_l1]
    simp (disch := first | omega | (simp only [List.length_take, List.length_drop, List.length_append, List.map_cons, List.map_nil, List.length_map, List.length_cons, List.length_nil, List.length_set, List.length_replicate]; omega) | (simp only [List.length_cons, List.length_nil, Nat.zero_add, Nat.reduceAdd])) only [go_sem, ↓reduceIte, Nat.reduceAdd, Int.reduceNeg, Int.reduceAdd, Int.reduceSub, Int.reduceMul, Int.reduceLT, Int.reduceLE, Int.reduceEq, Int.reduceToNat, Nat.reduceBEq, true_and]
    refine br_ifn (fun hir => ?_) (fun hir => ?_)
    · simp (disch := first | omega | (simp only [List.length_take, List.length_drop, List.length_append, List.map_cons, List.map_nil, List.length_map, List.length_cons, List.length_nil, List.length_set, List.length_replicate]; omega) | (simp only [List.length_cons, List.length_nil, Nat.zero_add, Nat.reduceAdd])) only [go_sem, ↓reduceIte, Nat.reduceAdd, Int.reduceNeg, Int.reduceAdd, Int.reduceSub, Int.reduceMul, Int.reduceLT, Int.reduceLE, Int.reduceEq, Int.reduceToNat, Nat.reduceBEq, elJ_skip' (g := g) (c := c) (W := W) (i := i) (j := j) (r := r) (Or.inl (by omega))]
      exact ⟨_, _, _, _, _, rfl⟩
    have hir' : i ≠ r := by omega
    simp (disch := first | omega | (simp only [List.length_take, List.length_drop, List.length_append, List.map_cons, List.map_nil, List.length_map, List.length_cons, List.length_nil, List.length_set, List.length_replicate]; omega) | (simp only [List.length_cons, List.length_nil, Nat.zero_add, Nat.reduceAdd])) only [go_sem, ↓reduceIte, Nat.reduceAdd, Int.reduceNeg, Int.reduceAdd, Int.reduceSub, Int.reduceMul, Int.reduceLT, Int.reduceLE, Int.reduceEq, Int.reduceToNat, Nat.reduceBEq, true_and]
    refine br_ifn (fun hn => ?_) (fun hn => ?_)
    · simp (disch := first | omega | (simp only [List.length_take, List.length_drop, List.length_append, List.map_cons, List.map_nil, List.length_map, List.length_cons, List.length_nil, List.length_set, List.length_replicate]; omega) | (simp only [List.length_cons, List.length_nil, Nat.zero_add, Nat.reduceAdd])) only [go_sem, ↓reduceIte, Nat.reduceAdd, Int.reduceNeg, Int.reduceAdd, Int.reduceSub, Int.reduceMul, Int.reduceLT, Int.reduceLE, Int.reduceEq, Int.reduceToNat, Nat.reduceBEq, elJ_skip' (g := g) (c := c) (W := W) (i := i) (j := j) (r := r) (Or.inr hn)]
      exact ⟨_, _, _, _, _, rfl⟩
    simp (disch := first | omega | (simp only [List.length_take, List.length_drop, List.length_append, List.map_cons, List.map_nil, List.length_map, List.length_cons, List.length_nil, List.length_set, List.length_replicate]; omega) | (simp only [List.length_cons, List.length_nil, Nat.zero_add, Nat.reduceAdd])) only [go_sem, ↓reduceIte, Nat.reduceAdd, Int.reduceNeg, Int.reduceAdd, Int.reduceSub, Int.reduceMul, Int.reduceLT, Int.reduceLE, Int.reduceEq, Int.reduceToNat, Nat.reduceBEq, true_and]
    refine br_if (fun h => ?_) (fun h => ?_)
    · have hjW : j < W := by omega
      simp (disch := first | omega | (simp only [List.length_take, List.length_drop, List.length_append, List.map_cons, List.map_nil, List.length_map, List.length_cons, List.length_nil, List.length_set, List.length_replicate]; omega) | (simp only [List.length_cons, List.length_nil, Nat.zero_add, Nat.reduceAdd])) only [go_sem, ↓reduceIte, Nat.reduceAdd, Int.reduceNeg, Int.reduceAdd, Int.reduceSub, Int.reduceMul, Int.reduceLT, Int.reduceLE, Int.reduceEq, Int.reduceToNat, Nat.reduceBEq, nm, na, ix_g, chk_g, encIt, elJ_at, elJ_r]
      refine cl_ok (mSpecMul (g i c) (g r j)) rfl ?_
      simp (disch := first | omega | (simp only [List.length_take, List.length_drop, List.length_append, List.map_cons, List.map_nil, List.length_map, List.length_cons, List.length_nil, List.length_set, List.length_replicate]; omega) | (simp only [List.length_cons, List.length_nil, Nat.zero_add, Nat.reduceAdd])) only [go_sem, ↓reduceIte, Nat.reduceAdd, Int.reduceNeg, Int.reduceAdd, Int.reduceSub, Int.reduceMul, Int.reduceLT, Int.reduceLE, Int.reduceEq, Int.reduceToNat, Nat.reduceBEq, encIt]
      refine cl_ok (mSpecSub (g i j) _) rfl ?_
      simp (disch := first | omega | (simp only [List.length_take, List.length_drop, List.length_append, List.map_cons, List.map_nil, List.length_map, List.length_cons, List.length_nil, List.length_set, List.length_replicate]; omega) | (simp only [List.length_cons, List.length_nil, Nat.zero_add, Nat.reduceAdd])) only [go_sem, ↓reduceIte, Nat.reduceAdd, Int.reduceNeg, Int.reduceAdd, Int.reduceSub, Int.reduceMul, Int.reduceLT, Int.reduceLE, Int.reduceEq, Int.reduceToNat, Nat.reduceBEq, nm, na, ix_g, chk_g, encIt, st_g, elJ_step hir' hn hjW, nat1]
      exact hjW
    · obtain rfl : W = j := by omega
      simp (disch := first | omega | (simp only [List.length_take, List.length_drop, List.length_append, List.map_cons, List.map_nil, List.length_map, List.length_cons, List.length_nil, List.length_set, List.length_replicate]; omega) | (simp only [List.length_cons, List.length_nil, Nat.zero_add, Nat.reduceAdd])) only [go_sem, ↓reduceIte, Nat.reduceAdd, Int.reduceNeg, Int.reduceAdd, Int.reduceSub, Int.reduceMul, Int.reduceLT, Int.reduceLE, Int.reduceEq, Int.reduceToNat, Nat.reduceBEq, elJ_W]
      exact ⟨_, _, _, _, _, rfl⟩
  obtain rfl : R = i := by omega
  rw [hgf]
  have hall := l14Known_m R W (gridL W (stepF W R r k c f) (R * W)) (by rw [gridL_len]; omega)
  simp only [encMt, encIts] at hall
  generalize hsf : stepF W R r k c f = sf at *
  have hpv := pivL_app st (c, p, decide (k ≠ r))
  have hst : (pivL st).map encZ ++ [[.sc (.int .i64 (c : Nat))]] = (pivL (st ++ [(c, p, decide (k ≠ r))])).map encZ := by
    rw [hpv, List.map_append]; rfl
  have hpl2 : (pivL st).length ≤ 1000 := by omega
  simp (disch := first | omega | (simp only [List.length_take, List.length_drop, List.length_append, List.map_cons, List.map_nil, List.length_map, List.length_cons, List.length_nil, List.length_set, List.length_replicate]; omega) | (simp only [List.length_cons, List.length_nil, Nat.zero_add, Nat.reduceAdd])) only [go_sem, ↓reduceIte, Nat.reduceAdd, Int.reduceNeg, Int.reduceAdd, Int.reduceSub, Int.reduceMul, Int.reduceLT, Int.reduceLE, Int.reduceEq, Int.reduceToNat, Nat.reduceBEq, fl1_z, hst]
  refine cl_ok hall rfl ?_
  simp (disch := first | omega | (simp only [List.length_take, List.length_drop, List.length_append, List.map_cons, List.map_nil, List.length_map, List.length_cons, List.length_nil, List.length_set, List.length_replicate]; omega) | (simp only [List.length_cons, List.length_nil, Nat.zero_add, Nat.reduceAdd])) only [go_sem, ↓reduceIte, Nat.reduceAdd, Int.reduceNeg, Int.reduceAdd, Int.reduceSub, Int.reduceMul, Int.reduceLT, Int.reduceLE, Int.reduceEq, Int.reduceToNat, Nat.reduceBEq, true_and]
  refine br_nb (fun ha => ?_) (fun ha => ?_)
  · rw [if_pos ha] at hstep
    simp (disch := first | omega | (simp only [List.length_take, List.length_drop, List.length_append, List.map_cons, List.map_nil, List.length_map, List.length_cons, List.length_nil, List.length_set, List.length_replicate]; omega) | (simp only [List.length_cons, List.length_nil, Nat.zero_add, Nat.reduceAdd])) only [go_sem, ↓reduceIte, Nat.reduceAdd, Int.reduceNeg, Int.reduceAdd, Int.reduceSub, Int.reduceMul, Int.reduceLT, Int.reduceLE, Int.reduceEq, Int.reduceToNat, Nat.reduceBEq, true_and]
    exact ⟨_, _, _, _, sf, _, rfl, hstep⟩
  · rw [if_neg (by simp [ha])] at hstep
    rw [redS_none hstep (by omega)]
    simp (disch := first | omega | (simp only [List.length_take, List.length_drop, List.length_append, List.map_cons, List.map_nil, List.length_map, List.length_cons, List.length_nil, List.length_set, List.length_replicate]; omega) | (simp only [List.length_cons, List.length_nil, Nat.zero_add, Nat.reduceAdd])) only [go_sem, ↓reduceIte, Nat.reduceAdd, Int.reduceNeg, Int.reduceAdd, Int.reduceSub, Int.reduceMul, Int.reduceLT, Int.reduceLE, Int.reduceEq, Int.reduceToNat, Nat.reduceBEq, true_and]
    rfl
theorem ix_st {t : Nat} {l : List Stp} {kd : IntKind} {z : Int} (h : 0 ≤ z) (h1 : z < l.length) : eIdx 5 (some (.sl t 5 (l.map encSt))) (some (.sc (.int kd z))) = some (encSt (l.getD z.toNat default)) := e_idx_map (fun _ => rfl) h h1
end Go.Proofs.Ytolkglnkdfcceaa

namespace Go.Proofs.Ytolkglnkdfcceaa
open Go.RowKit
set_option maxRecDepth 100000

theorem redS_piv {W R : Nat} {f0 : Nat → Nat → It} : ∀ {c : Nat} {f : Nat → Nat → It} {st : List Stp}, redS W R f0 c = some (f, st) → (∀ x ∈ st, x.1 < c) ∧ st.Pairwise (fun x y => x.1 < y.1)
  | 0, f, st, h => by simp only [redS] at h; injection h with h; injection h with _ h; subst h; simp
  | c + 1, f, st, h => by
    simp only [redS] at h
    split at h
    · cases h
    · rename_i g s1 h1
      obtain ⟨i1, i2⟩ := redS_piv h1
      have i3 : ∀ x ∈ s1, x.1 < c + 1 := fun x hx => Nat.lt_succ_of_lt (i1 x hx)
      unfold red1 at h
      split at h
      · injection h with h; injection h with _ h; subst h; exact ⟨i3, i2⟩
      · split at h
        · injection h with h; injection h with _ h; subst h; exact ⟨i3, i2⟩
        · split at h
          · injection h with h; injection h with _ h; subst h
            refine ⟨fun x hx => ?_, ?_⟩
            · rcases List.mem_append.1 hx with hx | hx
              · exact i3 x hx
              · rw [List.mem_singleton.1 hx]; exact Nat.lt_succ_self _
            · rw [List.pairwise_append]
              refine ⟨i2, by simp, fun x hx y hy => ?_⟩
              rw [List.mem_singleton.1 hy]; exact i1 x hx
          · cases h
def big (c : Nat) (st : List Stp) : Bool := st.any fun x => decide (c ≤ x.1)
theorem big_last {c : Nat} {st : List Stp} (h : st.Pairwise (fun x y => x.1 < y.1)) (hl : 0 < st.length) : big c st = decide (c ≤ (st.getD (st.length - 1) default).1) := by
  rcases List.eq_nil_or_concat st with h0 | ⟨s, x, h0⟩
  · subst h0; simp at hl
  · have h0 : st = s ++ [x] := by rw [h0, List.concat_eq_append]
    subst h0
    have e : (s ++ [x]).getD ((s ++ [x]).length - 1) default = x := by
      rw [List.getD_eq_getElem?_getD, List.length_append, List.length_singleton, Nat.add_sub_cancel, List.getElem?_append_right (Nat.le_refl _)]; simp
    rw [e]
    unfold big
    rw [List.any_append]
    simp only [List.any_cons, List.any_nil, Bool.or_false]
    by_cases hx : c ≤ x.1
    · simp [hx]
    · rw [decide_eq_false hx, Bool.or_false]
      rw [List.any_eq_false]
      intro y hy
      rw [List.pairwise_append] at h
      have := h.2.2 y hy x (by simp)
      simp; omega
theorem big_nil {c : Nat} : big c [] = false := rfl
theorem big_take {c i : Nat} {st : List Stp} (h : i < st.length) : big c (st.take (i + 1)) = (big c (st.take i) || decide (c ≤ (st.getD i default).1)) := by
  unfold big
  rw [List.take_succ_eq_append_getElem h, List.any_append, List.getD_eq_getElem?_getD, List.getElem?_eq_getElem h]; simp
theorem big_get {c i : Nat} {st : List Stp} (h : i < st.length) (hb : c ≤ (st.getD i default).1) : big c st = true := by
  unfold big
  rw [List.any_eq_true]
  rw [List.getD_eq_getElem?_getD, List.getElem?_eq_getElem h] at hb
  exact ⟨st[i], List.getElem_mem h, by simpa using hb⟩
theorem big_lt {c i : Nat} {st : List Stp} (h : i < st.length) (hb : big c st = false) : (st.getD i default).1 < c := by
  rcases Nat.lt_or_ge (st.getD i default).1 c with h1 | h1
  · exact h1
  · rw [big_get h h1] at hb; cases hb
theorem piv_lt {W R c i : Nat} {f0 f : Nat → Nat → It} {st : List Stp} (h : redS W R f0 c = some (f, st)) (hi : i < st.length) : (st.getD i default).1 < c := by
  rw [List.getD_eq_getElem?_getD, List.getElem?_eq_getElem hi]
  exact (redS_piv h).1 _ (List.getElem_mem hi)
theorem pivL_getD {st : List Stp} {i : Nat} (h : i < st.length) : (pivL st).getD i default = ((st.getD i default).1 : Int) := by
  unfold pivL
  rw [List.getD_eq_getElem?_getD, List.getD_eq_getElem?_getD, List.getElem?_map, List.getElem?_eq_getElem h]; rfl
theorem pivL_len (st : List Stp) : (pivL st).length = st.length := by simp [pivL]

theorem besL_len' (a b : Nat) (la lb : List It) (n : Nat) (ha : la.length = n * a) (hb : lb.length = n * b) : ∀ i, i ≤ n → (besL a b la lb i).length = i * (a + b)
  | 0, _ => by simp [besL]
  | i + 1, hi => by
    have k1 : i * a + a ≤ n * a := by rw [← Nat.succ_mul]; exact Nat.mul_le_mul_right _ hi
    have k2 : i * b + b ≤ n * b := by rw [← Nat.succ_mul]; exact Nat.mul_le_mul_right _ hi
    have := besL_len' a b la lb n ha hb i (by omega)
    simp only [besL, List.length_append, List.length_take, List.length_drop, Nat.succ_mul]
    omega
set_option maxHeartbeats 1000000 in
theorem specBeside_m (n a b : Nat) (r : Int) (la lb : List It) (hn : n ≤ 12) (ha : a ≤ 12) (hb : b ≤ 12) (hla : la.length = n * a) (hlb : lb.length = n * b) :
    Meets Try.prog 53 [(true, encMt ⟨n, a, la⟩), (true, encMt ⟨r, b, lb⟩)] [(true, encMt ⟨n, (a + b : Nat), besL a b la lb n⟩, true)] := by
  refine meets_upf Try.func53 u_spec_l14Beside_g rfl ?_; simp only [u_spec_l14Beside_u]
  simp (disch := first | omega | (simp only [List.length_take, List.length_drop, List.length_append, List.map_cons, List.map_nil, List.length_map, List.length_cons, List.length_nil, List.length_set, List.length_replicate]; omega) | (simp only [List.length_cons, List.length_nil, Nat.zero_add, Nat.reduceAdd])) only [go_sem, ↓reduceIte, Nat.reduceAdd, Int.reduceNeg, Int.reduceAdd, Int.reduceSub, Int.reduceMul, Int.reduceLT, Int.reduceLE, Int.reduceEq, Int.reduceToNat, Nat.reduceBEq, encMt, encIts]
  refine lp_n n (fun i => [.sc (.int .i64 (i : Nat)), .sl 33 3 ((besL a b la lb i).map encIt)]) rfl fun i hi => ?_
  have h1 : i * a ≤ 12 * 12 := Nat.mul_le_mul (by omega) (by omega)
  have h2 : i * b ≤ 12 * 12 := Nat.mul_le_mul (by omega) (by omega)
  have h3 := besL_len a b la lb i
  have h4 : i * (a + b) ≤ 12 * 24 := Nat.mul_le_mul (by omega) (by omega)
  have g1 : (i : Int) * a = ((i * a : Nat) : Int) := by simp
  have g2 : (i : Int) * b = ((i * b : Nat) : Int) := by simp
  simp only [u_spec_l14Beside_l0]
  simp (disch := first | omega | (simp only [List.length_take, List.length_drop, List.length_append, List.map_cons, List.map_nil, List.length_map, List.length_cons, List.length_nil, List.length_set, List.length_replicate]; omega) | (simp only [List.length_cons, List.length_nil, Nat.zero_add, Nat.reduceAdd])) only [go_sem, ↓reduceIte, Nat.reduceAdd, Int.reduceNeg, Int.reduceAdd, Int.reduceSub, Int.reduceMul, Int.reduceLT, Int.reduceLE, Int.reduceEq, Int.reduceToNat, Nat.reduceBEq, nat1, g1, g2, na]
  refine br_if (fun h => ?_) (fun h => ?_)
  · have hlt : i < n := by omega
    have k1 : i * a + a ≤ n * a := by rw [← Nat.succ_mul]; exact Nat.mul_le_mul_right _ hlt
    have k2 : i * b + b ≤ n * b := by rw [← Nat.succ_mul]; exact Nat.mul_le_mul_right _ hlt
    simp (disch := first | omega | (simp only [List.length_take, List.length_drop, List.length_append, List.map_cons, List.map_nil, List.length_map, List.length_cons, List.length_nil, List.length_set, List.length_replicate]; omega) | (simp only [List.length_cons, List.length_nil, Nat.zero_add, Nat.reduceAdd])) only [go_sem, ↓reduceIte, Nat.reduceAdd, Int.reduceNeg, Int.reduceAdd, Int.reduceSub, Int.reduceMul, Int.reduceLT, Int.reduceLE, Int.reduceEq, Int.reduceToNat, Nat.reduceBEq, nat1, g1, g2, na, fl_it]
    refine ⟨?_, hlt⟩
    simp [besL]
  · have : i = n := by omega
    subst this
    simp (disch := first | omega | (simp only [List.length_take, List.length_drop, List.length_append, List.map_cons, List.map_nil, List.length_map, List.length_cons, List.length_nil, List.length_set, List.length_replicate]; omega) | (simp only [List.length_cons, List.length_nil, Nat.zero_add, Nat.reduceAdd])) only [go_sem, ↓reduceIte, Nat.reduceAdd, Int.reduceNeg, Int.reduceAdd, Int.reduceSub, Int.reduceMul, Int.reduceLT, Int.reduceLE, Int.reduceEq, Int.reduceToNat, Nat.reduceBEq, true_and]
    rfl
theorem fl1_i {t : Nat} {a b : Int} {d : ByteArray} : eFlat (some (.sl t 3 [[.sc (.int .i64 a), .sc (.int .i64 b), .sc (.string d)]])) = some [] := rfl
def augR (n a b : Nat) (la lb : List It) : Option ((Nat → Nat → It) × List Stp) := redS (a + b) n (celF (a + b) (besL a b la lb n)) (a + b)
theorem implAug_m (n a b : Nat) (la lb : List It) (hn : n ≤ 12) (ha : a ≤ 12) (hb : b ≤ 12) (hla : la.length = n * a) (hlb : lb.length = n * b) :
    Meets Try.prog 50 [(true, encMt ⟨n, (a + b : Nat), besL a b la lb n⟩)] (resI (a + b) n (augR n a b la lb)) := by
  have hk := implRed_m n (a + b) (celF (a + b) (besL a b la lb n)) (by omega) (by omega)
  rw [← grid_of (besL_len' a b la lb n hla hlb n (Nat.le_refl _))] at hk
  exact hk
theorem specAug_m (n a b : Nat) (la lb : List It) (hn : n ≤ 12) (ha : a ≤ 12) (hb : b ≤ 12) (hla : la.length = n * a) (hlb : lb.length = n * b) :
    Meets Try.prog 52 [(true, encMt ⟨n, (a + b : Nat), besL a b la lb n⟩)] (resS (a + b) n (augR n a b la lb)) := by
  have hk := specRed_m n (a + b) (celF (a + b) (besL a b la lb n)) (by omega) (by omega)
  rw [← grid_of (besL_len' a b la lb n hla hlb n (Nat.le_refl _))] at hk
  exact hk

def solL (c : Nat) (f : Nat → Nat → It) (st : List Stp) : Nat → List It
  | 0 => List.replicate c (l2N 0)
  | i + 1 => (solL c f st i).set (st.getD i default).1 (f i c)
theorem solL_len (c : Nat) (f : Nat → Nat → It) (st : List Stp) : ∀ i, (solL c f st i).length = c
  | 0 => by simp [solL]
  | i + 1 => by simp [solL, solL_len c f st i]
def slvE (n c : Nat) (la lb : List It) : Option (List It) := match augR n c 1 la lb with
  | none => none
  | some x => if big c x.2 = true then none else some (solL c x.1 x.2 x.2.length)
def slv (a b : Mt) : Option (List It) := if mtB a = true ∧ mtB b = true ∧ a.rows = b.rows ∧ b.cols = 1 then slvE a.rows.toNat a.cols.toNat a.cells b.cells else none
def slvM (a b : Mt) : Mt := match slv a b with | none => ⟨0, 0, []⟩ | some l => ⟨a.cols, 1, l⟩
theorem slv_len {a b : Mt} {l : List It} (h : slv a b = some l) : mtB a = true ∧ (l.length : Int) = a.cols := by
  unfold slv at h
  split at h
  · rename_i h1
    obtain ⟨g1, g2, g3, g4, -⟩ := mtB_dims h1.1
    refine ⟨h1.1, ?_⟩
    unfold slvE at h
    split at h
    · cases h
    · split at h
      · cases h
      · injection h with h
        rw [← h, solL_len]; omega
  · cases h
theorem slvM_len (a b : Mt) : (slvM a b).cells.length ≤ 144 := by
  unfold slvM
  split
  · simp
  · rename_i l h
    obtain ⟨h1, h2⟩ := slv_len h
    obtain ⟨g1, g2, g3, g4, -⟩ := mtB_dims h1
    simp only; omega
end Go.Proofs.Ytolkglnkdfcceaa

namespace Go.Proofs.Ytolkglnkdfcceaa
open Go.RowKit
set_option maxRecDepth 100000

theorem slv_none {a b : Mt} (h : ¬ (mtB a = true ∧ mtB b = true ∧ a.rows = b.rows ∧ b.cols = 1)) : slv a b = none := by unfold slv; rw [if_neg h]
theorem slv_some {n c : Nat} {la lb : List It} (h1 : mtB ⟨n, c, la⟩ = true) (h2 : mtB ⟨n, 1, lb⟩ = true) : slv ⟨n, c, la⟩ ⟨n, 1, lb⟩ = slvE n c la lb := by
  unfold slv; rw [if_pos ⟨h1, h2, rfl, rfl⟩]; rfl
theorem rep_succ {i : Nat} {x : It} : List.replicate (i + 1) x = List.replicate i x ++ [x] := List.replicate_succ'
set_option maxHeartbeats 2000000 in
theorem implSlv_m (a b : Mt) : Meets Try.prog 20 [(true, encMt a), (true, encMt b)] [(true, encMt (slvM a b), true), (false, [.sc (.bool (slv a b).isSome)], true)] := by
  obtain ⟨ra, ca, la⟩ := a
  obtain ⟨rb, cb, lb⟩ := b
  have hma := isMt_m ⟨ra, ca, la⟩
  have hmb := isMt_m ⟨rb, cb, lb⟩
  unfold slvM
  refine meets_upf Try.func20 u_impl_SolveSystem_g rfl ?_; simp only [u_impl_SolveSystem_u]
  simp only [encMt, encIts] at hma hmb ⊢
  simp (disch := first | omega | (simp only [List.length_take, List.length_drop, List.length_append, List.map_cons, List.map_nil, List.length_map, List.length_cons, List.length_nil, List.length_set, List.length_replicate]; omega) | (simp only [List.length_cons, List.length_nil, Nat.zero_add, Nat.reduceAdd])) only [go_sem, ↓reduceIte, Nat.reduceAdd, Int.reduceNeg, Int.reduceAdd, Int.reduceSub, Int.reduceMul, Int.reduceLT, Int.reduceLE, Int.reduceEq, Int.reduceToNat, Nat.reduceBEq, true_and]
  refine cl_ok hma rfl ?_
  cases hA : mtB ⟨ra, ca, la⟩
  · rw [slv_none (by simp [hA])]
    simp (disch := first | omega | (simp only [List.length_take, List.length_drop, List.length_append, List.map_cons, List.map_nil, List.length_map, List.length_cons, List.length_nil, List.length_set, List.length_replicate]; omega) | (simp only [List.length_cons, List.length_nil, Nat.zero_add, Nat.reduceAdd])) only [go_sem, ↓reduceIte, Nat.reduceAdd, Int.reduceNeg, Int.reduceAdd, Int.reduceSub, Int.reduceMul, Int.reduceLT, Int.reduceLE, Int.reduceEq, Int.reduceToNat, Nat.reduceBEq, true_and]
    rfl
  simp (disch := first | omega | (simp only [List.length_take, List.length_drop, List.length_append, List.map_cons, List.map_nil, List.length_map, List.length_cons, List.length_nil, List.length_set, List.length_replicate]; omega) | (simp only [List.length_cons, List.length_nil, Nat.zero_add, Nat.reduceAdd])) only [go_sem, ↓reduceIte, Nat.reduceAdd, Int.reduceNeg, Int.reduceAdd, Int.reduceSub, Int.reduceMul, Int.reduceLT, Int.reduceLE, Int.reduceEq, Int.reduceToNat, Nat.reduceBEq, true_and]
  refine cl_ok hmb rfl ?_
  cases hB : mtB ⟨rb, cb, lb⟩
  · rw [slv_none (by simp [hB])]
    simp (disch := first | omega | (simp only [List.length_take, List.length_drop, List.length_append, List.map_cons, List.map_nil, List.length_map, List.length_cons, List.length_nil, List.length_set, List.length_replicate]; omega) | (simp only [List.length_cons, List.length_nil, Nat.zero_add, Nat.reduceAdd])) only [go_sem, ↓reduceIte, Nat.reduceAdd, Int.reduceNeg, Int.reduceAdd, Int.reduceSub, Int.reduceMul, Int.reduceLT, Int.reduceLE, Int.reduceEq, Int.reduceToNat, Nat.reduceBEq, true_and]
    rfl
  simp (disch := first | omega | (simp only [List.length_take, List.length_drop, List.length_append, List.map_cons, List.map_nil, List.length_map, List.length_cons, List.length_nil, List.length_set, List.length_replicate]; omega) | (simp only [List.length_cons, List.length_nil, Nat.zero_add, Nat.reduceAdd])) only [go_sem, ↓reduceIte, Nat.reduceAdd, Int.reduceNeg, Int.reduceAdd, Int.reduceSub, Int.reduceMul, Int.reduceLT, Int.reduceLE, Int.reduceEq, Int.reduceToNat, Nat.reduceBEq, true_and]
  refine br_ifn (fun h1 => ?_) (fun h1 => ?_)
  rotate_left
  · rw [slv_none (by simp only; rintro ⟨-, -, -, h⟩; exact h1 h)]
    simp (disch := first | omega | (simp only [List.length_take, List.length_drop, List.length_append, List.map_cons, List.map_nil, List.length_map, List.length_cons, List.length_nil, List.length_set, List.length_replicate]; omega) | (simp only [List.length_cons, List.length_nil, Nat.zero_add, Nat.reduceAdd])) only [go_sem, ↓reduceIte, Nat.reduceAdd, Int.reduceNeg, Int.reduceAdd, Int.reduceSub, Int.reduceMul, Int.reduceLT, Int.reduceLE, Int.reduceEq, Int.reduceToNat, Nat.reduceBEq, true_and]
    rfl
  subst h1
  simp (disch := first | omega | (simp only [List.length_take, List.length_drop, List.length_append, List.map_cons, List.map_nil, List.length_map, List.length_cons, List.length_nil, List.length_set, List.length_replicate]; omega) | (simp only [List.length_cons, List.length_nil, Nat.zero_add, Nat.reduceAdd])) only [go_sem, ↓reduceIte, Nat.reduceAdd, Int.reduceNeg, Int.reduceAdd, Int.reduceSub, Int.reduceMul, Int.reduceLT, Int.reduceLE, Int.reduceEq, Int.reduceToNat, Nat.reduceBEq, true_and]
  refine br_ifn (fun h1 => ?_) (fun h1 => ?_)
  rotate_left
  · rw [slv_none (by simp only; rintro ⟨-, -, h, -⟩; exact h1 h)]
    simp (disch := first | omega | (simp only [List.length_take, List.length_drop, List.length_append, List.map_cons, List.map_nil, List.length_map, List.length_cons, List.length_nil, List.length_set, List.length_replicate]; omega) | (simp only [List.length_cons, List.length_nil, Nat.zero_add, Nat.reduceAdd])) only [go_sem, ↓reduceIte, Nat.reduceAdd, Int.reduceNeg, Int.reduceAdd, Int.reduceSub, Int.reduceMul, Int.reduceLT, Int.reduceLE, Int.reduceEq, Int.reduceToNat, Nat.reduceBEq, true_and]
    rfl
  subst h1
  obtain ⟨g1, g2, g3, g4, g5⟩ := mtB_dims hA
  obtain ⟨k1, k2, k3, k4, k5⟩ := mtB_dims hB
  simp only at g1 g2 g3 g4 g5 k5
  obtain ⟨n, rfl⟩ := Int.eq_ofNat_of_zero_le g1
  obtain ⟨c, rfl⟩ := Int.eq_ofNat_of_zero_le g3
  have hla : la.length = n * c := by exact_mod_cast g5
  have hlb : lb.length = n * 1 := by omega
  rw [slv_some hA hB]
  have hbe := implBeside_m n c 1 n la lb (by omega) (by omega) (by omega) hla hlb
  have hau := implAug_m n c 1 la lb (by omega) (by omega) (by omega) hla hlb
  unfold slvE
  simp only [encMt, encIts] at hbe hau
  simp (disch := first | omega | (simp only [List.length_take, List.length_drop, List.length_append, List.map_cons, List.map_nil, List.length_map, List.length_cons, List.length_nil, List.length_set, List.length_replicate]; omega) | (simp only [List.length_cons, List.length_nil, Nat.zero_add, Nat.reduceAdd])) only [go_sem, ↓reduceIte, Nat.reduceAdd, Int.reduceNeg, Int.reduceAdd, Int.reduceSub, Int.reduceMul, Int.reduceLT, Int.reduceLE, Int.reduceEq, Int.reduceToNat, Nat.reduceBEq, true_and]
  refine cl_ok hbe rfl ?_
  simp (disch := first | omega | (simp only [List.length_take, List.length_drop, List.length_append, List.map_cons, List.map_nil, List.length_map, List.length_cons, List.length_nil, List.length_set, List.length_replicate]; omega) | (simp only [List.length_cons, List.length_nil, Nat.zero_add, Nat.reduceAdd])) only [go_sem, ↓reduceIte, Nat.reduceAdd, Int.reduceNeg, Int.reduceAdd, Int.reduceSub, Int.reduceMul, Int.reduceLT, Int.reduceLE, Int.reduceEq, Int.reduceToNat, Nat.reduceBEq, true_and]
  cases hd : augR n c 1 la lb with
  | none =>
    rw [hd] at hau
    simp only [resI, encMt, encIts] at hau
    refine cl_ok hau rfl ?_
    simp (disch := first | omega | (simp only [List.length_take, List.length_drop, List.length_append, List.map_cons, List.map_nil, List.length_map, List.length_cons, List.length_nil, List.length_set, List.length_replicate]; omega) | (simp only [List.length_cons, List.length_nil, Nat.zero_add, Nat.reduceAdd])) only [go_sem, ↓reduceIte, Nat.reduceAdd, Int.reduceNeg, Int.reduceAdd, Int.reduceSub, Int.reduceMul, Int.reduceLT, Int.reduceLE, Int.reduceEq, Int.reduceToNat, Nat.reduceBEq, true_and]
    rfl
  | some x =>
    obtain ⟨f, st⟩ := x
    rw [hd] at hau
    simp only [resI, encMt, encIts, encSts] at hau
    obtain ⟨l1, l2⟩ := redS_len hd
    refine cl_ok hau rfl ?_
    simp (disch := first | omega | (simp only [List.length_take, List.length_drop, List.length_append, List.map_cons, List.map_nil, List.length_map, List.length_cons, List.length_nil, List.length_set, List.length_replicate]; omega) | (simp only [List.length_cons, List.length_nil, Nat.zero_add, Nat.reduceAdd])) only [go_sem, ↓reduceIte, Nat.reduceAdd, Int.reduceNeg, Int.reduceAdd, Int.reduceSub, Int.reduceMul, Int.reduceLT, Int.reduceLE, Int.reduceEq, Int.reduceToNat, Nat.reduceBEq, true_and]
    refine lp_n c (fun i => [.sc (.int .i64 (i : Nat)), .sl 33 3 ((List.replicate i (l2N 0)).map encIt)]) rfl fun i hi => ?_
    simp only [u_impl_SolveSystem_l1]
    simp (disch := first | omega | (simp only [List.length_take, List.length_drop, List.length_append, List.map_cons, List.map_nil, List.length_map, List.length_cons, List.length_nil, List.length_set, List.length_replicate]; omega) | (simp only [List.length_cons, List.length_nil, Nat.zero_add, Nat.reduceAdd])) only [go_sem, ↓reduceIte, Nat.reduceAdd, Int.reduceNeg, Int.reduceAdd, Int.reduceSub, Int.reduceMul, Int.reduceLT, Int.reduceLE, Int.reduceEq, Int.reduceToNat, Nat.reduceBEq, true_and]
    refine br_if (fun h => ?_) (fun h => ?_)
    · have hi0 := mIntItem 0
      rw [intN_eq (by omega)] at hi0
      simp only [encIt] at hi0
      simp (disch := first | omega | (simp only [List.length_take, List.length_drop, List.length_append, List.map_cons, List.map_nil, List.length_map, List.length_cons, List.length_nil, List.length_set, List.length_replicate]; omega) | (simp only [List.length_cons, List.length_nil, Nat.zero_add, Nat.reduceAdd])) only [go_sem, ↓reduceIte, Nat.reduceAdd, Int.reduceNeg, Int.reduceAdd, Int.reduceSub, Int.reduceMul, Int.reduceLT, Int.reduceLE, Int.reduceEq, Int.reduceToNat, Nat.reduceBEq, true_and]
      refine cl_ok hi0 rfl ?_
      simp (disch := first | omega | (simp only [List.length_take, List.length_drop, List.length_append, List.map_cons, List.map_nil, List.length_map, List.length_cons, List.length_nil, List.length_set, List.length_replicate]; omega) | (simp only [List.length_cons, List.length_nil, Nat.zero_add, Nat.reduceAdd])) only [go_sem, ↓reduceIte, Nat.reduceAdd, Int.reduceNeg, Int.reduceAdd, Int.reduceSub, Int.reduceMul, Int.reduceLT, Int.reduceLE, Int.reduceEq, Int.reduceToNat, Nat.reduceBEq, fl1_i, nat1]
      refine ⟨?_, by omega⟩
      rw [rep_succ, List.map_append]; rfl
    obtain rfl : c = i := by omega
    simp (disch := first | omega | (simp only [List.length_take, List.length_drop, List.length_append, List.map_cons, List.map_nil, List.length_map, List.length_cons, List.length_nil, List.length_set, List.length_replicate]; omega) | (simp only [List.length_cons, List.length_nil, Nat.zero_add, Nat.reduceAdd])) only [go_sem, ↓reduceIte, Nat.reduceAdd, Int.reduceNeg, Int.reduceAdd, Int.reduceSub, Int.reduceMul, Int.reduceLT, Int.reduceLE, Int.reduceEq, Int.reduceToNat, Nat.reduceBEq, true_and]
    refine lp (fun i : Nat => [.sc (.int .i64 (i : Nat)), .sl 33 3 ((solL c f st i).map encIt)]) (fun i => i ≤ st.length ∧ big c (st.take i) = false) (fun i => st.length - i) 0 rfl ⟨by omega, rfl⟩ ?_
    rintro i ⟨hi, hb⟩
    have hsl := solL_len c f st i
    simp only [u_impl_SolveSystem_l0]
    simp (disch := first | omega | (simp only [List.length_take, List.length_drop, List.length_append, List.map_cons, List.map_nil, List.length_map, List.length_cons, List.length_nil, List.length_set, List.length_replicate]; omega) | (simp only [List.length_cons, List.length_nil, Nat.zero_add, Nat.reduceAdd])) only [go_sem, ↓reduceIte, Nat.reduceAdd, Int.reduceNeg, Int.reduceAdd, Int.reduceSub, Int.reduceMul, Int.reduceLT, Int.reduceLE, Int.reduceEq, Int.reduceToNat, Nat.reduceBEq, true_and]
    refine br_if (fun h => ?_) (fun h => ?_)
    · have hlt : i < st.length := by omega
      have hp := piv_lt hd hlt
      have hbt := big_take (c := c) hlt
      rw [hb, Bool.false_or] at hbt
      simp (disch := first | omega | (simp only [List.length_take, List.length_drop, List.length_append, List.map_cons, List.map_nil, List.length_map, List.length_cons, List.length_nil, List.length_set, List.length_replicate]; omega) | (simp only [List.length_cons, List.length_nil, Nat.zero_add, Nat.reduceAdd])) only [go_sem, ↓reduceIte, Nat.reduceAdd, Int.reduceNeg, Int.reduceAdd, Int.reduceSub, Int.reduceMul, Int.reduceLT, Int.reduceLE, Int.reduceEq, Int.reduceToNat, Nat.reduceBEq, ix_st, encSt]
      refine br_if (fun h1 => ?_) (fun h1 => ?_)
      · have : big c st = true := big_get hlt (by omega)
        rw [if_pos this]
        simp (disch := first | omega | (simp only [List.length_take, List.length_drop, List.length_append, List.map_cons, List.map_nil, List.length_map, List.length_cons, List.length_nil, List.length_set, List.length_replicate]; omega) | (simp only [List.length_cons, List.length_nil, Nat.zero_add, Nat.reduceAdd])) only [go_sem, ↓reduceIte, Nat.reduceAdd, Int.reduceNeg, Int.reduceAdd, Int.reduceSub, Int.reduceMul, Int.reduceLT, Int.reduceLE, Int.reduceEq, Int.reduceToNat, Nat.reduceBEq, true_and]
        rfl
      have hpc : (st.getD i default).1 < c := by omega
      rw [decide_eq_false (by omega)] at hbt
      have hs := cellAt_g (r := (n : Int)) f (show i < n by omega) (show c < c + 1 by omega) (by omega) (by omega)
      simp only [encMt, encIts] at hs
      simp (disch := first | omega | (simp only [List.length_take, List.length_drop, List.length_append, List.map_cons, List.map_nil, List.length_map, List.length_cons, List.length_nil, List.length_set, List.length_replicate]; omega) | (simp only [List.length_cons, List.length_nil, Nat.zero_add, Nat.reduceAdd])) only [go_sem, ↓reduceIte, Nat.reduceAdd, Int.reduceNeg, Int.reduceAdd, Int.reduceSub, Int.reduceMul, Int.reduceLT, Int.reduceLE, Int.reduceEq, Int.reduceToNat, Nat.reduceBEq, true_and]
      refine cl_ok hs rfl ?_
      simp (disch := first | omega | (simp only [List.length_take, List.length_drop, List.length_append, List.map_cons, List.map_nil, List.length_map, List.length_cons, List.length_nil, List.length_set, List.length_replicate]; omega) | (simp only [List.length_cons, List.length_nil, Nat.zero_add, Nat.reduceAdd])) only [go_sem, ↓reduceIte, Nat.reduceAdd, Int.reduceNeg, Int.reduceAdd, Int.reduceSub, Int.reduceMul, Int.reduceLT, Int.reduceLE, Int.reduceEq, Int.reduceToNat, Nat.reduceBEq, encIt, st_it, nat1]
      refine ⟨i + 1, ?_, ⟨by omega, hbt⟩, by omega⟩
      simp only [solL, List.map_set]; rfl
    · obtain rfl : i = st.length := by omega
      rw [List.take_length] at hb
      rw [if_neg (by rw [hb]; decide)]
      simp (disch := first | omega | (simp only [List.length_take, List.length_drop, List.length_append, List.map_cons, List.map_nil, List.length_map, List.length_cons, List.length_nil, List.length_set, List.length_replicate]; omega) | (simp only [List.length_cons, List.length_nil, Nat.zero_add, Nat.reduceAdd])) only [go_sem, ↓reduceIte, Nat.reduceAdd, Int.reduceNeg, Int.reduceAdd, Int.reduceSub, Int.reduceMul, Int.reduceLT, Int.reduceLE, Int.reduceEq, Int.reduceToNat, Nat.reduceBEq, true_and]
      rfl
set_option maxHeartbeats 2000000 in
theorem specSlv_m (a b : Mt) : Meets Try.prog 21 [(true, encMt a), (true, encMt b)] [(true, encMt (slvM a b), true), (false, [.sc (.bool (slv a b).isSome)], true)] := by
  obtain ⟨ra, ca, la⟩ := a
  obtain ⟨rb, cb, lb⟩ := b
  have hma := specIsMt_m ⟨ra, ca, la⟩
  have hmb := specIsMt_m ⟨rb, cb, lb⟩
  unfold slvM
  refine meets_upf Try.func21 u_spec_SolveSystem_g rfl ?_; simp only [u_spec_SolveSystem_u]
  simp only [encMt, encIts] at hma hmb ⊢
  simp (disch := first | omega | (simp only [List.length_take, List.length_drop, List.length_append, List.map_cons, List.map_nil, List.length_map, List.length_cons, List.length_nil, List.length_set, List.length_replicate]; omega) | (simp only [List.length_cons, List.length_nil, Nat.zero_add, Nat.reduceAdd])) only [go_sem, ↓reduceIte, Nat.reduceAdd, Int.reduceNeg, Int.reduceAdd, Int.reduceSub, Int.reduceMul, Int.reduceLT, Int.reduceLE, Int.reduceEq, Int.reduceToNat, Nat.reduceBEq, true_and]
  refine cl_ok hma rfl ?_
  cases hA : mtB ⟨ra, ca, la⟩
  · rw [slv_none (by simp [hA])]
    simp (disch := first | omega | (simp only [List.length_take, List.length_drop, List.length_append, List.map_cons, List.map_nil, List.length_map, List.length_cons, List.length_nil, List.length_set, List.length_replicate]; omega) | (simp only [List.length_cons, List.length_nil, Nat.zero_add, Nat.reduceAdd])) only [go_sem, ↓reduceIte, Nat.reduceAdd, Int.reduceNeg, Int.reduceAdd, Int.reduceSub, Int.reduceMul, Int.reduceLT, Int.reduceLE, Int.reduceEq, Int.reduceToNat, Nat.reduceBEq, true_and]
    rfl
  simp (disch := first | omega | (simp only [List.length_take, List.length_drop, List.length_append, List.map_cons, List.map_nil, List.length_map, List.length_cons, List.length_nil, List.length_set, List.length_replicate]; omega) | (simp only [List.length_cons, List.length_nil, Nat.zero_add, Nat.reduceAdd])) only [go_sem, ↓reduceIte, Nat.reduceAdd, Int.reduceNeg, Int.reduceAdd, Int.reduceSub, Int.reduceMul, Int.reduceLT, Int.reduceLE, Int.reduceEq, Int.reduceToNat, Nat.reduceBEq, true_and]
  refine cl_ok hmb rfl ?_
  cases hB : mtB ⟨rb, cb, lb⟩
  · rw [slv_none (by simp [hB])]
    simp (disch := first | omega | (simp only [List.length_take, List.length_drop, List.length_append, List.map_cons, List.map_nil, List.length_map, List.length_cons, List.length_nil, List.length_set, List.length_replicate]; omega) | (simp only [List.length_cons, List.length_nil, Nat.zero_add, Nat.reduceAdd])) only [go_sem, ↓reduceIte, Nat.reduceAdd, Int.reduceNeg, Int.reduceAdd, Int.reduceSub, Int.reduceMul, Int.reduceLT, Int.reduceLE, Int.reduceEq, Int.reduceToNat, Nat.reduceBEq, true_and]
    rfl
  simp (disch := first | omega | (simp only [List.length_take, List.length_drop, List.length_append, List.map_cons, List.map_nil, List.length_map, List.length_cons, List.length_nil, List.length_set, List.length_replicate]; omega) | (simp only [List.length_cons, List.length_nil, Nat.zero_add, Nat.reduceAdd])) only [go_sem, ↓reduceIte, Nat.reduceAdd, Int.reduceNeg, Int.reduceAdd, Int.reduceSub, Int.reduceMul, Int.reduceLT, Int.reduceLE, Int.reduceEq, Int.reduceToNat, Nat.reduceBEq, true_and]
  refine br_ifn (fun h1 => ?_) (fun h1 => ?_)
  rotate_left
  · rw [slv_none (by simp only; rintro ⟨-, -, h, -⟩; first | exact h1 h | exact h1 h.symm)]
    simp (disch := first | omega | (simp only [List.length_take, List.length_drop, List.length_append, List.map_cons, List.map_nil, List.length_map, List.length_cons, List.length_nil, List.length_set, List.length_replicate]; omega) | (simp only [List.length_cons, List.length_nil, Nat.zero_add, Nat.reduceAdd])) only [go_sem, ↓reduceIte, Nat.reduceAdd, Int.reduceNeg, Int.reduceAdd, Int.reduceSub, Int.reduceMul, Int.reduceLT, Int.reduceLE, Int.reduceEq, Int.reduceToNat, Nat.reduceBEq, true_and]
    rfl
  subst h1
  simp (disch := first | omega | (simp only [List.length_take, List.length_drop, List.length_append, List.map_cons, List.map_nil, List.length_map, List.length_cons, List.length_nil, List.length_set, List.length_replicate]; omega) | (simp only [List.length_cons, List.length_nil, Nat.zero_add, Nat.reduceAdd])) only [go_sem, ↓reduceIte, Nat.reduceAdd, Int.reduceNeg, Int.reduceAdd, Int.reduceSub, Int.reduceMul, Int.reduceLT, Int.reduceLE, Int.reduceEq, Int.reduceToNat, Nat.reduceBEq, true_and]
  refine br_ifn (fun h1 => ?_) (fun h1 => ?_)
  rotate_left
  · rw [slv_none (by simp only; rintro ⟨-, -, -, h⟩; exact h1 h)]
    simp (disch := first | omega | (simp only [List.length_take, List.length_drop, List.length_append, List.map_cons, List.map_nil, List.length_map, List.length_cons, List.length_nil, List.length_set, List.length_replicate]; omega) | (simp only [List.length_cons, List.length_nil, Nat.zero_add, Nat.reduceAdd])) only [go_sem, ↓reduceIte, Nat.reduceAdd, Int.reduceNeg, Int.reduceAdd, Int.reduceSub, Int.reduceMul, Int.reduceLT, Int.reduceLE, Int.reduceEq, Int.reduceToNat, Nat.reduceBEq, true_and]
    rfl
  subst h1
  obtain ⟨g1, g2, g3, g4, g5⟩ := mtB_dims hA
  obtain ⟨k1, k2, k3, k4, k5⟩ := mtB_dims hB
  simp only at g1 g2 g3 g4 g5 k5
  obtain ⟨n, rfl⟩ := Int.eq_ofNat_of_zero_le g1
  obtain ⟨c, rfl⟩ := Int.eq_ofNat_of_zero_le g3
  have hla : la.length = n * c := by exact_mod_cast g5
  have hlb : lb.length = n * 1 := by omega
  rw [slv_some hA hB]
  have hbe := specBeside_m n c 1 n la lb (by omega) (by omega) (by omega) hla hlb
  have hau := specAug_m n c 1 la lb (by omega) (by omega) (by omega) hla hlb
  unfold slvE
  simp only [encMt, encIts] at hbe hau
  simp (disch := first | omega | (simp only [List.length_take, List.length_drop, List.length_append, List.map_cons, List.map_nil, List.length_map, List.length_cons, List.length_nil, List.length_set, List.length_replicate]; omega) | (simp only [List.length_cons, List.length_nil, Nat.zero_add, Nat.reduceAdd])) only [go_sem, ↓reduceIte, Nat.reduceAdd, Int.reduceNeg, Int.reduceAdd, Int.reduceSub, Int.reduceMul, Int.reduceLT, Int.reduceLE, Int.reduceEq, Int.reduceToNat, Nat.reduceBEq, true_and]
  refine cl_ok hbe rfl ?_
  simp (disch := first | omega | (simp only [List.length_take, List.length_drop, List.length_append, List.map_cons, List.map_nil, List.length_map, List.length_cons, List.length_nil, List.length_set, List.length_replicate]; omega) | (simp only [List.length_cons, List.length_nil, Nat.zero_add, Nat.reduceAdd])) only [go_sem, ↓reduceIte, Nat.reduceAdd, Int.reduceNeg, Int.reduceAdd, Int.reduceSub, Int.reduceMul, Int.reduceLT, Int.reduceLE, Int.reduceEq, Int.reduceToNat, Nat.reduceBEq, true_and]
  cases hd : augR n c 1 la lb with
  | none =>
    rw [hd] at hau
    simp only [resS, encMt, encIts, encZs] at hau
    refine cl_ok hau rfl ?_
    simp (disch := first | omega | (simp only [List.length_take, List.length_drop, List.length_append, List.map_cons, List.map_nil, List.length_map, List.length_cons, List.length_nil, List.length_set, List.length_replicate]; omega) | (simp only [List.length_cons, List.length_nil, Nat.zero_add, Nat.reduceAdd])) only [go_sem, ↓reduceIte, Nat.reduceAdd, Int.reduceNeg, Int.reduceAdd, Int.reduceSub, Int.reduceMul, Int.reduceLT, Int.reduceLE, Int.reduceEq, Int.reduceToNat, Nat.reduceBEq, true_and]
    refine jn_eq [.sc (.bool true)] ?_ ?_
    · simp (disch := first | omega | (simp only [List.length_take, List.length_drop, List.length_append, List.map_cons, List.map_nil, List.length_map, List.length_cons, List.length_nil, List.length_set, List.length_replicate]; omega) | (simp only [List.length_cons, List.length_nil, Nat.zero_add, Nat.reduceAdd])) only [go_sem, ↓reduceIte, Nat.reduceAdd, Int.reduceNeg, Int.reduceAdd, Int.reduceSub, Int.reduceMul, Int.reduceLT, Int.reduceLE, Int.reduceEq, Int.reduceToNat, Nat.reduceBEq, true_and]
    simp only [u_spec_SolveSystem_j1]
    simp (disch := first | omega | (simp only [List.length_take, List.length_drop, List.length_append, List.map_cons, List.map_nil, List.length_map, List.length_cons, List.length_nil, List.length_set, List.length_replicate]; omega) | (simp only [List.length_cons, List.length_nil, Nat.zero_add, Nat.reduceAdd])) only [go_sem, ↓reduceIte, Nat.reduceAdd, Int.reduceNeg, Int.reduceAdd, Int.reduceSub, Int.reduceMul, Int.reduceLT, Int.reduceLE, Int.reduceEq, Int.reduceToNat, Nat.reduceBEq, true_and]
    rfl
  | some x =>
    obtain ⟨f, st⟩ := x
    rw [hd] at hau
    simp only [resS, encMt, encIts, encZs] at hau
    obtain ⟨l1, l2⟩ := redS_len hd
    have hpl : ((pivL st).map encZ).length = st.length := by rw [List.length_map]; exact pivL_len st
    have hpl' := pivL_len st
    have hP := (redS_piv hd).2
    refine cl_ok hau rfl ?_
    simp (disch := first | omega | (simp only [List.length_take, List.length_drop, List.length_append, List.map_cons, List.map_nil, List.length_map, List.length_cons, List.length_nil, List.length_set, List.length_replicate]; omega) | (simp only [List.length_cons, List.length_nil, Nat.zero_add, Nat.reduceAdd])) only [go_sem, ↓reduceIte, Nat.reduceAdd, Int.reduceNeg, Int.reduceAdd, Int.reduceSub, Int.reduceMul, Int.reduceLT, Int.reduceLE, Int.reduceEq, Int.reduceToNat, Nat.reduceBEq, hpl]
    refine jn_eq [.sc (.bool (big c st))] ?_ ?_
    · refine br_if (fun h => ?_) (fun h => ?_)
      · have hpg := pivL_getD (st := st) (i := st.length - 1) (by omega)
        have hpp := piv_lt hd (i := st.length - 1) (by omega)
        have hbl := big_last (c := c) hP (by omega)
        have e : ((st.length : Int) - 1).toNat = st.length - 1 := by omega
        simp (disch := first | omega | (simp only [List.length_take, List.length_drop, List.length_append, List.map_cons, List.map_nil, List.length_map, List.length_cons, List.length_nil, List.length_set, List.length_replicate]; omega) | (simp only [List.length_cons, List.length_nil, Nat.zero_add, Nat.reduceAdd])) only [go_sem, ↓reduceIte, Nat.reduceAdd, Int.reduceNeg, Int.reduceAdd, Int.reduceSub, Int.reduceMul, Int.reduceLT, Int.reduceLE, Int.reduceEq, Int.reduceToNat, Nat.reduceBEq, hpl, ix_z, e, hpg, encZ]
        rw [hbl]
        congr 3
        rw [decide_eq_decide]; omega
      · have : st = [] := List.length_eq_zero_iff.1 (by omega)
        subst this
        simp (disch := first | omega | (simp only [List.length_take, List.length_drop, List.length_append, List.map_cons, List.map_nil, List.length_map, List.length_cons, List.length_nil, List.length_set, List.length_replicate]; omega) | (simp only [List.length_cons, List.length_nil, Nat.zero_add, Nat.reduceAdd])) only [go_sem, ↓reduceIte, Nat.reduceAdd, Int.reduceNeg, Int.reduceAdd, Int.reduceSub, Int.reduceMul, Int.reduceLT, Int.reduceLE, Int.reduceEq, Int.reduceToNat, Nat.reduceBEq, big_nil]
    simp only [u_spec_SolveSystem_j1]
    cases hb : big c st
    rotate_left
    · simp (disch := first | omega | (simp only [List.length_take, List.length_drop, List.length_append, List.map_cons, List.map_nil, List.length_map, List.length_cons, List.length_nil, List.length_set, List.length_replicate]; omega) | (simp only [List.length_cons, List.length_nil, Nat.zero_add, Nat.reduceAdd])) only [go_sem, ↓reduceIte, Nat.reduceAdd, Int.reduceNeg, Int.reduceAdd, Int.reduceSub, Int.reduceMul, Int.reduceLT, Int.reduceLE, Int.reduceEq, Int.reduceToNat, Nat.reduceBEq, true_and]
      rfl
    have hz := l14Zero_m c 1 (by omega) (by omega)
    rw [Nat.mul_one] at hz
    simp only [encMt, encIts] at hz
    simp (disch := first | omega | (simp only [List.length_take, List.length_drop, List.length_append, List.map_cons, List.map_nil, List.length_map, List.length_cons, List.length_nil, List.length_set, List.length_replicate]; omega) | (simp only [List.length_cons, List.length_nil, Nat.zero_add, Nat.reduceAdd])) only [go_sem, ↓reduceIte, Nat.reduceAdd, Int.reduceNeg, Int.reduceAdd, Int.reduceSub, Int.reduceMul, Int.reduceLT, Int.reduceLE, Int.reduceEq, Int.reduceToNat, Nat.reduceBEq, true_and]
    refine cl_ok hz rfl ?_
    simp (disch := first | omega | (simp only [List.length_take, List.length_drop, List.length_append, List.map_cons, List.map_nil, List.length_map, List.length_cons, List.length_nil, List.length_set, List.length_replicate]; omega) | (simp only [List.length_cons, List.length_nil, Nat.zero_add, Nat.reduceAdd])) only [go_sem, ↓reduceIte, Nat.reduceAdd, Int.reduceNeg, Int.reduceAdd, Int.reduceSub, Int.reduceMul, Int.reduceLT, Int.reduceLE, Int.reduceEq, Int.reduceToNat, Nat.reduceBEq, true_and]
    refine lp_n st.length (fun i => [.sc (.int .i64 (i : Nat)), .sl 33 3 ((solL c f st i).map encIt)]) rfl fun i hi => ?_
    have hsl := solL_len c f st i
    simp only [u_spec_SolveSystem_l0]
    simp (disch := first | omega | (simp only [List.length_take, List.length_drop, List.length_append, List.map_cons, List.map_nil, List.length_map, List.length_cons, List.length_nil, List.length_set, List.length_replicate]; omega) | (simp only [List.length_cons, List.length_nil, Nat.zero_add, Nat.reduceAdd])) only [go_sem, ↓reduceIte, Nat.reduceAdd, Int.reduceNeg, Int.reduceAdd, Int.reduceSub, Int.reduceMul, Int.reduceLT, Int.reduceLE, Int.reduceEq, Int.reduceToNat, Nat.reduceBEq, hpl]
    refine br_if (fun h => ?_) (fun h => ?_)
    · have hlt : i < st.length := by omega
      have hp := piv_lt hd hlt
      have hpc := big_lt hlt hb
      have hpg := pivL_getD hlt
      have hbd : i * (c + 1) ≤ 12 * 13 := Nat.mul_le_mul (by omega) (by omega)
      simp (disch := first | omega | (simp only [List.length_take, List.length_drop, List.length_append, List.map_cons, List.map_nil, List.length_map, List.length_cons, List.length_nil, List.length_set, List.length_replicate]; omega) | (simp only [List.length_cons, List.length_nil, Nat.zero_add, Nat.reduceAdd])) only [go_sem, ↓reduceIte, Nat.reduceAdd, Int.reduceNeg, Int.reduceAdd, Int.reduceSub, Int.reduceMul, Int.reduceLT, Int.reduceLE, Int.reduceEq, Int.reduceToNat, Nat.reduceBEq, hpl, ix_z, hpg, encZ, nm, na, ix_g (R := n) (W := c + 1) (i := i) (k := c) (show i < n by omega) (show c < c + 1 by omega), chk_g (R := n) (W := c + 1) (i := i) (k := c) (show i < n by omega) (show c < c + 1 by omega), encIt, st_it, nat1]
      refine ⟨?_, hlt⟩
      simp only [solL, List.map_set]; rfl
    · obtain rfl : i = st.length := by omega
      simp (disch := first | omega | (simp only [List.length_take, List.length_drop, List.length_append, List.map_cons, List.map_nil, List.length_map, List.length_cons, List.length_nil, List.length_set, List.length_replicate]; omega) | (simp only [List.length_cons, List.length_nil, Nat.zero_add, Nat.reduceAdd])) only [go_sem, ↓reduceIte, Nat.reduceAdd, Int.reduceNeg, Int.reduceAdd, Int.reduceSub, Int.reduceMul, Int.reduceLT, Int.reduceLE, Int.reduceEq, Int.reduceToNat, Nat.reduceBEq, true_and]
      rfl
end Go.Proofs.Ytolkglnkdfcceaa

namespace Go.Proofs.Ytolkglnkdfcceaa
open Go.RowKit

def val (x : It) : Rat := Rat.divInt x.num x.den
theorem numB_den {x : It} (h : numB x = true) : x.den ≠ 0 := by have := (numB_iff.1 h).2.1; omega
theorem val_redN {n d : Int} (h : d ≠ 0) : val (redN n d) = Rat.divInt n d := by
  have hd := redN_den (n := n) h
  obtain ⟨h1, h2, h3⟩ := gcd_pos (n := n) h
  unfold val
  rw [Rat.divInt_eq_divInt_iff (by omega) h]
  obtain ⟨p, hp⟩ := h2
  obtain ⟨q, hq⟩ := h3
  unfold redN
  simp only
  have e1 : n / (Int.gcd n d : Int) = p := by conv => lhs; lhs; rw [hp]
                                              exact Int.mul_ediv_cancel_left _ (by omega)
  have e2 : d / (Int.gcd n d : Int) = q := by conv => lhs; lhs; rw [hq]
                                              exact Int.mul_ediv_cancel_left _ (by omega)
  split
  · rw [Int.neg_ediv_of_dvd ⟨p, hp⟩, Int.neg_ediv_of_dvd ⟨q, hq⟩, e1, e2]
    conv => lhs; rhs; rw [hq]
    conv => rhs; lhs; rw [hp]
    simp only [Int.neg_mul, Int.mul_neg]
    grind
  · rw [e1, e2]
    conv => lhs; rhs; rw [hq]
    conv => rhs; lhs; rw [hp]
    grind
theorem val_mk {n d : Int} (h : numB (mkN n d) = true) : d ≠ 0 ∧ val (mkN n d) = Rat.divInt n d := by
  unfold mkN at h ⊢
  split
  · rename_i hc; rw [if_pos hc, numB_it0] at h; cases h
  · rename_i hc
    rw [if_neg hc] at h
    have h0 : d ≠ 0 := fun e => hc (Or.inl e)
    split
    · exact ⟨h0, val_redN h0⟩
    · rename_i hn; rw [if_neg hn, numB_it0] at h; cases h
theorem val_add {x y : It} (h : numB (addN x y) = true) : numB x = true ∧ numB y = true ∧ val (addN x y) = val x + val y := by
  unfold addN at h ⊢
  split
  · rename_i hc
    rw [if_pos hc] at h
    rw [Bool.and_eq_true] at hc
    refine ⟨hc.1, hc.2, ?_⟩
    rw [(val_mk h).2]
    unfold val
    rw [Rat.divInt_add_divInt _ _ (numB_den hc.1) (numB_den hc.2)]
  · rename_i hc; rw [if_neg hc, numB_it0] at h; cases h
theorem val_mul {x y : It} (h : numB (mulN x y) = true) : numB x = true ∧ numB y = true ∧ val (mulN x y) = val x * val y := by
  unfold mulN at h ⊢
  split
  · rename_i hc
    rw [if_pos hc] at h
    rw [Bool.and_eq_true] at hc
    refine ⟨hc.1, hc.2, ?_⟩
    rw [(val_mk h).2]
    unfold val
    rw [Rat.divInt_mul_divInt]
  · rename_i hc; rw [if_neg hc, numB_it0] at h; cases h
theorem val_neg {x : It} (h : numB x = true) : numB (negN x) = true ∧ val (negN x) = - val x := by
  unfold negN
  rw [if_pos h]
  obtain ⟨h1, h2, h3, h4⟩ := numB_iff.1 h
  refine ⟨numB_iff.2 ⟨rfl, h2, by simp only; omega, by simp only [Int.neg_gcd]; exact h4⟩, ?_⟩
  unfold val
  simp only [Rat.neg_divInt]
theorem numB_neg {x : It} (h : numB (negN x) = true) : numB x = true := by
  unfold negN at h
  split at h
  · assumption
  · rw [numB_it0] at h; cases h
theorem val_sub {x y : It} (h : numB (subN x y) = true) : numB x = true ∧ numB y = true ∧ val (subN x y) = val x - val y := by
  unfold subN at h ⊢
  obtain ⟨h1, h2, h3⟩ := val_add h
  have h4 := numB_neg h2
  exact ⟨h1, h4, by rw [h3, (val_neg h4).2, Rat.sub_eq_add_neg]⟩
theorem val_zero {x : It} (h : numB x = true) : val x = 0 ↔ x.num = 0 := by
  unfold val
  have e : (0 : Rat) = Rat.divInt 0 1 := by simp
  rw [e, Rat.divInt_eq_divInt_iff (numB_den h) (by omega)]
  omega
theorem val_div {x y : It} (h : numB (divN x y) = true) : numB x = true ∧ numB y = true ∧ val y ≠ 0 ∧ val (divN x y) * val y = val x := by
  unfold divN at h ⊢
  split
  · rename_i hc
    rw [if_pos hc] at h
    rw [Bool.and_eq_true] at hc
    obtain ⟨h0, h1⟩ := val_mk h
    have hy : y.num ≠ 0 := fun e => h0 (by rw [e, Int.mul_zero])
    refine ⟨hc.1, hc.2, fun e => hy ((val_zero hc.2).1 e), ?_⟩
    rw [h1]
    unfold val
    rw [Rat.divInt_mul_divInt, Rat.divInt_eq_divInt_iff (Int.mul_ne_zero h0 (numB_den hc.2)) (numB_den hc.1)]
    grind
  · rename_i hc; rw [if_neg hc, numB_it0] at h; cases h
theorem val_inj {x y : It} (hx : numB x = true) (hy : numB y = true) (h : val x = val y) : x = y := by
  obtain ⟨x1, x2, x3, x4⟩ := numB_iff.1 hx
  obtain ⟨y1, y2, y3, y4⟩ := numB_iff.1 hy
  unfold val at h
  rw [Rat.divInt_eq_divInt_iff (by omega) (by omega)] at h
  have d1 : x.den.natAbs ∣ y.den.natAbs := Nat.Coprime.dvd_of_dvd_mul_left (m := x.num.natAbs) (Nat.coprime_comm.1 x4) (by rw [← Int.natAbs_mul, h, Int.natAbs_mul]; exact Nat.dvd_mul_left _ _)
  have d2 : y.den.natAbs ∣ x.den.natAbs := Nat.Coprime.dvd_of_dvd_mul_left (m := y.num.natAbs) (Nat.coprime_comm.1 y4) (by rw [← Int.natAbs_mul, ← h, Int.natAbs_mul]; exact Nat.dvd_mul_left _ _)
  have e : x.den = y.den := by have := Nat.dvd_antisymm d1 d2; omega
  rw [e] at h
  have e2 := Int.eq_of_mul_eq_mul_right (by omega) h
  cases x; cases y
  simp only at e e2 x1 y1
  subst e e2
  rw [x1, y1]
theorem val_l2N (n : Int) : val (l2N n) = n := by
  unfold val
  show Rat.divInt n 1 = n
  exact (Rat.mk_eq_divInt (num := n) (den := 1) (nz := by decide) (c := Nat.coprime_one_right _)).symm
def sumQ : Nat → (Nat → Rat) → Rat
  | 0, _ => 0
  | n + 1, g => sumQ n g + g n
theorem sumQ_congr {n : Nat} {f g : Nat → Rat} (h : ∀ i, i < n → f i = g i) : sumQ n f = sumQ n g := by
  induction n with
  | zero => rfl
  | succ n ih => rw [sumQ, sumQ, ih fun i hi => h i (by omega), h n (by omega)]
theorem sumQ_add {n : Nat} {f g : Nat → Rat} : sumQ n (fun i => f i + g i) = sumQ n f + sumQ n g := by
  induction n with
  | zero => simp only [sumQ]; grind
  | succ n ih => simp only [sumQ, ih]; grind
theorem sumQ_mul {n : Nat} {f : Nat → Rat} {c : Rat} : sumQ n (fun i => c * f i) = c * sumQ n f := by
  induction n with
  | zero => simp only [sumQ]; grind
  | succ n ih => simp only [sumQ, ih]; grind
theorem sumQ_zero {n : Nat} {f : Nat → Rat} (h : ∀ i, i < n → f i = 0) : sumQ n f = 0 := by
  induction n with
  | zero => rfl
  | succ n ih => rw [sumQ, ih fun i hi => h i (by omega), h n (by omega)]; grind
theorem sumQ_upd {n : Nat} {f g : Nat → Rat} {k : Nat} (hk : k < n) (h : ∀ i, i < n → i ≠ k → f i = g i) : sumQ n f = sumQ n g - g k + f k := by
  induction n with
  | zero => omega
  | succ n ih =>
    rw [sumQ, sumQ]
    by_cases e : k = n
    · subst e; rw [sumQ_congr (f := f) (g := g) fun i hi => h i (by omega) (by omega)]; grind
    · rw [ih (by omega) fun i hi he => h i (by omega) he, h n (by omega) (by omega)]; grind
def sw (r k a : Nat) : Nat := if a = r then k else if a = k then r else a
theorem sumQ_sw {n r k : Nat} {f : Nat → Rat} (hr : r < n) (hk : k < n) : sumQ n (fun a => f (sw r k a)) = sumQ n f := by
  by_cases e : r = k
  · subst e
    refine sumQ_congr fun i _ => ?_
    unfold sw; split
    · rename_i h; rw [h]
    · rfl
  · have h1 := sumQ_upd (f := fun a => f (sw r k a)) (g := fun a => if a = k then f r else f a) hr fun i _ hi => by unfold sw; rw [if_neg hi]; split <;> rfl
    have h2 := sumQ_upd (f := fun a => if a = k then f r else f a) (g := f) hk fun i _ hi => by rw [if_neg hi]
    rw [h1, h2]
    simp only [sw, if_true, if_neg e]
    grind
/-- N comes out of F by a step at row r, the pivot's row being k -/
structure StepQ (R W r k c : Nat) (F N : Nat → Nat → Rat) : Prop where
  hr : r < R
  hk : k < R
  hc : c < W
  p0 : F k c ≠ 0
  pr : ∀ b, b < W → N r b * F k c = F k b
  el : ∀ a, a < R → a ≠ r → ∀ b, b < W → N a b = F (sw r k a) b - F (sw r k a) c * N r b
variable {R W r k c : Nat} {F N : Nat → Nat → Rat}
def Sat (R W : Nat) (F : Nat → Nat → Rat) (v : Nat → Rat) : Prop := ∀ a, a < R → sumQ W (fun b => F a b * v b) = 0
theorem sw_sw (r k a : Nat) : sw r k (sw r k a) = a := by unfold sw; grind
theorem sw_lt (hr : r < R) (hk : k < R) {a : Nat} (ha : a < R) : sw r k a < R := by unfold sw; grind
theorem StepQ.sat (h : StepQ R W r k c F N) {v : Nat → Rat} (hs : Sat R W N v) : Sat R W F v := by
  have hr := hs r h.hr
  have key : ∀ a, a < R → a ≠ r → sumQ W (fun b => F (sw r k a) b * v b) = 0 := by
    intro a ha hne
    have e : sumQ W (fun b => F (sw r k a) b * v b) = sumQ W (fun b => N a b * v b + F (sw r k a) c * (N r b * v b)) := sumQ_congr fun b hb => by rw [h.el a ha hne b hb]; grind
    rw [e, sumQ_add, hs a ha, sumQ_mul, hr]; grind
  intro a ha
  by_cases e : a = k
  · subst e
    have e : sumQ W (fun b => F a b * v b) = sumQ W (fun b => F a c * (N r b * v b)) := sumQ_congr fun b hb => by rw [← h.pr b hb]; grind
    rw [e, sumQ_mul, hr]; grind
  · have := key (sw r k a) (sw_lt h.hr h.hk ha) (by unfold sw; grind)
    rwa [sw_sw] at this
def Ind (R W : Nat) (F : Nat → Nat → Rat) : Prop := ∀ u : Nat → Rat, (∀ b, b < W → sumQ R (fun a => u a * F a b) = 0) → ∀ a, a < R → u a = 0
theorem StepQ.ind (h : StepQ R W r k c F N) (hi : Ind R W F) : Ind R W N := by
  intro u hu
  -- the sum over the rows other than r of u a * F (sw a) c
  obtain ⟨s, hs⟩ : ∃ s : Rat, s = sumQ R (fun a => if a = r then 0 else u a * F (sw r k a) c) := ⟨_, rfl⟩
  obtain ⟨w, hw⟩ : ∃ w : Nat → Rat, w = fun a => if a = k then (u r - s) * (F k c)⁻¹ else u (sw r k a) := ⟨_, rfl⟩
  have hp := h.p0
  have hwz := hi w fun b hb => by
    have e1 : sumQ R (fun a => w a * F a b) = sumQ R (fun a => w (sw r k a) * F (sw r k a) b) := (sumQ_sw (f := fun a => w a * F a b) h.hr h.hk).symm
    have e2 : sumQ R (fun a => w (sw r k a) * F (sw r k a) b) = sumQ R (fun a => u a * N a b + N r b * (if a = r then 0 - s else u a * F (sw r k a) c)) := by
      refine sumQ_congr fun a ha => ?_
      by_cases e : a = r
      · subst e
        rw [if_pos rfl]
        have hk' : sw a k a = k := by unfold sw; rw [if_pos rfl]
        have hpr := h.pr b hb
        rw [hk', hw]
        simp only [if_true]
        rw [← hpr]
        have : (F k c)⁻¹ * F k c = 1 := Rat.inv_mul_cancel _ hp
        grind
      · rw [if_neg e]
        have hne : sw r k a ≠ k := by unfold sw; grind
        have hel := h.el a ha e b hb
        rw [hw]
        simp only [if_neg hne, sw_sw]
        rw [hel]
        grind
    rw [e1, e2, sumQ_add, hu b hb, sumQ_mul]
    have e3 := sumQ_upd (f := fun a => if a = r then 0 - s else u a * F (sw r k a) c) (g := fun a => if a = r then 0 else u a * F (sw r k a) c) h.hr fun i _ hne => by simp only [if_neg hne]
    rw [e3, ← hs]
    simp only [if_true]
    grind
  have hother : ∀ a, a < R → a ≠ r → u a = 0 := by
    intro a ha e
    have := hwz (sw r k a) (sw_lt h.hr h.hk ha)
    have hne : sw r k a ≠ k := by unfold sw; grind
    rw [hw] at this
    simpa only [if_neg hne, sw_sw] using this
  have hs0 : s = 0 := by
    rw [hs]
    refine sumQ_zero fun a ha => ?_
    by_cases e : a = r
    · rw [if_pos e]
    · rw [if_neg e, hother a ha e]; grind
  intro a ha
  by_cases e : a = r
  · subst e
    have := hwz k h.hk
    rw [hw] at this
    simp only [if_true, hs0] at this
    have h2 : (F k c)⁻¹ * F k c = 1 := Rat.inv_mul_cancel _ hp
    have : u a * ((F k c)⁻¹ * F k c) = 0 := by grind
    rw [h2] at this
    grind
  · exact hother a ha e
end Go.Proofs.Ytolkglnkdfcceaa

namespace Go.Proofs.Ytolkglnkdfcceaa
open Go.RowKit

def vf (f : Nat → Nat → It) (a b : Nat) : Rat := val (f a b)
theorem nz_spec (f : Nat → Nat → It) (c R r : Nat) : (nz f c R r = R ∧ ∀ i, r ≤ i → i < R → (f i c).num = 0) ∨ (r ≤ nz f c R r ∧ nz f c R r < R ∧ (f (nz f c R r) c).num ≠ 0) := by
  unfold nz
  cases h : (List.range R).find? fun i => decide (r ≤ i) && !decide ((f i c).num = 0) with
  | none =>
    left
    refine ⟨rfl, fun i hi hR => ?_⟩
    rw [List.find?_range_eq_none] at h
    have := h i hR
    simp only [Bool.not_eq_true', Bool.and_eq_false_iff, decide_eq_false_iff_not, Bool.not_eq_false', decide_eq_true_eq] at this
    rcases this with h1 | h1
    · exact absurd hi h1
    · exact h1
  | some k =>
    right
    rw [List.find?_range_eq_some] at h
    obtain ⟨h1, h2, -⟩ := h
    simp only [Bool.and_eq_true, decide_eq_true_eq, Bool.not_eq_true', decide_eq_false_iff_not] at h1
    exact ⟨h1.1, List.mem_range.1 h2, h1.2⟩
theorem grid_nb {R W : Nat} {f : Nat → Nat → It} (h : allN (gridL W f (R * W)) = true) {a b : Nat} (ha : a < R) (hb : b < W) : numB (f a b) = true := by
  unfold allN at h
  rw [List.all_eq_true] at h
  exact h _ (List.mem_of_getElem? (gridL_get f hb (grid_lt ha hb)))
theorem stepF_q {R W r k c : Nat} {f : Nat → Nat → It} (hr : r < R) (hk : k < R) (hc : c < W) (hp : (f k c).num ≠ 0) (hf : ∀ a b, a < R → b < W → numB (f a b) = true) (hn : allN (gridL W (stepF W R r k c f) (R * W)) = true) :
    StepQ R W r k c (vf f) (vf (stepF W R r k c f)) := by
  have hnb := fun a b (ha : a < R) (hb : b < W) => grid_nb hn ha hb
  have er : ∀ b, b < W → stepF W R r k c f r b = divN (f k b) (f k c) := by
    intro b hb
    unfold stepF elJ
    rw [if_neg (by rintro ⟨_, h, _⟩; exact h rfl)]
    unfold sdJ
    rw [if_pos hb, if_pos rfl]
  have eg : ∀ a b, a ≠ r → b < W → sdJ r k (f k c) f W a b = f (sw r k a) b := by
    intro a b ha hb
    unfold sdJ sw
    rw [if_pos hb, if_neg ha, if_neg ha]
    split <;> rfl
  refine ⟨hr, hk, hc, fun e => hp ((val_zero (hf k c hk hc)).1 e), fun b hb => ?_, fun a ha hne b hb => ?_⟩
  · have h := hnb r b hr hb
    unfold vf
    rw [er b hb] at h ⊢
    exact (val_div h).2.2.2
  · have h := hnb a b ha hb
    have hrb := hnb r b hr hb
    have hs := sw_lt hr hk ha
    unfold vf
    rw [er b hb] at hrb ⊢
    have e : stepF W R r k c f a b = if (f (sw r k a) c).num ≠ 0 then subN (f (sw r k a) b) (mulN (f (sw r k a) c) (divN (f k b) (f k c))) else f (sw r k a) b := by
      have e2 : sdJ r k (f k c) f W r b = divN (f k b) (f k c) := by unfold sdJ; rw [if_pos hb, if_pos rfl]
      unfold stepF elJ
      rw [eg a c hne hc, eg a b hne hb, e2]
      by_cases h0 : (f (sw r k a) c).num ≠ 0
      · rw [if_pos h0, if_pos ⟨Or.inl ⟨ha, hb⟩, hne, h0⟩]
      · rw [if_neg h0, if_neg (fun x => h0 x.2.2)]
    rw [e] at h ⊢
    split
    · rename_i h0
      rw [if_pos h0] at h
      obtain ⟨h1, h2, h3⟩ := val_sub h
      rw [h3, (val_mul h2).2.2]
    · rename_i h0
      have : val (f (sw r k a) c) = 0 := (val_zero (hf _ _ hs hc)).2 (by simpa using h0)
      rw [this]; grind
structure RInv (R W c : Nat) (f0 f : Nat → Nat → It) (st : List Stp) : Prop where
  nb : ∀ a b, a < R → b < W → numB (f a b) = true
  sat : ∀ v, Sat R W (vf f) v → Sat R W (vf f0) v
  ind : Ind R W (vf f0) → Ind R W (vf f)
  le : st.length ≤ R
  un : ∀ j, j < st.length → ∀ a, a < R → vf f a (st.getD j default).1 = if a = j then 1 else 0
  ze : ∀ a, st.length ≤ a → a < R → ∀ b, b < c → vf f a b = 0
  lt : ∀ j, j < st.length → (st.getD j default).1 < c
theorem getD_app_l {α : Type} [Inhabited α] {l m : List α} {j : Nat} (h : j < l.length) : (l ++ m).getD j default = l.getD j default := by
  rw [List.getD_eq_getElem?_getD, List.getD_eq_getElem?_getD, List.getElem?_append_left h]
theorem getD_app_r {α : Type} [Inhabited α] {l : List α} {x : α} : (l ++ [x]).getD l.length default = x := by
  rw [List.getD_eq_getElem?_getD, List.getElem?_append_right (Nat.le_refl _)]; simp
theorem RInv.step {R W c : Nat} {f0 f f' : Nat → Nat → It} {st st' : List Stp} (hc : c < W) (h : RInv R W c f0 f st) (hs : red1 W R c f st = some (f', st')) : RInv R W (c + 1) f0 f' st' := by
  have lt' : ∀ j, j < st.length → (st.getD j default).1 < c + 1 := fun j hj => Nat.lt_succ_of_lt (h.lt j hj)
  unfold red1 at hs
  split at hs
  · rename_i hR
    injection hs with hs; injection hs with e1 e2; subst e1 e2
    exact ⟨h.nb, h.sat, h.ind, h.le, h.un, fun a ha haR => by omega, lt'⟩
  · rename_i hR
    rcases nz_spec f c R st.length with ⟨h1, h2⟩ | ⟨h1, h2, h3⟩
    · rw [if_pos h1] at hs
      injection hs with hs; injection hs with e1 e2; subst e1 e2
      refine ⟨h.nb, h.sat, h.ind, h.le, h.un, fun a ha haR b hb => ?_, lt'⟩
      by_cases e : b = c
      · subst e; exact (val_zero (h.nb a b haR hc)).2 (h2 a ha haR)
      · exact h.ze a ha haR b (by omega)
    · rw [if_neg (by omega)] at hs
      split at hs
      · rename_i hn
        generalize nz f c R st.length = k at *
        injection hs with hs; injection hs with e1 e2; subst e1 e2
        have hq := stepF_q (by omega) h2 hc h3 h.nb hn
        have hpc : ∀ j, j < st.length → (st.getD j default).1 < W := fun j hj => by have := h.lt j hj; omega
        -- the pivot's row is zero at the older pivots and at the columns ahead
        have rz : ∀ b, b < W → vf f k b = 0 → vf (stepF W R st.length k c f) st.length b = 0 := by
          intro b hb hz
          have := hq.pr b hb
          rw [hz] at this
          have h4 := hq.p0
          rcases Rat.mul_eq_zero.1 this with h5 | h5
          · exact h5
          · exact absurd h5 h4
        have r1 : vf (stepF W R st.length k c f) st.length c = 1 := by
          have := hq.pr c hc
          have h4 := hq.p0
          have h5 : vf f k c * (vf f k c)⁻¹ = 1 := Rat.mul_inv_cancel _ h4
          grind
        refine ⟨fun a b ha hb => grid_nb hn ha hb, fun v hv => h.sat v (hq.sat hv), fun hi => hq.ind (h.ind hi), by simp; omega, ?_, ?_, ?_⟩
        · intro j hj a ha
          rw [List.length_append, List.length_singleton] at hj
          by_cases e : j < st.length
          · rw [getD_app_l e]
            have hz := rz _ (hpc j e) (by rw [h.un j e k h2, if_neg (by omega)])
            by_cases ea : a = st.length
            · subst ea
              rw [hz, if_neg (by omega)]
            · rw [hq.el a ha ea _ (hpc j e), hz, h.un j e _ (sw_lt (by omega) h2 ha)]
              unfold sw
              rw [if_neg ea]
              by_cases ek : a = k
              · rw [if_pos ek, if_neg (by omega), if_neg (by omega)]; grind
              · rw [if_neg ek]; grind
          · obtain rfl : j = st.length := by omega
            rw [getD_app_r]
            simp only
            by_cases ea : a = st.length
            · subst ea; rw [r1, if_pos rfl]
            · rw [hq.el a ha ea c hc, r1, if_neg ea]; grind
        · intro a ha haR b hb
          rw [List.length_append, List.length_singleton] at ha
          have ea : a ≠ st.length := by omega
          by_cases e : b = c
          · subst e
            rw [hq.el a haR ea b hc, r1]; grind
          · rw [hq.el a haR ea b (by omega), rz b (by omega) (h.ze k h1 h2 b (by omega))]
            have : vf f (sw st.length k a) b = 0 := by
              refine h.ze _ ?_ (sw_lt (by omega) h2 haR) b (by omega)
              unfold sw; rw [if_neg ea]; split <;> omega
            rw [this]; grind
        · intro j hj
          rw [List.length_append, List.length_singleton] at hj
          by_cases e : j < st.length
          · rw [getD_app_l e]; exact lt' j e
          · obtain rfl : j = st.length := by omega
            rw [getD_app_r]; exact Nat.lt_succ_self _
      · cases hs
theorem redS_inv {R W : Nat} {f0 : Nat → Nat → It} (h0 : ∀ a b, a < R → b < W → numB (f0 a b) = true) : ∀ {c : Nat} {f : Nat → Nat → It} {st : List Stp}, c ≤ W → redS W R f0 c = some (f, st) → RInv R W c f0 f st
  | 0, f, st, _, h => by
    simp only [redS] at h
    injection h with h; injection h with e1 e2; subst e1 e2
    exact ⟨h0, fun _ h => h, fun h => h, by simp, fun j hj => by simp at hj, fun a _ _ b hb => by omega, fun j hj => by simp at hj⟩
  | c + 1, f, st, hc, h => by
    simp only [redS] at h
    split at h
    · cases h
    · rename_i g s1 h1
      exact (redS_inv h0 (by omega) h1).step (by omega) h
end Go.Proofs.Ytolkglnkdfcceaa

namespace Go.Proofs.Ytolkglnkdfcceaa
open Go.RowKit
set_option maxRecDepth 100000

theorem besL_getD {a b : Nat} {la lb : List It} {n : Nat} (hla : la.length = n * a) (hlb : lb.length = n * b) : ∀ m, m ≤ n → ∀ i j, i < m → j < a + b → (besL a b la lb m).getD (i * (a + b) + j) default = if j < a then la.getD (i * a + j) default else lb.getD (i * b + (j - a)) default
  | 0, _, i, j, hi, _ => by omega
  | m + 1, hm, i, j, hi, hj => by
    have hl := besL_len' a b la lb n hla hlb m (by omega)
    by_cases e : i < m
    · rw [← besL_getD hla hlb m (by omega) i j e hj]
      have := grid_lt (R := m) (W := a + b) e hj
      unfold besL
      rw [List.getD_eq_getElem?_getD, List.getElem?_append_left (by omega), List.getD_eq_getElem?_getD]
      cases m <;> rfl
    · obtain rfl : i = m := by omega
      have k1 : i * a + a ≤ n * a := by rw [← Nat.succ_mul]; exact Nat.mul_le_mul_right _ hm
      have k2 : i * b + b ≤ n * b := by rw [← Nat.succ_mul]; exact Nat.mul_le_mul_right _ hm
      unfold besL
      have e1 : ∀ (x : List It), (besL a b la lb i ++ x).getD (i * (a + b) + j) default = x.getD j default := by
        intro x
        rw [List.getD_eq_getElem?_getD, List.getElem?_append_right (by omega), hl, Nat.add_sub_cancel_left, List.getD_eq_getElem?_getD]
      have e2 : ((la.drop (i * a)).take a).length = a := by rw [List.length_take, List.length_drop]; omega
      have e3 : (besL a b la lb i ++ ((la.drop (i * a)).take a ++ (lb.drop (i * b)).take b)).getD (i * (a + b) + j) default = if j < a then la.getD (i * a + j) default else lb.getD (i * b + (j - a)) default := by
        rw [e1, List.getD_eq_getElem?_getD]
        split
        · rename_i hja
          rw [List.getElem?_append_left (by omega), List.getElem?_take, if_pos hja, List.getElem?_drop, List.getD_eq_getElem?_getD]
        · rename_i hja
          rw [List.getElem?_append_right (by omega), e2, List.getElem?_take, if_pos (by omega), List.getElem?_drop, List.getD_eq_getElem?_getD]
      exact e3
theorem allN_getD {l : List It} (h : allN l = true) {i : Nat} (hi : i < l.length) : numB (l.getD i default) = true := by
  unfold allN at h
  rw [List.all_eq_true] at h
  rw [List.getD_eq_getElem?_getD, List.getElem?_eq_getElem hi]
  exact h _ (List.getElem_mem hi)
theorem mulS_val {C K : Nat} {la lb : List It} {i k : Nat} : ∀ {n : Nat}, numB (mulS C K la lb i k n) = true → val (mulS C K la lb i k n) = sumQ n (fun m => val (cel C la i m) * val (cel K lb m k))
  | 0, h => by
    simp only [mulS, sumQ]
    rw [val_l2N]; rfl
  | n + 1, h => by
    simp only [mulS, sumQ] at h ⊢
    obtain ⟨h1, h2, h3⟩ := val_add h
    rw [h3, mulS_val h1, (val_mul h2).2.2]
theorem mt_len {m : Mt} (h : mtB m = true) : m.cells.length = m.rows.toNat * m.cols.toNat ∧ allN m.cells = true ∧ m.rows.toNat ≤ 12 ∧ m.cols.toNat ≤ 12 := by
  obtain ⟨h1, h2, h3, h4, h5⟩ := mtB_dims h
  have : ((m.rows.toNat * m.cols.toNat : Nat) : Int) = m.rows * m.cols := by rw [Int.natCast_mul, Int.toNat_of_nonneg h1, Int.toNat_of_nonneg h3]
  refine ⟨by omega, by rw [mtB_true ⟨h1, h2, h3, h4, h5⟩] at h; exact h, by omega, by omega⟩
end Go.Proofs.Ytolkglnkdfcceaa

namespace Go.Proofs.Ytolkglnkdfcceaa
open Go.RowKit
set_option maxRecDepth 100000

/-- the solution in a row of the reduced matrix -/
theorem solL_row {R c : Nat} {f0 f : Nat → Nat → It} {st : List Stp} (hi : RInv R (c + 1) (c + 1) f0 f st) (hb : big c st = false) (hp : st.Pairwise fun x y => x.1 < y.1) {i : Nat} (hiR : i < R) :
    ∀ m, m ≤ st.length → sumQ c (fun b => vf f i b * val ((solL c f st m).getD b default)) = (if i < m then vf f i c else 0) ∧ ∀ j, m ≤ j → j < st.length → val ((solL c f st m).getD (st.getD j default).1 default) = 0
  | 0, _ => by
    have hz : ∀ b, b < c → val ((solL c f st 0).getD b default) = 0 := by
      intro b hb
      simp only [solL]
      rw [List.getD_eq_getElem?_getD, List.getElem?_replicate, if_pos hb]
      exact val_l2N 0
    refine ⟨?_, fun j _ hj => hz _ (big_lt hj hb)⟩
    rw [if_neg (by omega)]
    exact sumQ_zero fun b hb => by rw [hz b hb]; grind
  | m + 1, hm => by
    obtain ⟨h1, h2⟩ := solL_row hi hb hp hiR m (by omega)
    have hpc := big_lt (i := m) (by omega) hb
    have hlen := solL_len c f st m
    have hset : ∀ b, b < c → (solL c f st (m + 1)).getD b default = if b = (st.getD m default).1 then f m c else (solL c f st m).getD b default := by
      intro b hb
      simp only [solL]
      rw [List.getD_eq_getElem?_getD, List.getElem?_set]
      by_cases e : (st.getD m default).1 = b
      · rw [if_pos e, if_pos (by omega), if_pos e.symm]; rfl
      · rw [if_neg e, if_neg (fun x => e x.symm), List.getD_eq_getElem?_getD]
    constructor
    · rw [sumQ_upd (g := fun b => vf f i b * val ((solL c f st m).getD b default)) hpc (fun b hb hne => by rw [hset b hb, if_neg hne]), h1, hset _ hpc, if_pos rfl, h2 m (Nat.le_refl _) (by omega), hi.un m (by omega) i hiR]
      by_cases e : i = m
      · subst e
        rw [if_neg (by omega), if_pos rfl, if_pos (by omega)]
        unfold vf; grind
      · rw [if_neg e]
        by_cases e2 : i < m
        · rw [if_pos e2, if_pos (by omega)]; grind
        · rw [if_neg e2, if_neg (by omega)]; grind
    · intro j hj hjl
      have hpj := big_lt (i := j) hjl hb
      have hne : (st.getD j default).1 ≠ (st.getD m default).1 := by
        have := List.pairwise_iff_getElem.1 hp m j (by omega) hjl (by omega)
        rw [List.getD_eq_getElem?_getD, List.getD_eq_getElem?_getD, List.getElem?_eq_getElem hjl, List.getElem?_eq_getElem (show m < st.length by omega)]
        simp only [Option.getD_some]; omega
      rw [hset _ hpj, if_neg hne]
      exact h2 j (by omega) hjl
theorem slv_sat {n c : Nat} {la lb l : List It} (hla : la.length = n * c) (hlb : lb.length = n * 1) (na : allN la = true) (nb : allN lb = true) (h : slvE n c la lb = some l) {i : Nat} (hi : i < n) :
    sumQ c (fun b => val (la.getD (i * c + b) default) * val (l.getD b default)) = val (lb.getD i default) := by
  unfold slvE at h
  split at h
  · cases h
  · rename_i x hx
    obtain ⟨f, st⟩ := x
    simp only at h
    split at h
    · cases h
    · rename_i hbig
      have hbig : big c st = false := by simpa using hbig
      injection h with h
      subst h
      unfold augR at hx
      have h0 : ∀ a b, a < n → b < c + 1 → numB (celF (c + 1) (besL c 1 la lb n) a b) = true := by
        intro a b ha hb
        unfold celF
        rw [besL_getD hla hlb n (Nat.le_refl _) a b ha hb]
        split
        · exact allN_getD na (by rw [hla]; exact grid_lt ha ‹_›)
        · exact allN_getD nb (by rw [hlb]; omega)
      have inv := redS_inv h0 (Nat.le_refl _) hx
      have hpw := (redS_piv hx).2
      have hrow := fun i (hi : i < n) => (solL_row inv hbig hpw hi st.length (Nat.le_refl _)).1
      have hsat := inv.sat (fun b => if b < c then val ((solL c f st st.length).getD b default) else -1) (by
        intro a ha
        rw [sumQ]
        dsimp only
        have e : sumQ c (fun b => vf f a b * (if b < c then val ((solL c f st st.length).getD b default) else -1)) = sumQ c (fun b => vf f a b * val ((solL c f st st.length).getD b default)) := sumQ_congr fun b hb => by rw [if_pos hb]
        rw [e, hrow a ha, if_neg (Nat.lt_irrefl c)]
        split
        · grind
        · rename_i hge
          rw [inv.ze a (by omega) ha c (by omega)]; grind) i hi
      rw [sumQ] at hsat
      dsimp only at hsat
      rw [if_neg (Nat.lt_irrefl c)] at hsat
      have e1 : sumQ c (fun b => vf (celF (c + 1) (besL c 1 la lb n)) i b * (if b < c then val ((solL c f st st.length).getD b default) else -1)) = sumQ c (fun b => val (la.getD (i * c + b) default) * val ((solL c f st st.length).getD b default)) := by
        refine sumQ_congr fun b hb => ?_
        unfold vf celF
        rw [if_pos hb, besL_getD hla hlb n (Nat.le_refl _) i b hi (by omega), if_pos hb]
      have e2 : vf (celF (c + 1) (besL c 1 la lb n)) i c = val (lb.getD i default) := by
        unfold vf celF
        rw [besL_getD hla hlb n (Nat.le_refl _) i c hi (by omega), if_neg (Nat.lt_irrefl c)]
        congr 2; omega
      rw [e1, e2] at hsat
      grind
theorem slv_mul {a b : Mt} (hs : (slv a b).isSome = true) (h : mulB a (slvM a b) = true) : mulM a (slvM a b) = b := by
  obtain ⟨l, hl⟩ := Option.isSome_iff_exists.1 hs
  have hM : slvM a b = ⟨a.cols, 1, l⟩ := by unfold slvM; rw [hl]
  rw [hM] at h ⊢
  rw [mulM_true h]
  unfold slv at hl
  split at hl
  · rename_i hc
    obtain ⟨c1, c2, c3, c4⟩ := hc
    obtain ⟨a1, a2, a3, a4⟩ := mt_len c1
    obtain ⟨b1, b2, b3, b4⟩ := mt_len c2
    have hcb : b.cols.toNat = 1 := by omega
    rw [hcb, ← c3] at b1
    have hn := h
    unfold mulB at hn
    simp only [Bool.and_eq_true] at hn
    have hn := hn.2
    obtain ⟨br, bc, bl⟩ := b
    simp only at c3 c4 b1 b2 hl ⊢
    subst c3 c4
    congr 1
    rw [grid_of b1]
    unfold mulL at hn ⊢
    simp only [Int.toNat_one] at hn ⊢
    unfold gridL
    refine List.map_congr_left fun t ht => ?_
    rw [List.mem_range, Nat.mul_one] at ht
    rw [Nat.div_one, Nat.mod_one]
    have hnt : numB (mulS a.cols.toNat 1 a.cells l t 0 a.cols.toNat) = true := grid_nb hn ht (by omega)
    refine val_inj hnt ?_ ?_
    · unfold celF; exact allN_getD b2 (by rw [b1]; omega)
    · rw [mulS_val hnt]
      have := slv_sat a1 b1 a2 b2 hl ht
      unfold celF
      rw [Nat.mul_one, Nat.add_zero, ← this]
      refine sumQ_congr fun m hm => ?_
      unfold cel
      have hll := (slv_len (a := a) (b := ⟨a.rows, 1, bl⟩) (l := l) (by unfold slv; rw [if_pos ⟨c1, c2, rfl, rfl⟩]; exact hl)).2
      rw [List.getD_eq_getElem?_getD, List.getD_eq_getElem?_getD, List.getElem?_eq_getElem (show t * a.cols.toNat + m < a.cells.length by rw [a1]; exact grid_lt ht hm), Nat.mul_one, Nat.add_zero, List.getElem?_eq_getElem (show m < l.length by omega)]
      rfl
  · cases hl
set_option maxHeartbeats 4000000 in
theorem lawSolve_m (a0 : List Int) (h0 : a0.length ≤ 9223372036854775807) : Meets Try.prog 5 [(false, [encU8s a0])] [(false, [.sc (.bool true)], true)] := by
  have hb := big_m a0 h0
  by_cases hbig : 1048576 < a0.length
  · rw [decide_eq_true hbig] at hb
    refine meets_upf Try.func5 u_laws_FnSolve_g rfl ?_; simp only [u_laws_FnSolve_u]
    simp only [encU8s] at hb ⊢
    repeat' (first | (with_reducible refine jn_in ?_) | (with_reducible refine cl_ok (by assumption) rfl ?_) | (with_reducible refine cl_okP (by assumption) rfl ?_) | (with_reducible refine br_if (fun hbr => ?_) (fun hbr => ?_)) | (with_reducible refine br_ifn (fun hbr => ?_) (fun hbr => ?_)) | (with_reducible refine br_nb (fun hbr => ?_) (fun hbr => ?_)) | (with_reducible refine br_b (fun hbr => ?_) (fun hbr => ?_)) | simp (disch := first | omega | (simp only [List.length_take, List.length_drop, List.length_append, List.map_cons, List.map_nil, List.length_map, List.length_cons, List.length_nil, List.length_set, List.length_replicate]; omega) | (simp only [List.length_cons, List.length_nil, Nat.zero_add, Nat.reduceAdd])) only [go_sem, ↓reduceIte, Nat.reduceAdd, Int.reduceNeg, Int.reduceAdd, Int.reduceSub, Int.reduceMul, Int.reduceLT, Int.reduceLE, Int.reduceEq, Int.reduceToNat, Nat.reduceBEq, e_sle, e_sge, e_shl1, e_orI, e_andI, e_shr, wrapu, wrap8, tn1, nat1, ix_s, ix_z, st_s, st_z, fl_s, fl_z, fl1_s, fl1_z, map_s, map_z, u_laws_FnSolve_j0])
    all_goals rfl
  rw [decide_eq_false hbig] at hb
  obtain ⟨⟨a, b⟩, -, hd⟩ := drawSlv_e a0 (by omega)
  simp only at hd
  have h1 := implSlv_m a b
  have h2 := specSlv_m a b
  have h3 := sameMts_m (slvM a b) (slvM a b) (by have := slvM_len a b; omega)
  rw [decide_eq_true rfl] at h3
  have h4 := implMul_m a (slvM a b)
  have h5 := specMul_m a (slvM a b)
  have hlen : (mulM a (slvM a b)).cells.length ≤ 1000000 := by
    unfold mulM
    split
    · rename_i hB
      have hm := hB
      unfold mulB at hm
      simp only [Bool.and_eq_true] at hm
      have q1 := (mt_len hm.1.1.1).2.2.1
      have q2 := (mt_len hm.1.1.2).2.2.2
      simp only [mulL, gridL_len]
      exact Nat.le_trans (Nat.mul_le_mul q1 q2) (by decide)
    · exact Nat.zero_le _
  have h6 := sameMts_m (mulM a (slvM a b)) b hlen
  have hsm := @slv_mul a b
  refine meets_upf Try.func5 u_laws_FnSolve_g rfl ?_; simp only [u_laws_FnSolve_u]
  simp only [encU8s, encMt, encIts] at hb hd h1 h2 h3 h4 h5 h6 ⊢
  cases hs : (slv a b).isSome <;> cases hm : mulB a (slvM a b) <;> rw [hs] at h1 h2 hsm <;> rw [hm] at h4 h5 hsm
  · repeat' (first | (with_reducible refine jn_in ?_) | (with_reducible refine cl_ok (by assumption) rfl ?_) | (with_reducible refine cl_okP (by assumption) rfl ?_) | (with_reducible refine br_if (fun hbr => ?_) (fun hbr => ?_)) | (with_reducible refine br_ifn (fun hbr => ?_) (fun hbr => ?_)) | (with_reducible refine br_nb (fun hbr => ?_) (fun hbr => ?_)) | (with_reducible refine br_b (fun hbr => ?_) (fun hbr => ?_)) | simp (disch := first | omega | (simp only [List.length_take, List.length_drop, List.length_append, List.map_cons, List.map_nil, List.length_map, List.length_cons, List.length_nil, List.length_set, List.length_replicate]; omega) | (simp only [List.length_cons, List.length_nil, Nat.zero_add, Nat.reduceAdd])) only [go_sem, ↓reduceIte, Nat.reduceAdd, Int.reduceNeg, Int.reduceAdd, Int.reduceSub, Int.reduceMul, Int.reduceLT, Int.reduceLE, Int.reduceEq, Int.reduceToNat, Nat.reduceBEq, e_sle, e_sge, e_shl1, e_orI, e_andI, e_shr, wrapu, wrap8, tn1, nat1, ix_s, ix_z, st_s, st_z, fl_s, fl_z, fl1_s, fl1_z, map_s, map_z, u_laws_FnSolve_j0])
    all_goals rfl
  · repeat' (first | (with_reducible refine jn_in ?_) | (with_reducible refine cl_ok (by assumption) rfl ?_) | (with_reducible refine cl_okP (by assumption) rfl ?_) | (with_reducible refine br_if (fun hbr => ?_) (fun hbr => ?_)) | (with_reducible refine br_ifn (fun hbr => ?_) (fun hbr => ?_)) | (with_reducible refine br_nb (fun hbr => ?_) (fun hbr => ?_)) | (with_reducible refine br_b (fun hbr => ?_) (fun hbr => ?_)) | simp (disch := first | omega | (simp only [List.length_take, List.length_drop, List.length_append, List.map_cons, List.map_nil, List.length_map, List.length_cons, List.length_nil, List.length_set, List.length_replicate]; omega) | (simp only [List.length_cons, List.length_nil, Nat.zero_add, Nat.reduceAdd])) only [go_sem, ↓reduceIte, Nat.reduceAdd, Int.reduceNeg, Int.reduceAdd, Int.reduceSub, Int.reduceMul, Int.reduceLT, Int.reduceLE, Int.reduceEq, Int.reduceToNat, Nat.reduceBEq, e_sle, e_sge, e_shl1, e_orI, e_andI, e_shr, wrapu, wrap8, tn1, nat1, ix_s, ix_z, st_s, st_z, fl_s, fl_z, fl1_s, fl1_z, map_s, map_z, u_laws_FnSolve_j0])
    all_goals rfl
  · repeat' (first | (with_reducible refine jn_in ?_) | (with_reducible refine cl_ok (by assumption) rfl ?_) | (with_reducible refine cl_okP (by assumption) rfl ?_) | (with_reducible refine br_if (fun hbr => ?_) (fun hbr => ?_)) | (with_reducible refine br_ifn (fun hbr => ?_) (fun hbr => ?_)) | (with_reducible refine br_nb (fun hbr => ?_) (fun hbr => ?_)) | (with_reducible refine br_b (fun hbr => ?_) (fun hbr => ?_)) | simp (disch := first | omega | (simp only [List.length_take, List.length_drop, List.length_append, List.map_cons, List.map_nil, List.length_map, List.length_cons, List.length_nil, List.length_set, List.length_replicate]; omega) | (simp only [List.length_cons, List.length_nil, Nat.zero_add, Nat.reduceAdd])) only [go_sem, ↓reduceIte, Nat.reduceAdd, Int.reduceNeg, Int.reduceAdd, Int.reduceSub, Int.reduceMul, Int.reduceLT, Int.reduceLE, Int.reduceEq, Int.reduceToNat, Nat.reduceBEq, e_sle, e_sge, e_shl1, e_orI, e_andI, e_shr, wrapu, wrap8, tn1, nat1, ix_s, ix_z, st_s, st_z, fl_s, fl_z, fl1_s, fl1_z, map_s, map_z, u_laws_FnSolve_j0])
    all_goals rfl
  · rw [decide_eq_true (hsm rfl rfl)] at h6
    repeat' (first | (with_reducible refine jn_in ?_) | (with_reducible refine cl_ok (by assumption) rfl ?_) | (with_reducible refine cl_okP (by assumption) rfl ?_) | (with_reducible refine br_if (fun hbr => ?_) (fun hbr => ?_)) | (with_reducible refine br_ifn (fun hbr => ?_) (fun hbr => ?_)) | (with_reducible refine br_nb (fun hbr => ?_) (fun hbr => ?_)) | (with_reducible refine br_b (fun hbr => ?_) (fun hbr => ?_)) | simp (disch := first | omega | (simp only [List.length_take, List.length_drop, List.length_append, List.map_cons, List.map_nil, List.length_map, List.length_cons, List.length_nil, List.length_set, List.length_replicate]; omega) | (simp only [List.length_cons, List.length_nil, Nat.zero_add, Nat.reduceAdd])) only [go_sem, ↓reduceIte, Nat.reduceAdd, Int.reduceNeg, Int.reduceAdd, Int.reduceSub, Int.reduceMul, Int.reduceLT, Int.reduceLE, Int.reduceEq, Int.reduceToNat, Nat.reduceBEq, e_sle, e_sge, e_shl1, e_orI, e_andI, e_shr, wrapu, wrap8, tn1, nat1, ix_s, ix_z, st_s, st_z, fl_s, fl_z, fl1_s, fl1_z, map_s, map_z, u_laws_FnSolve_j0])
    all_goals rfl
end Go.Proofs.Ytolkglnkdfcceaa

namespace Go.Proofs.Ytolkglnkdfcceaa.fnSolve
open Go.ChangeShapes Go.WideShapes Go.ChangeAt Go.RowKit
open Go.ChangeMaps (open_string shut_string)

theorem own : ownKnob Try.prog.godebug = none := by kernel_rfl
theorem laidOut : laidOutB Try.prog = true := by kernel_rfl

set_option maxRecDepth 100000 in
set_option maxHeartbeats 2000000 in
theorem walk {H : Type} (enc : TypeId × Value → H) (v0 : Value) (d0 : DataW H) (p0 : List MemPlace) (base : Nat) (w : World)
    (ok0 : Value.okWide Try.prog w .any base 22 v0) (h0 : DataW.Trod enc Try.prog w 0 (fun _ => true) true 22 v0 d0 p0)
    (sz : (DataW.weightsEach Try.prog [22] [d0]).all (· ≤ reachBytes) = true) :
    Calls Try.prog 5 #[v0] w fun e w' => e = .returned (.bool true) ∧ Below w.heap.size w w' := by
  obtain ⟨a0, r0, i0⟩ := argD_sl (base := base) opD_U8s Try.underlying22 h0 ok0
  exact run_law (lawSolve_m a0 i0.1) (ArgsR.cons r0 ArgsR.nil)

set_option maxRecDepth 100000 in
theorem lifted (os : Os) (started : os.Started) (H : Type) (enc : TypeId × Value → H) :
    ReturnsInHanded {} Try.checked os 5 .any (Rows.fnSolveSpec.pre6 enc Try.prog Try.f5 Rows.fnSolveRow.domain false) (Rows.fnSolveSpec.post enc Try.prog Try.f5 false true false false) := by
  refine returnsInHanded_of_change_sized (C := Try.checked) own started (by kernel_rfl) Try.func5
    (ChangeSpec.witness6 (enc := enc) (C := Try.checked) false ⟨#[], #[.slice none 0 0], []⟩ 8 (by kernel_rfl) (by kernel_rfl) (by kernel_rfl) (by kernel_rfl)) ?_
  intro W base args ds gs before hval0 hW hcnd0 hsz0 hholds
  have hval : ∀ (j : Nat) t v, Try.f5.params[j]? = some t → args[j]? = some v → Value.okWide Try.prog W .any base t v := hval0
  have hsz : (DataW.weightsEach Try.prog (Try.f5.params.toList ++ Rows.fnSolveSpec.plain.varTypes Try.prog) (ds ++ gs)).all (· ≤ reachBytes) = true := hsz0
  have hW' := hW
  obtain ⟨p, q, hA0, hV, rfl, hfz, hnd⟩ := hW
  have hA : DataW.TrodAll enc Try.prog W 0 (fun _ => true) true Try.f5.params.toList args.toList ds p := hA0
  rw [Try.params5] at hA hval hsz
  obtain ⟨v0, vs0, d0, ds0, p0, q0, hargs, rfl, rfl, h0, r0⟩ := trodAll_cons hA
  obtain ⟨rfl, rfl, rfl⟩ := trodAll_nil r0
  obtain rfl : args = #[v0] := by cases args; simp_all
  obtain ⟨rfl, rfl⟩ := trodVars_none hV
  have lt0 : ∀ x ∈ p0, x.block < W.heap.size := by obtain ⟨m, hm⟩ := h0; exact DataW.trod_lt m _ _ _ hm
  refine (walk enc v0 d0 p0 base W (hval 0 22 v0 rfl rfl) h0 hsz).mono fun e W' ⟨he, bel⟩ => ?_
  subst he
  exact ⟨_, rfl, _, _, _, [], _, [], hW', trodAll_mk1 (shut_bool Try.underlying4 _), (trodAll_cons_mk (Below.trod laidOut (by kernel_rfl) (of_decide_eq_true (by kernel_rfl)) h0 bel lt0) trodAll_mk0), rfl, bel.frame _, fun h => by cases h⟩

theorem over : Rows.fnSolveRow.holds Try.pinned (OpenSpec.ofChange Rows.fnSolveSpec) :=
  OpenClaim.holds_of_wide 5 Try.f5 rfl rfl rfl rfl rfl rfl rfl ⟨rfl, rfl, rfl, rfl, rfl⟩ rfl rfl rfl rfl rfl (by kernel_rfl) Try.func5 (by kernel_rfl)
    (of_decide_eq_true (by kernel_rfl)) (by unfold Func.isWrapper; first | (rw [if_pos (by decide +kernel)]; kernel_rfl) | (rw [if_neg (by decide +kernel)]; exact ⟨rfl, rfl⟩))
    (fun os started H enc _ => lifted os started H enc)

theorem proved : Rows.FnSolveSaid := over
end Go.Proofs.Ytolkglnkdfcceaa.fnSolve

