/- Made by program (vdgen.py): pure programs of functions, each with the fact that the generator yields it. -/
import Derived.Test.YtolkglnkdfcceaaVdS
import Derived.Test.YtolkglnkdfcceaaProg
import Derived.Test.YtolkglnkdfcceaaGen0
namespace Go.Proofs.Ytolkglnkdfcceaa
open Go.RowKit
set_option linter.unusedVariables false
set_option maxRecDepth 100000

def u_impl_RankOf_h : List Hint := []
def u_impl_RankOf_d : List (Nat × Nat × Bool × List Nat) := []
def u_impl_RankOf_u : UP := .po (.k (.int .i64 0)) <| .po (.k (.bool false)) <| .cl 37 [(true, [4, 3, 2])] [(true, [none, none, some (33, 3)], true), (false, [some (3, 1)], true), (false, [none], true)] <| .po (.k (.int .i64 0)) <| .po (.k (.int .i64 0)) <| .po (.lenL 3) <| .po (.sc 0) <| .po (.sc 3) <| .ret [(false, [0]), (false, [3])]
theorem u_impl_RankOf_g : toUPf Try.prog 13 Try.f13 owA u_impl_RankOf_h u_impl_RankOf_d = some ([(true, 3)], u_impl_RankOf_u) := by kernel_rfl
def u_impl_ReduceRows_h : List Hint := []
def u_impl_ReduceRows_d : List (Nat × Nat × Bool × List Nat) := [(6, 3, false, [])]
def u_impl_ReduceRows_u : UP := .po (.k (.int .i64 0)) <| .po (.k (.int .i64 0)) <| .po (.k (.bool false)) <| .cl 41 [(true, [5, 4, 3])] [(false, [none], true)] <| .po (.un .not 0) <| .ite 0 (.po (.k (.int .i64 0)) <| .po (.k (.int .i64 0)) <| .po (.k (.bool false)) <| .po (.sc 2) <| .po (.sc 1) <| .po (.e 33 3) <| .po (.e 3 1) <| .po (.sc 2) <| .ret [(true, [4, 3, 1]), (false, [0]), (false, [2])]) <| .sel [5, 6, 7] <| .cl 50 [(true, [2, 1, 0])] [(true, [none, none, some (33, 3)], true), (false, [some (67, 5)], true), (false, [none], true)] <| .po (.k (.int .i64 0)) <| .po (.k (.int .i64 0)) <| .po (.un .not 2) <| .ite 0 (.po (.k (.int .i64 0)) <| .po (.k (.int .i64 0)) <| .po (.k (.bool false)) <| .po (.sc 2) <| .po (.sc 1) <| .po (.e 33 3) <| .po (.e 3 1) <| .po (.sc 2) <| .ret [(true, [4, 3, 1]), (false, [0]), (false, [2])]) <| .po (.sc 7) <| .po (.sc 6) <| .sel [4, 5, 6, 7] <| .cl 60 [(false, [0])] [(false, [some (3, 1)], true)] <| .po (.k (.bool true)) <| .po (.sc 5) <| .po (.sc 4) <| .po (.sc 0) <| .ret [(true, [5, 4, 3]), (false, [1]), (false, [0])]
theorem u_impl_ReduceRows_g : toUPf Try.prog 37 Try.f37 owA u_impl_ReduceRows_h u_impl_ReduceRows_d = some ([(true, 3)], u_impl_ReduceRows_u) := by kernel_rfl
def u_impl_pivotColumns_h : List Hint := [⟨3000003, 2, ⟨[(3, .p false [.own 0 0]), (8, .p false [.d 4]), (7, .p false [.d 1]), (6, .p false [.d 0]), (2, .p false [.nil]), (0, .p false [.d 0])], [(0, .row 0 3 1 5)], 1, 1, 6, []⟩, [⟨true, 3, 0, 3, 1⟩]⟩]
def u_impl_pivotColumns_d : List (Nat × Nat × Bool × List Nat) := []
def u_impl_pivotColumns_l0 : UP := .po (.bin .lss false 1 4) <| .ite 0 (.po (.isI 2) <| .po (.idx 5 6 2) <| .po (.k (.int .i64 0)) <| .po (.k (.int .i64 0)) <| .po (.k (.int .i64 0)) <| .po (.k (.string ⟨#[]⟩)) <| .po (.k (.bool false)) <| .po (.sc 9) <| .po (.mk 3 1 [[9]]) <| .po (.flat 0) <| .po (.app 3 1 8 12 0) <| .po (.k (.int .i64 1)) <| .po (.bin .add false 15 0) <| .jump 0 [0, 2]) <| .ret [(false, [1])]
def u_impl_pivotColumns_u : UP := .po (.lenL 0) <| .po (.k (.int .i64 0)) <| .po (.e 3 1) <| .loop [1, 0] u_impl_pivotColumns_l0
theorem u_impl_pivotColumns_g : toUPf Try.prog 60 Try.f60 owA u_impl_pivotColumns_h u_impl_pivotColumns_d = some ([(false, 1)], u_impl_pivotColumns_u) := by kernel_rfl
def u_spec_RankOf_h : List Hint := []
def u_spec_RankOf_d : List (Nat × Nat × Bool × List Nat) := []
def u_spec_RankOf_u : UP := .po (.k (.int .i64 0)) <| .po (.k (.bool false)) <| .cl 57 [(true, [4, 3, 2])] [(true, [none, none, some (33, 3)], true), (false, [some (3, 1)], true), (false, [none], true)] <| .po (.k (.int .i64 0)) <| .po (.k (.int .i64 0)) <| .po (.lenL 3) <| .po (.sc 0) <| .po (.sc 3) <| .ret [(false, [0]), (false, [3])]
theorem u_spec_RankOf_g : toUPf Try.prog 27 Try.f27 owA u_spec_RankOf_h u_spec_RankOf_d = some ([(true, 3)], u_spec_RankOf_u) := by kernel_rfl
def u_spec_ReduceRows_h : List Hint := []
def u_spec_ReduceRows_d : List (Nat × Nat × Bool × List Nat) := []
def u_spec_ReduceRows_u : UP := .po (.k (.int .i64 0)) <| .po (.k (.int .i64 0)) <| .po (.k (.bool false)) <| .cl 45 [(true, [5, 4, 3])] [(false, [none], true)] <| .po (.un .not 0) <| .ite 0 (.po (.k (.int .i64 0)) <| .po (.k (.int .i64 0)) <| .po (.mk 3 1 []) <| .po (.k (.bool false)) <| .po (.sc 3) <| .po (.sc 2) <| .po (.e 33 3) <| .po (.sc 1) <| .ret [(true, [4, 3, 0]), (false, [2]), (false, [1])]) <| .sel [5, 6, 7] <| .cl 52 [(true, [2, 1, 0])] [(true, [none, none, some (33, 3)], true), (false, [some (3, 1)], true), (false, [some (33, 3)], true), (false, [none], true)] <| .po (.k (.int .i64 0)) <| .po (.k (.int .i64 0)) <| .po (.sc 7) <| .po (.sc 6) <| .po (.sc 2) <| .ret [(true, [7, 6, 5]), (false, [4]), (false, [2])]
theorem u_spec_ReduceRows_g : toUPf Try.prog 57 Try.f57 owA u_spec_ReduceRows_h u_spec_ReduceRows_d = some ([(true, 3)], u_spec_ReduceRows_u) := by kernel_rfl
end Go.Proofs.Ytolkglnkdfcceaa
