/- Made by program (vdgen.py): pure programs of functions, each with the fact that the generator yields it. -/
import Derived.Test.YtenopiadacpbiaaVdR
import Derived.Test.YtenopiadacpbiaaProg
import Derived.Test.YtenopiadacpbiaaGen0
namespace Go.Proofs.Ytenopiadacpbiaa
open Go.RowKit
set_option linter.unusedVariables false
set_option maxRecDepth 100000

def u_impl_SubtreeAt_h : List Hint := []
def u_impl_SubtreeAt_d : List (Nat × Nat × Bool × List Nat) := []
def u_impl_SubtreeAt_u : UP := .po (.k (.bool false)) <| .cl 23 [(false, [2])] [(false, [none], true)] <| .po (.un .not 0) <| .ite 0 (.po (.k (.bool true)) <| .po (.k (.bool true)) <| .po (.k (.bool true)) <| .po (.k (.bool false)) <| .po (.e 41 5) <| .po (.sc 1) <| .ret [(false, [0]), (false, [1])]) <| .po (.k (.int .i64 0)) <| .po (.bin .lss false 4 0) <| .ite 0 (.po (.k (.bool true)) <| .po (.k (.bool true)) <| .po (.k (.bool false)) <| .po (.e 41 5) <| .po (.sc 1) <| .ret [(false, [0]), (false, [1])]) <| .po (.lenL 6) <| .po (.bin .geq false 6 0) <| .ite 0 (.po (.k (.bool true)) <| .po (.k (.bool false)) <| .po (.e 41 5) <| .po (.sc 1) <| .ret [(false, [0]), (false, [1])]) <| .po (.isI 7) <| .po (.idx 5 8 7) <| .po (.k (.int .i64 1)) <| .po (.bin .eql false 5 0) <| .ite 0 (.po (.k (.bool false)) <| .po (.e 41 5) <| .po (.sc 1) <| .ret [(false, [0]), (false, [1])]) <| .sel [14, 15] <| .cl 25 [(false, [1]), (false, [0])] [(false, [some (41, 5)], false)] <| .cl 24 [(false, [0])] [(false, [some (41, 5)], true)] <| .po (.k (.bool true)) <| .po (.sc 0) <| .ret [(false, [1]), (false, [0])]
theorem u_impl_SubtreeAt_g : toUPf Try.prog 9 Try.f9 owA u_impl_SubtreeAt_h u_impl_SubtreeAt_d = some ([(false, 1), (false, 1)], u_impl_SubtreeAt_u) := by kernel_rfl
def u_impl_subtree_h : List Hint := []
def u_impl_subtree_d : List (Nat × Nat × Bool × List Nat) := []
def u_impl_subtree_u : UP := .cl 30 [(false, [1]), (false, [0])] [(false, [none], true)] <| .po (.k (.int .i64 1)) <| .po (.bin .add false 2 0) <| .po (.cutL 5 4 (some 2) (some 0)) <| .ret [(false, [0])]
theorem u_impl_subtree_g : toUPrf Try.prog 25 Try.f25 owA u_impl_subtree_h u_impl_subtree_d = some ([(false, 1), (false, 1)], u_impl_subtree_u) := by kernel_rfl
def u_spec_SubtreeAt_h : List Hint := []
def u_spec_SubtreeAt_d : List (Nat × Nat × Bool × List Nat) := []
def u_spec_SubtreeAt_u : UP := .po (.k (.bool false)) <| .cl 18 [(false, [2])] [(false, [none], true)] <| .po (.un .not 0) <| .ite 0 (.po (.k (.bool true)) <| .po (.k (.bool true)) <| .po (.mk 41 5 []) <| .po (.k (.bool false)) <| .po (.sc 0) <| .ret [(false, [1]), (false, [0])]) <| .po (.lenL 4) <| .po (.k (.int .i64 1)) <| .po (.bin .sub false 1 0) <| .po (.k (.int .i64 0)) <| .sel [0, 1, 7, 8] <| .cl 19 [(false, [2]), (false, [0]), (false, [1])] [(false, [none], true)] <| .po (.un .not 0) <| .ite 0 (.po (.k (.bool true)) <| .po (.mk 41 5 []) <| .po (.k (.bool false)) <| .po (.sc 0) <| .ret [(false, [1]), (false, [0])]) <| .po (.isI 4) <| .po (.idx 5 5 4) <| .po (.k (.int .i64 1)) <| .po (.bin .eql false 5 0) <| .ite 0 (.po (.mk 41 5 []) <| .po (.k (.bool false)) <| .po (.sc 0) <| .ret [(false, [1]), (false, [0])]) <| .sel [11, 12] <| .cl 21 [(false, [1]), (false, [0])] [(false, [none], true)] <| .po (.k (.int .i64 1)) <| .po (.bin .add false 2 0) <| .po (.cutL 5 4 (some 2) (some 0)) <| .sel [0] <| .cl 20 [(false, [0])] [(false, [some (41, 5)], true)] <| .po (.k (.bool true)) <| .po (.sc 0) <| .ret [(false, [1]), (false, [0])]
theorem u_spec_SubtreeAt_g : toUPf Try.prog 7 Try.f7 owA u_spec_SubtreeAt_h u_spec_SubtreeAt_d = some ([(false, 1), (false, 1)], u_spec_SubtreeAt_u) := by kernel_rfl
end Go.Proofs.Ytenopiadacpbiaa
