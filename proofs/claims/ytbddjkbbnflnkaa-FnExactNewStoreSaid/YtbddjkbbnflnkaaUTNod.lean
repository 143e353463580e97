/- Made by program (vdgen.py): pure programs of functions, each with the fact that the generator yields it. -/
import Derived.Test.YtbddjkbbnflnkaaGW
import Derived.Test.YtbddjkbbnflnkaaProg
import Derived.Test.YtbddjkbbnflnkaaGen0
namespace Go.Proofs.Ytbddjkbbnflnkaa
open Go.RowKit
set_option linter.unusedVariables false
set_option maxRecDepth 100000

def u_laws_eqNode_h : List Hint := []
def u_laws_eqNode_d : List (Nat × Nat × Bool × List Nat) := []
def u_laws_eqNode_u : UP := .po (.k (.bool false)) <| .po (.bin .neq false 10 5) <| .ite 0 (.po (.k (.bool false)) <| .po (.sc 0) <| .ret [(false, [0])]) <| .po (.bin .neq false 10 5) <| .ite 0 (.po (.k (.bool false)) <| .po (.sc 0) <| .ret [(false, [0])]) <| .po (.bin .neq false 10 5) <| .ite 0 (.po (.k (.bool false)) <| .po (.sc 0) <| .ret [(false, [0])]) <| .sel [4, 5, 9, 10] <| .cl 20 [(false, [3]), (false, [1])] [(false, [none], true)] <| .po (.un .not 0) <| .ite 0 (.po (.k (.bool false)) <| .po (.sc 0) <| .ret [(false, [0])]) <| .po (.bin .neq false 4 2) <| .ite 0 (.po (.k (.bool false)) <| .po (.sc 0) <| .ret [(false, [0])]) <| .po (.k (.bool true)) <| .po (.sc 0) <| .ret [(false, [0])]
theorem u_laws_eqNode_g : toUPf Try.prog 114 Try.f114 owA u_laws_eqNode_h u_laws_eqNode_d = some ([(true, 5), (true, 5)], u_laws_eqNode_u) := by kernel_rfl
def u_laws_eqNodeS_h : List Hint := [⟨3000004, 1, ⟨[(5, .p false [.d 7]), (10, .p false [.d 5]), (4, .p false [.d 2]), (0, .p false [.d 0]), (1, .p false [.d 1])], [], 0, 0, 8, [(5, false), (2, false)]⟩, []⟩]
def u_laws_eqNodeS_d : List (Nat × Nat × Bool × List Nat) := [(6, 10, false, [])]
def u_laws_eqNodeS_l0 : UP := .po (.lenL 3) <| .po (.bin .lss false 1 0) <| .ite 0 (.po (.isI 2) <| .po (.idx 5 5 2) <| .po (.isI 7) <| .po (.idx 5 9 7) <| .sel [0, 1, 2, 3, 4, 5, 6, 7, 8, 9, 12] <| .cl 114 [(true, [9, 8, 7, 6, 5]), (true, [4, 3, 2, 1, 0])] [(false, [none], true)] <| .po (.un .not 0) <| .po (.sc 0) <| .ite 0 (.po (.k (.bool false)) <| .po (.sc 0) <| .ret [(false, [0])]) <| .po (.k (.int .i64 1)) <| .po (.bin .add false 13 0) <| .jump 0 [0]) <| .po (.k (.bool true)) <| .po (.sc 0) <| .ret [(false, [0])]
def u_laws_eqNodeS_u : UP := .po (.k (.bool false)) <| .po (.lenL 2) <| .po (.lenL 2) <| .po (.bin .neq false 1 0) <| .ite 0 (.po (.k (.bool false)) <| .po (.sc 0) <| .ret [(false, [0])]) <| .po (.k (.int .i64 0)) <| .sel [0, 5, 6] <| .loop [0] u_laws_eqNodeS_l0
theorem u_laws_eqNodeS_g : toUPf Try.prog 51 Try.f51 owA u_laws_eqNodeS_h u_laws_eqNodeS_d = some ([(false, 1), (false, 1)], u_laws_eqNodeS_u) := by kernel_rfl
end Go.Proofs.Ytbddjkbbnflnkaa
