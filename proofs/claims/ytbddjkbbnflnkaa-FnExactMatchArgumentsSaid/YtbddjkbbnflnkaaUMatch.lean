/- Made by program (vdgen.py): pure programs of functions, each with the fact that the generator yields it. -/
import Derived.Test.YtbddjkbbnflnkaaGW
import Derived.Test.YtbddjkbbnflnkaaProg
import Derived.Test.YtbddjkbbnflnkaaGen0
namespace Go.Proofs.Ytbddjkbbnflnkaa
open Go.RowKit
set_option linter.unusedVariables false
set_option maxRecDepth 100000

def u_spec_l25Taken_h : List Hint := [⟨3000002, 1, ⟨[(5, .p false [.d 4]), (4, .p false [.d 2]), (0, .p false [.d 0]), (1, .p false [.d 1])], [], 0, 0, 5, [(2, false)]⟩, []⟩]
def u_spec_l25Taken_d : List (Nat × Nat × Bool × List Nat) := []
def u_spec_l25Taken_l0 : UP := .po (.lenL 4) <| .po (.bin .lss false 1 0) <| .ite 0 (.po (.isI 2) <| .po (.idx 1 6 2) <| .po (.bin .eql false 0 6) <| .ite 0 (.po (.k (.bool true)) <| .po (.sc 0) <| .ret [(false, [0])]) <| .po (.k (.int .i64 1)) <| .po (.bin .add false 5 0) <| .jump 0 [0]) <| .po (.k (.bool false)) <| .po (.sc 0) <| .ret [(false, [0])]
def u_spec_l25Taken_u : UP := .po (.k (.bool false)) <| .po (.k (.int .i64 0)) <| .loop [0] u_spec_l25Taken_l0
theorem u_spec_l25Taken_g : toUPf Try.prog 73 Try.f73 owA u_spec_l25Taken_h u_spec_l25Taken_d = some ([(false, 1), (false, 1)], u_spec_l25Taken_u) := by kernel_rfl
end Go.Proofs.Ytbddjkbbnflnkaa
