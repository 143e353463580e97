/- Made by program (vdgen.py): pure programs of functions, each with the fact that the generator yields it. -/
import Derived.Test.YtbikbjgbpeipmaaVdR
import Derived.Test.YtbikbjgbpeipmaaProg
import Derived.Test.YtbikbjgbpeipmaaGen0
namespace Go.Proofs.Ytbikbjgbpeipmaa
open Go.RowKit
set_option linter.unusedVariables false
set_option maxRecDepth 100000

def u_impl_addText_h : List Hint := []
def u_impl_addText_d : List (Nat × Nat × Bool × List Nat) := []
def u_impl_addText_u : UP := .cl 34 [(false, [1]), (false, [0])] [(false, [none], true)] <| .ite 0 (.ret [(false, [2])]) <| .po (.sc 1) <| .po (.mk 9 1 [[1]]) <| .po (.flat 0) <| .po (.app 9 1 16 3 0) <| .ret [(false, [0])]
theorem u_impl_addText_g : toUPpf Try.prog 25 Try.f25 owA u_impl_addText_h u_impl_addText_d = some ((9, 1, [(false, 1)]), u_impl_addText_u) := by kernel_rfl
def u_spec_l19Put_h : List Hint := []
def u_spec_l19Put_d : List (Nat × Nat × Bool × List Nat) := []
def u_spec_l19Put_u : UP := .po (.k (.string ⟨#[]⟩)) <| .po (.bin .eql false 1 0) <| .ite 0 (.po (.k (.bool true)) <| .ret [(false, [4])]) <| .cl 31 [(false, [3]), (false, [2])] [(false, [none], true)] <| .ite 0 (.ret [(false, [4])]) <| .po (.sc 3) <| .po (.mk 9 1 [[3]]) <| .po (.flat 0) <| .po (.app 9 1 16 5 0) <| .ret [(false, [0])]
theorem u_spec_l19Put_g : toUPpf Try.prog 22 Try.f22 owA u_spec_l19Put_h u_spec_l19Put_d = some ((9, 1, [(false, 1)]), u_spec_l19Put_u) := by kernel_rfl
end Go.Proofs.Ytbikbjgbpeipmaa
