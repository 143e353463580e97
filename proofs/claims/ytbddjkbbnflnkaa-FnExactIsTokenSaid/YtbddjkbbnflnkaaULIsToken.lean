/- Made by program (vdgen.py): pure programs of functions, each with the fact that the generator yields it. -/
import Derived.Test.YtbddjkbbnflnkaaGW
import Derived.Test.YtbddjkbbnflnkaaProg
import Derived.Test.YtbddjkbbnflnkaaGen0
namespace Go.Proofs.Ytbddjkbbnflnkaa
open Go.RowKit
set_option linter.unusedVariables false
set_option maxRecDepth 100000

def u_laws_FnExactIsToken_h : List Hint := []
def u_laws_FnExactIsToken_d : List (Nat × Nat × Bool × List Nat) := []
def u_laws_FnExactIsToken_u : UP := .po (.k (.bool false)) <| .po (.k (.int .i64 1048576)) <| .cl 38 [(true, [3, 2]), (false, [0])] [(false, [none], true)] <| .po (.k (.int .i64 0)) <| .po (.bin .lss false 1 0) <| .ite 0 (.po (.k (.bool true)) <| .po (.sc 0) <| .ret [(false, [0])]) <| .sel [5, 6] <| .cl 40 [(true, [1, 0])] [(true, [none, none], true)] <| .cl 39 [(true, [1, 0])] [(false, [none], true)] <| .cl 40 [(true, [4, 3])] [(true, [none, none], true)] <| .sel [0, 1, 2] <| .cl 41 [(true, [1, 0])] [(false, [none], true)] <| .po (.bin .neq true 0 3) <| .ite 0 (.po (.k (.bool false)) <| .po (.sc 0) <| .ret [(false, [0])]) <| .po (.k (.bool true)) <| .po (.sc 0) <| .ret [(false, [0])]
theorem u_laws_FnExactIsToken_g : toUPf Try.prog 8 Try.f8 owL u_laws_FnExactIsToken_h u_laws_FnExactIsToken_d = some ([(true, 2)], u_laws_FnExactIsToken_u) := by kernel_rfl
end Go.Proofs.Ytbddjkbbnflnkaa
