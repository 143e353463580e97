/- Made by program (vdgen.py): pure programs of functions, each with the fact that the generator yields it. -/
import Derived.Test.YtbddjkbbnflnkaaGW
import Derived.Test.YtbddjkbbnflnkaaProg
import Derived.Test.YtbddjkbbnflnkaaGen0
namespace Go.Proofs.Ytbddjkbbnflnkaa
open Go.RowKit
set_option linter.unusedVariables false
set_option maxRecDepth 100000

def u_laws_FnExactFormatTokens_h : List Hint := []
def u_laws_FnExactFormatTokens_d : List (Nat × Nat × Bool × List Nat) := []
def u_laws_FnExactFormatTokens_u : UP := .po (.k (.bool false)) <| .po (.k (.int .i64 1048576)) <| .cl 42 [(false, [2]), (false, [0])] [(false, [none], true)] <| .po (.k (.int .i64 0)) <| .po (.bin .lss false 1 0) <| .ite 0 (.po (.k (.bool true)) <| .po (.sc 0) <| .ret [(false, [0])]) <| .sel [5] <| .cl 44 [(false, [0])] [(false, [some (52, 2)], true)] <| .cl 43 [(false, [0])] [(false, [none], true)] <| .cl 44 [(false, [2])] [(false, [some (52, 2)], true)] <| .cl 45 [(false, [0])] [(false, [none], true)] <| .po (.bin .neq false 0 2) <| .ite 0 (.po (.k (.bool false)) <| .po (.sc 0) <| .ret [(false, [0])]) <| .sel [2, 5] <| .cl 44 [(false, [1])] [(false, [some (52, 2)], true)] <| .cl 46 [(false, [1]), (false, [0])] [(false, [none], true)] <| .po (.un .not 0) <| .ite 0 (.po (.k (.bool false)) <| .po (.sc 0) <| .ret [(false, [0])]) <| .po (.k (.bool true)) <| .po (.sc 0) <| .ret [(false, [0])]
theorem u_laws_FnExactFormatTokens_g : toUPf Try.prog 9 Try.f9 owL u_laws_FnExactFormatTokens_h u_laws_FnExactFormatTokens_d = some ([(false, 1)], u_laws_FnExactFormatTokens_u) := by kernel_rfl
end Go.Proofs.Ytbddjkbbnflnkaa
