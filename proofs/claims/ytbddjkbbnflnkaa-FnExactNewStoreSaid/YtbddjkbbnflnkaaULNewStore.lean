/- Made by program (vdgen.py): pure programs of functions, each with the fact that the generator yields it. -/
import Derived.Test.YtbddjkbbnflnkaaGW
import Derived.Test.YtbddjkbbnflnkaaProg
import Derived.Test.YtbddjkbbnflnkaaGen0
namespace Go.Proofs.Ytbddjkbbnflnkaa
open Go.RowKit
set_option linter.unusedVariables false
set_option maxRecDepth 100000

def u_laws_FnExactNewStore_h : List Hint := []
def u_laws_FnExactNewStore_d : List (Nat × Nat × Bool × List Nat) := []
def u_laws_FnExactNewStore_u : UP := .po (.k (.bool false)) <| .cl 33 [] [(true, [some (116, 4), some (145, 12)], true)] <| .cl 34 [] [(true, [some (116, 4), some (145, 12)], true)] <| .cl 35 [(true, [1, 0]), (true, [3, 2])] [(false, [none], true)] <| .po (.un .not 0) <| .ite 0 (.po (.k (.bool false)) <| .po (.sc 0) <| .ret [(false, [0])]) <| .po (.k (.int .i64 1)) <| .mk 36 true [(4, 2), (3, 2)] 0 <| .po (.k (.int .i64 1)) <| .sel [0, 1, 2, 3, 9, 10] <| .cl 37 [(true, [3, 2]), (false, [0])] [(false, [none], true)] <| .po (.k (.int .i64 0)) <| .po (.bin .lss false 1 0) <| .ite 0 (.po (.k (.bool false)) <| .po (.sc 0) <| .ret [(false, [0])]) <| .po (.bin .neq false 2 4) <| .ite 0 (.po (.k (.bool false)) <| .po (.sc 0) <| .ret [(false, [0])]) <| .sel [5, 6, 7, 8, 9] <| .cl 34 [] [(true, [some (116, 4), some (145, 12)], true)] <| .cl 35 [(true, [1, 0]), (true, [6, 5])] [(false, [none], true)] <| .po (.un .not 0) <| .ite 0 (.po (.k (.bool false)) <| .po (.sc 0) <| .ret [(false, [0])]) <| .po (.k (.int .i64 1)) <| .sel [0, 5, 6, 7] <| .cl 37 [(true, [3, 2]), (false, [0])] [(false, [none], true)] <| .po (.k (.int .i64 0)) <| .po (.bin .lss false 1 0) <| .ite 0 (.po (.k (.bool false)) <| .po (.sc 0) <| .ret [(false, [0])]) <| .po (.bin .neq false 2 4) <| .ite 0 (.po (.k (.bool false)) <| .po (.sc 0) <| .ret [(false, [0])]) <| .po (.k (.bool true)) <| .po (.sc 0) <| .ret [(false, [0])]
theorem u_laws_FnExactNewStore_g : toUPf Try.prog 7 Try.f7 owL u_laws_FnExactNewStore_h u_laws_FnExactNewStore_d = some ([], u_laws_FnExactNewStore_u) := by kernel_rfl
end Go.Proofs.Ytbddjkbbnflnkaa
