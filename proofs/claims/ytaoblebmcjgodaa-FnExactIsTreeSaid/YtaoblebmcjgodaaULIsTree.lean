/- Made by program (vdgen.py): pure programs of functions, each with the fact that the generator yields it. -/
import Derived.Test.YtaoblebmcjgodaaGW
import Derived.Test.YtaoblebmcjgodaaProg
import Derived.Test.YtaoblebmcjgodaaGen0
namespace Go.Proofs.Ytaoblebmcjgodaa
open Go.RowKit
set_option linter.unusedVariables false
set_option maxRecDepth 100000

def u_laws_FnExactIsTree_h : List Hint := []
def u_laws_FnExactIsTree_d : List (Nat × Nat × Bool × List Nat) := []
def u_laws_FnExactIsTree_u : UP := .po (.k (.bool false)) <| .po (.k (.int .i64 1048576)) <| .cl 6 [(false, [2]), (false, [0])] [(false, [none], true)] <| .po (.k (.int .i64 0)) <| .po (.bin .lss false 1 0) <| .ite 0 (.po (.k (.bool true)) <| .po (.sc 0) <| .ret [(false, [0])]) <| .sel [5] <| .cl 8 [(false, [0])] [(false, [some (39, 5)], true)] <| .cl 7 [(false, [0])] [(false, [none], true)] <| .cl 8 [(false, [2])] [(false, [some (39, 5)], true)] <| .cl 9 [(false, [0])] [(false, [none], true)] <| .po (.bin .neq true 0 2) <| .ite 0 (.po (.k (.bool false)) <| .po (.sc 0) <| .ret [(false, [0])]) <| .sel [2, 5] <| .cl 8 [(false, [1])] [(false, [some (39, 5)], true)] <| .cl 10 [(false, [1]), (false, [0])] [(false, [none], true)] <| .po (.un .not 0) <| .ite 0 (.po (.k (.bool false)) <| .po (.sc 0) <| .ret [(false, [0])]) <| .po (.k (.bool true)) <| .po (.sc 0) <| .ret [(false, [0])]
theorem u_laws_FnExactIsTree_g : toUPf Try.prog 3 Try.f3 owL u_laws_FnExactIsTree_h u_laws_FnExactIsTree_d = some ([(false, 1)], u_laws_FnExactIsTree_u) := by kernel_rfl
end Go.Proofs.Ytaoblebmcjgodaa
