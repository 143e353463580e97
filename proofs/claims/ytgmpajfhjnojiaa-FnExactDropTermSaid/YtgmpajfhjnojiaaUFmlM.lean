/- Made by program (vdgen.py): pure programs of functions, each with the fact that the generator yields it. -/
import Derived.Test.YtgmpajfhjnojiaaVdS
import Derived.Test.YtgmpajfhjnojiaaProg
import Derived.Test.YtgmpajfhjnojiaaGen0
namespace Go.Proofs.Ytgmpajfhjnojiaa
open Go.RowKit
set_option linter.unusedVariables false
set_option maxRecDepth 100000

def u_laws_heldFormula_h : List Hint := []
def u_laws_heldFormula_d : List (Nat × Nat × Bool × List Nat) := []
def u_laws_heldFormula_u : UP := .po (.k (.int .i64 0)) <| .cl 38 [(false, [3]), (false, [1])] [(false, [none], true)] <| .po (.k (.int .i64 0)) <| .po (.bin .lss false 1 0) <| .ite 0 (.po (.k (.int .i64 (-1))) <| .po (.sc 0) <| .ret [(false, [0])]) <| .sel [2, 5] <| .cl 39 [(false, [1]), (false, [0])] [(false, [none], true)] <| .po (.k (.int .i64 0)) <| .po (.bin .lss false 1 0) <| .ite 0 (.po (.k (.int .i64 (-1))) <| .po (.sc 0) <| .ret [(false, [0])]) <| .po (.sc 2) <| .ret [(false, [2])]
theorem u_laws_heldFormula_g : toUPf Try.prog 12 Try.f12 owA u_laws_heldFormula_h u_laws_heldFormula_d = some ([(true, 4), (false, 1)], u_laws_heldFormula_u) := by kernel_rfl
end Go.Proofs.Ytgmpajfhjnojiaa
