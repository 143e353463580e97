/- Made by program (vdgen.py): pure programs of functions, each with the fact that the generator yields it. -/
import Derived.Test.YtgmpajfhjnojiaaVdS
import Derived.Test.YtgmpajfhjnojiaaProg
import Derived.Test.YtgmpajfhjnojiaaGen0
namespace Go.Proofs.Ytgmpajfhjnojiaa
open Go.RowKit
set_option linter.unusedVariables false
set_option maxRecDepth 100000

def u_laws_eqFormula_h : List Hint := []
def u_laws_eqFormula_d : List (Nat × Nat × Bool × List Nat) := []
def u_laws_eqFormula_u : UP := .po (.k (.bool false)) <| .po (.bin .neq false 8 4) <| .ite 0 (.po (.k (.bool false)) <| .po (.sc 0) <| .ret [(false, [0])]) <| .po (.bin .neq true 8 4) <| .ite 0 (.po (.k (.bool false)) <| .po (.sc 0) <| .ret [(false, [0])]) <| .sel [3, 4, 7, 8] <| .cl 34 [(false, [3]), (false, [1])] [(false, [none], true)] <| .po (.un .not 0) <| .ite 0 (.po (.k (.bool false)) <| .po (.sc 0) <| .ret [(false, [0])]) <| .sel [2, 4] <| .cl 35 [(false, [1]), (false, [0])] [(false, [none], true)] <| .po (.un .not 0) <| .ite 0 (.po (.k (.bool false)) <| .po (.sc 0) <| .ret [(false, [0])]) <| .po (.k (.bool true)) <| .po (.sc 0) <| .ret [(false, [0])]
theorem u_laws_eqFormula_g : toUPf Try.prog 10 Try.f10 owA u_laws_eqFormula_h u_laws_eqFormula_d = some ([(true, 4), (true, 4)], u_laws_eqFormula_u) := by kernel_rfl
def u_laws_szFormula_h : List Hint := []
def u_laws_szFormula_d : List (Nat × Nat × Bool × List Nat) := []
def u_laws_szFormula_u : UP := .po (.k (.int .i64 0)) <| .po (.lenS 5) <| .po (.bin .sub false 2 0) <| .po (.k (.int .i64 0)) <| .po (.bin .lss false 1 0) <| .ite 0 (.po (.k (.int .i64 (-1))) <| .po (.sc 0) <| .ret [(false, [0])]) <| .sel [2, 6, 7] <| .cl 24 [(false, [2]), (false, [0])] [(false, [none], true)] <| .po (.k (.int .i64 0)) <| .po (.bin .lss false 1 0) <| .ite 0 (.po (.k (.int .i64 (-1))) <| .po (.sc 0) <| .ret [(false, [0])]) <| .sel [2, 4] <| .cl 25 [(false, [1]), (false, [0])] [(false, [none], true)] <| .po (.k (.int .i64 0)) <| .po (.bin .lss false 1 0) <| .ite 0 (.po (.k (.int .i64 (-1))) <| .po (.sc 0) <| .ret [(false, [0])]) <| .po (.sc 2) <| .ret [(false, [2])]
theorem u_laws_szFormula_g : toUPf Try.prog 6 Try.f6 owA u_laws_szFormula_h u_laws_szFormula_d = some ([(true, 4), (false, 1)], u_laws_szFormula_u) := by kernel_rfl
def u_laws_toFormula_h : List Hint := []
def u_laws_toFormula_d : List (Nat × Nat × Bool × List Nat) := []
def u_laws_toFormula_u : UP := .po (.k (.string ⟨#[]⟩)) <| .po (.k (.bool false)) <| .po (.k (.string ⟨#[]⟩)) <| .po (.k (.bool false)) <| .sel [4, 5, 6, 7] <| .cl 30 [(false, [1])] [(false, [some (9, 1)], true)] <| .cl 31 [(false, [1])] [(false, [some (3, 1)], true)] <| .po (.sc 5) <| .po (.sc 4) <| .ret [(true, [5, 4, 1, 0])]
theorem u_laws_toFormula_g : toUPf Try.prog 8 Try.f8 owA u_laws_toFormula_h u_laws_toFormula_d = some ([(true, 4)], u_laws_toFormula_u) := by kernel_rfl
end Go.Proofs.Ytgmpajfhjnojiaa
