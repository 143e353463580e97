/- Made by program (vdgen.py): pure programs of functions, each with the fact that the generator yields it. -/
import Derived.Test.YtolkglnkdfcceaaVdS
import Derived.Test.YtolkglnkdfcceaaProg
import Derived.Test.YtolkglnkdfcceaaGen0
namespace Go.Proofs.Ytolkglnkdfcceaa
open Go.RowKit
set_option linter.unusedVariables false
set_option maxRecDepth 100000

def u_spec_l1In_h : List Hint := []
def u_spec_l1In_d : List (Nat × Nat × Bool × List Nat) := []
def u_spec_l1In_u : UP := .po (.k (.bool false)) <| .po (.bin .geq false 3 2) <| .ite 0 (.po (.bin .leq false 4 2) <| .po (.sc 0) <| .ret [(false, [0])]) <| .po (.k (.bool false)) <| .po (.sc 0) <| .ret [(false, [0])]
theorem u_spec_l1In_g : toUPf Try.prog 33 Try.f33 owA u_spec_l1In_h u_spec_l1In_d = some ([(false, 1), (false, 1), (false, 1)], u_spec_l1In_u) := by kernel_rfl
end Go.Proofs.Ytolkglnkdfcceaa
