/- Made by program (vdgen.py): pure programs of functions, each with the fact that the generator yields it. -/
import Derived.Test.YtolkglnkdfcceaaVdS
import Derived.Test.YtolkglnkdfcceaaProg
import Derived.Test.YtolkglnkdfcceaaGen0
namespace Go.Proofs.Ytolkglnkdfcceaa
open Go.RowKit
set_option linter.unusedVariables false
set_option maxRecDepth 100000

def u_impl_copyItems_h : List Hint := []
def u_impl_copyItems_d : List (Nat × Nat × Bool × List Nat) := []
def u_impl_copyItems_u : UP := .po (.mk 33 3 []) <| .po (.flat 1) <| .po (.app 33 3 32 0 1) <| .ret [(false, [0])]
theorem u_impl_copyItems_g : toUPf Try.prog 66 Try.f66 owA u_impl_copyItems_h u_impl_copyItems_d = some ([(false, 1)], u_impl_copyItems_u) := by kernel_rfl
end Go.Proofs.Ytolkglnkdfcceaa
