/- Made by program (vdgen.py): pure programs of functions, each with the fact that the generator yields it. -/
import Derived.Test.YtgmpajfhjnojiaaVdS
import Derived.Test.YtgmpajfhjnojiaaProg
import Derived.Test.YtgmpajfhjnojiaaGen0
namespace Go.Proofs.Ytgmpajfhjnojiaa
open Go.RowKit
set_option linter.unusedVariables false
set_option maxRecDepth 100000

def u_laws_markText_h : List Hint := [⟨3000004, 2, ⟨[(3, .p false [.d 5]), (5, .p false [.d 3]), (2, .p false [.d 1]), (0, .p false [.d 6])], [], 0, 0, 7, [(3, false)]⟩, []⟩]
def u_laws_markText_d : List (Nat × Nat × Bool × List Nat) := []
def u_laws_markText_l0 : UP := .po (.k (.int .i64 0)) <| .po (.bin .gtr false 1 0) <| .ite 0 (.po (.k (.int .i64 10)) <| .po (.bin .rem false 3 0) <| .po (.k (.int .i64 48)) <| .po (.bin .add false 0 1) <| .po (.cvI .u8 0) <| .po (.sc 0) <| .po (.mk 5 1 [[0]]) <| .po (.cvB 0) <| .po (.bin .add false 0 10) <| .po (.k (.int .i64 10)) <| .po (.bin .quo false 11 0) <| .jump 0 [2, 0]) <| .po (.k (.string ⟨#[109]⟩)) <| .po (.bin .add false 0 4) <| .po (.sc 0) <| .ret [(false, [0])]
def u_laws_markText_u : UP := .po (.k (.string ⟨#[]⟩)) <| .po (.k (.int .i64 0)) <| .po (.bin .leq false 2 0) <| .ite 0 (.po (.k (.string ⟨#[109, 48]⟩)) <| .po (.sc 0) <| .ret [(false, [0])]) <| .po (.k (.string ⟨#[]⟩)) <| .loop [0, 4] u_laws_markText_l0
theorem u_laws_markText_g : toUPf Try.prog 46 Try.f46 owA u_laws_markText_h u_laws_markText_d = some ([(false, 1)], u_laws_markText_u) := by kernel_rfl
end Go.Proofs.Ytgmpajfhjnojiaa
