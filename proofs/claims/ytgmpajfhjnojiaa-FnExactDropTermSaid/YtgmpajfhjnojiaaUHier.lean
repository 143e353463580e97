/- Made by program (vdgen.py): pure programs of functions, each with the fact that the generator yields it. -/
import Derived.Test.YtgmpajfhjnojiaaVdS
import Derived.Test.YtgmpajfhjnojiaaProg
import Derived.Test.YtgmpajfhjnojiaaGen0
namespace Go.Proofs.Ytgmpajfhjnojiaa
open Go.RowKit
set_option linter.unusedVariables false
set_option maxRecDepth 100000

def u_spec_l21Without_h : List Hint := [⟨2000001, 2, ⟨[(5, .p false [.own 0 0]), (19, .p false [.d 8]), (11, .p false [.d 7]), (6, .p false [.d 4]), (4, .p false [.nil]), (0, .p false [.d 0]), (1, .p false [.d 1])], [(0, .row 0 3 1 9)], 1, 1, 10, [(7, true)]⟩, []⟩, ⟨3000003, 2, ⟨[(6, .p false [.d 4]), (5, .p false [.own 0 0]), (4, .p false [.nil]), (0, .p false [.d 0]), (1, .p false [.d 1])], [(0, .row 0 3 1 5)], 1, 1, 6, []⟩, []⟩]
def u_spec_l21Without_d : List (Nat × Nat × Bool × List Nat) := []
def u_spec_l21Without_j0 : UP := .po (.k (.int .i64 1)) <| .po (.bin .add false 4 0) <| .jump 0 [0, 2]
def u_spec_l21Without_l1 : UP := .po (.lenL 5) <| .po (.bin .lss false 2 0) <| .ite 0 (.sel [2, 3, 6, 7] <| .join 2 u_spec_l21Without_j0 <| .po (.isI 1) <| .po (.idx 1 3 1) <| .po (.bin .neq false 0 3) <| .ite 0 (.po (.isI 3) <| .po (.idx 1 5 3) <| .po (.sc 0) <| .po (.mk 3 1 [[0]]) <| .po (.flat 0) <| .po (.app 3 1 8 4 0) <| .jump 1 [3, 0]) <| .jump 1 [0, 2]) <| .ret [(false, [2])]
def u_spec_l21Without_u : UP := .po (.mk 3 1 []) <| .po (.k (.int .i64 0)) <| .loop [0, 1] u_spec_l21Without_l1
theorem u_spec_l21Without_g : toUPf Try.prog 29 Try.f29 owA u_spec_l21Without_h u_spec_l21Without_d = some ([(false, 1), (false, 1)], u_spec_l21Without_u) := by kernel_rfl
end Go.Proofs.Ytgmpajfhjnojiaa
