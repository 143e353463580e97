/- Made by program (vdgen.py): pure programs of functions, each with the fact that the generator yields it. -/
import Derived.Test.YtgmpajfhjnojiaaVdS
import Derived.Test.YtgmpajfhjnojiaaProg
import Derived.Test.YtgmpajfhjnojiaaGen0
namespace Go.Proofs.Ytgmpajfhjnojiaa
open Go.RowKit
set_option linter.unusedVariables false
set_option maxRecDepth 100000

def u_laws_heldIntS_h : List Hint := [⟨3000002, 2, ⟨[(5, .p false [.d 4]), (4, .p false [.d 2]), (0, .p false [.d 0]), (1, .p false [.d 5])], [], 0, 0, 6, []⟩, []⟩]
def u_laws_heldIntS_d : List (Nat × Nat × Bool × List Nat) := []
def u_laws_heldIntS_l0 : UP := .po (.lenL 5) <| .po (.bin .lss false 2 0) <| .ite 0 (.po (.isI 3) <| .po (.idx 1 7 3) <| .po (.bin .neq false 0 3) <| .ite 0 (.po (.k (.int .i64 (-1))) <| .po (.sc 0) <| .ret [(false, [0])]) <| .po (.k (.int .i64 1)) <| .po (.bin .add false 5 0) <| .po (.k (.int .i64 1)) <| .po (.bin .add false 8 0) <| .jump 0 [0, 2]) <| .po (.sc 2) <| .ret [(false, [2])]
def u_laws_heldIntS_u : UP := .po (.k (.int .i64 0)) <| .po (.k (.int .i64 0)) <| .loop [0, 2] u_laws_heldIntS_l0
theorem u_laws_heldIntS_g : toUPf Try.prog 39 Try.f39 owA u_laws_heldIntS_h u_laws_heldIntS_d = some ([(false, 1), (false, 1)], u_laws_heldIntS_u) := by kernel_rfl
def u_laws_heldStringS_h : List Hint := [⟨3000002, 2, ⟨[(5, .p false [.d 4]), (4, .p false [.d 2]), (0, .p false [.d 0]), (1, .p false [.d 5])], [], 0, 0, 6, []⟩, []⟩]
def u_laws_heldStringS_d : List (Nat × Nat × Bool × List Nat) := [(4, 7, false, [])]
def u_laws_heldStringS_l0 : UP := .po (.lenL 5) <| .po (.bin .lss false 2 0) <| .ite 0 (.po (.isI 3) <| .po (.idx 1 7 3) <| .po (.sc 0) <| .sel [0, 3, 4] <| .cl 46 [(false, [1])] [(false, [none], true)] <| .po (.bin .neq false 1 0) <| .po (.sc 0) <| .ite 0 (.po (.k (.int .i64 (-1))) <| .po (.sc 0) <| .ret [(false, [0])]) <| .po (.k (.int .i64 1)) <| .po (.bin .add false 4 0) <| .po (.k (.int .i64 1)) <| .po (.bin .add false 7 0) <| .jump 0 [0, 2]) <| .po (.sc 2) <| .ret [(false, [2])]
def u_laws_heldStringS_u : UP := .po (.k (.int .i64 0)) <| .po (.k (.int .i64 0)) <| .loop [0, 2] u_laws_heldStringS_l0
theorem u_laws_heldStringS_g : toUPf Try.prog 38 Try.f38 owA u_laws_heldStringS_h u_laws_heldStringS_d = some ([(false, 1), (false, 1)], u_laws_heldStringS_u) := by kernel_rfl
end Go.Proofs.Ytgmpajfhjnojiaa
