/- Made by program (vdgen.py): pure programs of functions, each with the fact that the generator yields it. -/
import Derived.Test.YtmanijpmkeheeaaGW
import Derived.Test.YtmanijpmkeheeaaProg
import Derived.Test.YtmanijpmkeheeaaGen0
namespace Go.Proofs.Ytmanijpmkeheeaa
open Go.RowKit
set_option linter.unusedVariables false
set_option maxRecDepth 100000

def u_laws_eqIntS_h : List Hint := [⟨3000004, 1, ⟨[(5, .p false [.d 7]), (10, .p false [.d 5]), (4, .p false [.d 2]), (0, .p false [.d 0]), (1, .p false [.d 1])], [], 0, 0, 8, [(5, false), (2, false)]⟩, []⟩]
def u_laws_eqIntS_d : List (Nat × Nat × Bool × List Nat) := [(6, 9, false, [])]
def u_laws_eqIntS_l0 : UP := .po (.lenL 3) <| .po (.bin .lss false 1 0) <| .ite 0 (.po (.isI 2) <| .po (.idx 1 5 2) <| .po (.sc 0) <| .po (.isI 3) <| .po (.idx 1 5 3) <| .po (.sc 0) <| .po (.bin .neq false 1 0) <| .po (.sc 0) <| .ite 0 (.po (.k (.bool false)) <| .po (.sc 0) <| .ret [(false, [0])]) <| .po (.k (.int .i64 1)) <| .po (.bin .add false 6 0) <| .jump 0 [0]) <| .po (.k (.bool true)) <| .po (.sc 0) <| .ret [(false, [0])]
def u_laws_eqIntS_u : UP := .po (.k (.bool false)) <| .po (.lenL 2) <| .po (.lenL 2) <| .po (.bin .neq false 1 0) <| .ite 0 (.po (.k (.bool false)) <| .po (.sc 0) <| .ret [(false, [0])]) <| .po (.k (.int .i64 0)) <| .sel [0, 5, 6] <| .loop [0] u_laws_eqIntS_l0
theorem u_laws_eqIntS_g : toUPf Try.prog 20 Try.f20 owA u_laws_eqIntS_h u_laws_eqIntS_d = some ([(false, 1), (false, 1)], u_laws_eqIntS_u) := by kernel_rfl
def u_laws_heldIntS_h : List Hint := [⟨3000002, 2, ⟨[(5, .p false [.d 4]), (4, .p false [.d 2]), (0, .p false [.d 0]), (1, .p false [.d 5])], [], 0, 0, 6, []⟩, []⟩]
def u_laws_heldIntS_d : List (Nat × Nat × Bool × List Nat) := []
def u_laws_heldIntS_l0 : UP := .po (.lenL 5) <| .po (.bin .lss false 2 0) <| .ite 0 (.po (.isI 3) <| .po (.idx 1 7 3) <| .po (.bin .neq false 0 3) <| .ite 0 (.po (.k (.int .i64 (-1))) <| .po (.sc 0) <| .ret [(false, [0])]) <| .po (.k (.int .i64 1)) <| .po (.bin .add false 5 0) <| .po (.k (.int .i64 1)) <| .po (.bin .add false 8 0) <| .jump 0 [0, 2]) <| .po (.sc 2) <| .ret [(false, [2])]
def u_laws_heldIntS_u : UP := .po (.k (.int .i64 0)) <| .po (.k (.int .i64 0)) <| .loop [0, 2] u_laws_heldIntS_l0
theorem u_laws_heldIntS_g : toUPf Try.prog 24 Try.f24 owA u_laws_heldIntS_h u_laws_heldIntS_d = some ([(false, 1), (false, 1)], u_laws_heldIntS_u) := by kernel_rfl
end Go.Proofs.Ytmanijpmkeheeaa
