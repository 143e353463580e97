/- Made by program (vdgen.py): pure programs of functions, each with the fact that the generator yields it. -/
import Derived.Test.YtbikbjgbpeipmaaVdR
import Derived.Test.YtbikbjgbpeipmaaProg
import Derived.Test.YtbikbjgbpeipmaaGen0
namespace Go.Proofs.Ytbikbjgbpeipmaa
open Go.RowKit
set_option linter.unusedVariables false
set_option maxRecDepth 100000

def u_laws_heldNodeS_h : List Hint := [⟨3000002, 2, ⟨[(5, .p false [.d 4]), (4, .p false [.d 2]), (0, .p false [.d 0]), (1, .p false [.d 5])], [], 0, 0, 6, []⟩, []⟩]
def u_laws_heldNodeS_d : List (Nat × Nat × Bool × List Nat) := [(10, 8, false, [])]
def u_laws_heldNodeS_l0 : UP := .po (.lenL 5) <| .po (.bin .lss false 2 0) <| .ite 0 (.po (.isI 3) <| .po (.idx 5 7 3) <| .po (.bin .neq false 4 7) <| .ite 0 (.po (.k (.int .i64 (-1))) <| .po (.sc 0) <| .ret [(false, [0])]) <| .po (.k (.int .i64 1)) <| .po (.bin .add false 9 0) <| .po (.isI 11) <| .po (.idx 5 15 11) <| .po (.bin .neq false 3 5) <| .ite 0 (.po (.k (.int .i64 (-1))) <| .po (.sc 0) <| .ret [(false, [0])]) <| .po (.k (.int .i64 1)) <| .po (.bin .add false 7 0) <| .po (.isI 19) <| .po (.idx 5 23 19) <| .po (.sc 2) <| .sel [2, 5, 24, 28] <| .cl 27 [(false, [1])] [(false, [none], true)] <| .po (.bin .neq false 1 0) <| .po (.sc 0) <| .ite 0 (.po (.k (.int .i64 (-1))) <| .po (.sc 0) <| .ret [(false, [0])]) <| .po (.k (.int .i64 1)) <| .po (.bin .add false 4 0) <| .po (.isI 6) <| .po (.idx 5 7 6) <| .sel [1, 5, 11, 12] <| .cl 14 [(false, [0]), (false, [1])] [(false, [none], true)] <| .po (.k (.int .i64 0)) <| .po (.bin .lss false 1 0) <| .ite 0 (.po (.k (.int .i64 (-1))) <| .po (.sc 0) <| .ret [(false, [0])]) <| .po (.isI 5) <| .po (.idx 5 6 5) <| .po (.bin .neq false 0 7) <| .ite 0 (.po (.k (.int .i64 (-1))) <| .po (.sc 0) <| .ret [(false, [0])]) <| .po (.k (.int .i64 1)) <| .po (.bin .add false 9 0) <| .po (.k (.int .i64 1)) <| .po (.bin .add false 14 0) <| .jump 0 [0, 2]) <| .po (.sc 2) <| .ret [(false, [2])]
def u_laws_heldNodeS_u : UP := .po (.k (.int .i64 0)) <| .po (.k (.int .i64 0)) <| .loop [0, 2] u_laws_heldNodeS_l0
theorem u_laws_heldNodeS_g : toUPf Try.prog 19 Try.f19 owA u_laws_heldNodeS_h u_laws_heldNodeS_d = some ([(false, 1), (false, 1)], u_laws_heldNodeS_u) := by kernel_rfl
end Go.Proofs.Ytbikbjgbpeipmaa
