/- Made by program (vdgen.py): pure programs of functions, each with the fact that the generator yields it. -/
import Derived.Test.YtbikbjgbpeipmaaVdR
import Derived.Test.YtbikbjgbpeipmaaProg
import Derived.Test.YtbikbjgbpeipmaaGen0
namespace Go.Proofs.Ytbikbjgbpeipmaa
open Go.RowKit
set_option linter.unusedVariables false
set_option maxRecDepth 100000

def u_laws_heldStringS_h : List Hint := [⟨3000002, 2, ⟨[(5, .p false [.d 4]), (4, .p false [.d 2]), (0, .p false [.d 0]), (1, .p false [.d 5])], [], 0, 0, 6, []⟩, []⟩]
def u_laws_heldStringS_d : List (Nat × Nat × Bool × List Nat) := [(4, 7, false, [])]
def u_laws_heldStringS_l0 : UP := .po (.lenL 5) <| .po (.bin .lss false 2 0) <| .ite 0 (.po (.isI 3) <| .po (.idx 1 7 3) <| .po (.sc 0) <| .sel [0, 3, 4] <| .cl 27 [(false, [1])] [(false, [none], true)] <| .po (.bin .neq false 1 0) <| .po (.sc 0) <| .ite 0 (.po (.k (.int .i64 (-1))) <| .po (.sc 0) <| .ret [(false, [0])]) <| .po (.k (.int .i64 1)) <| .po (.bin .add false 4 0) <| .po (.k (.int .i64 1)) <| .po (.bin .add false 7 0) <| .jump 0 [0, 2]) <| .po (.sc 2) <| .ret [(false, [2])]
def u_laws_heldStringS_u : UP := .po (.k (.int .i64 0)) <| .po (.k (.int .i64 0)) <| .loop [0, 2] u_laws_heldStringS_l0
theorem u_laws_heldStringS_g : toUPf Try.prog 14 Try.f14 owA u_laws_heldStringS_h u_laws_heldStringS_d = some ([(false, 1), (false, 1)], u_laws_heldStringS_u) := by kernel_rfl
def u_laws_markText_h : List Hint := [⟨3000004, 2, ⟨[(3, .p false [.d 5]), (5, .p false [.d 3]), (2, .p false [.d 1]), (0, .p false [.d 6])], [], 0, 0, 7, [(3, false)]⟩, []⟩]
def u_laws_markText_d : List (Nat × Nat × Bool × List Nat) := []
def u_laws_markText_l0 : UP := .po (.k (.int .i64 0)) <| .po (.bin .gtr false 1 0) <| .ite 0 (.po (.k (.int .i64 10)) <| .po (.bin .rem false 3 0) <| .po (.k (.int .i64 48)) <| .po (.bin .add false 0 1) <| .po (.cvI .u8 0) <| .po (.sc 0) <| .po (.mk 5 1 [[0]]) <| .po (.cvB 0) <| .po (.bin .add false 0 10) <| .po (.k (.int .i64 10)) <| .po (.bin .quo false 11 0) <| .jump 0 [2, 0]) <| .po (.k (.string ⟨#[109]⟩)) <| .po (.bin .add false 0 4) <| .po (.sc 0) <| .ret [(false, [0])]
def u_laws_markText_u : UP := .po (.k (.string ⟨#[]⟩)) <| .po (.k (.int .i64 0)) <| .po (.bin .leq false 2 0) <| .ite 0 (.po (.k (.string ⟨#[109, 48]⟩)) <| .po (.sc 0) <| .ret [(false, [0])]) <| .po (.k (.string ⟨#[]⟩)) <| .loop [0, 4] u_laws_markText_l0
theorem u_laws_markText_g : toUPf Try.prog 27 Try.f27 owA u_laws_markText_h u_laws_markText_d = some ([(false, 1)], u_laws_markText_u) := by kernel_rfl
end Go.Proofs.Ytbikbjgbpeipmaa
