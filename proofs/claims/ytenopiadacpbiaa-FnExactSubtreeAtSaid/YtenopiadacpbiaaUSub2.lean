/- Made by program (vdgen.py): pure programs of functions, each with the fact that the generator yields it. -/
import Derived.Test.YtenopiadacpbiaaVdR
import Derived.Test.YtenopiadacpbiaaProg
import Derived.Test.YtenopiadacpbiaaGen0
namespace Go.Proofs.Ytenopiadacpbiaa
open Go.RowKit
set_option linter.unusedVariables false
set_option maxRecDepth 100000

def u_impl_copyNode_h : List Hint := []
def u_impl_copyNode_d : List (Nat × Nat × Bool × List Nat) := []
def u_impl_copyNode_u : UP := .po (.k (.int .i64 0)) <| .po (.k (.int .i64 0)) <| .po (.k (.string ⟨#[]⟩)) <| .po (.k (.int .i64 0)) <| .sel [4, 5, 6, 7, 8] <| .cl 62 [(false, [1])] [(false, [some (9, 1)], true)] <| .po (.sc 5) <| .po (.sc 4) <| .po (.sc 3) <| .po (.sc 1) <| .ret [(true, [5, 4, 3, 0, 1])]
theorem u_impl_copyNode_g : toUPf Try.prog 37 Try.f37 owA u_impl_copyNode_h u_impl_copyNode_d = some ([(true, 5)], u_impl_copyNode_u) := by kernel_rfl
def u_impl_copyNodes_h : List Hint := [⟨3000003, 2, ⟨[(3, .p false [.own 0 0]), (8, .p false [.d 4]), (7, .p false [.d 1]), (6, .p false [.d 0]), (2, .p false [.nil]), (0, .p false [.d 0])], [(0, .row 0 41 5 5)], 1, 1, 6, []⟩, [⟨true, 3, 0, 41, 5⟩]⟩]
def u_impl_copyNodes_d : List (Nat × Nat × Bool × List Nat) := []
def u_impl_copyNodes_l0 : UP := .po (.bin .lss false 1 4) <| .ite 0 (.po (.isI 2) <| .po (.idx 5 6 2) <| .po (.k (.int .i64 0)) <| .po (.k (.int .i64 0)) <| .po (.k (.string ⟨#[]⟩)) <| .po (.k (.int .i64 0)) <| .sel [4, 5, 6, 7, 8, 10, 11] <| .cl 37 [(true, [4, 3, 2, 1, 0])] [(true, [none, none, none, some (9, 1), none], true)] <| .po (.sc 4) <| .po (.sc 3) <| .po (.sc 2) <| .po (.sc 0) <| .po (.mk 41 5 [[4, 3, 2, 1, 0]]) <| .po (.app 41 5 64 11 0) <| .po (.k (.int .i64 1)) <| .po (.bin .add false 14 0) <| .jump 0 [0, 2]) <| .ret [(false, [1])]
def u_impl_copyNodes_u : UP := .po (.lenL 0) <| .po (.k (.int .i64 0)) <| .po (.e 41 5) <| .loop [1, 0] u_impl_copyNodes_l0
theorem u_impl_copyNodes_g : toUPf Try.prog 24 Try.f24 owA u_impl_copyNodes_h u_impl_copyNodes_d = some ([(false, 1)], u_impl_copyNodes_u) := by kernel_rfl
def u_impl_copyTexts_h : List Hint := []
def u_impl_copyTexts_d : List (Nat × Nat × Bool × List Nat) := []
def u_impl_copyTexts_u : UP := .po (.mk 9 1 []) <| .po (.flat 1) <| .po (.app 9 1 16 0 1) <| .ret [(false, [0])]
theorem u_impl_copyTexts_g : toUPf Try.prog 62 Try.f62 owA u_impl_copyTexts_h u_impl_copyTexts_d = some ([(false, 1)], u_impl_copyTexts_u) := by kernel_rfl
def u_impl_startOf_h : List Hint := [⟨3000004, 2, ⟨[(6, .p false [.d 4]), (5, .p false [.d 5]), (4, .p false [.d 2]), (0, .p false [.d 0]), (1, .p false [.d 1])], [], 0, 0, 6, []⟩, []⟩]
def u_impl_startOf_d : List (Nat × Nat × Bool × List Nat) := []
def u_impl_startOf_l0 : UP := .po (.k (.int .i64 1)) <| .po (.bin .sub false 1 0) <| .po (.isI 3) <| .po (.idx 5 7 3) <| .po (.bin .add false 5 0) <| .po (.k (.int .i64 0)) <| .po (.bin .eql false 1 0) <| .ite 0 (.po (.sc 11) <| .ret [(false, [11])]) <| .po (.k (.int .i64 1)) <| .po (.bin .sub false 12 0) <| .jump 0 [0, 4]
def u_impl_startOf_u : UP := .po (.k (.int .i64 0)) <| .po (.k (.int .i64 1)) <| .loop [2, 0] u_impl_startOf_l0
theorem u_impl_startOf_g : toUPf Try.prog 30 Try.f30 owA u_impl_startOf_h u_impl_startOf_d = some ([(false, 1), (false, 1)], u_impl_startOf_u) := by kernel_rfl
def u_spec_l16Copy_h : List Hint := [⟨3000003, 2, ⟨[(4, .p false [.d 3]), (3, .p false [.own 0 0]), (2, .p false [.nil]), (0, .p false [.d 0])], [(0, .row 0 41 5 4)], 1, 1, 5, []⟩, []⟩]
def u_spec_l16Copy_d : List (Nat × Nat × Bool × List Nat) := []
def u_spec_l16Copy_l0 : UP := .po (.lenL 4) <| .po (.bin .lss false 2 0) <| .ite 0 (.po (.isI 3) <| .po (.idx 5 6 3) <| .po (.k (.int .i64 0)) <| .po (.k (.int .i64 0)) <| .po (.k (.string ⟨#[]⟩)) <| .po (.k (.int .i64 0)) <| .po (.mk 9 1 []) <| .po (.isI 13) <| .po (.idx 5 16 13) <| .po (.flat 1) <| .po (.app 9 1 16 5 1) <| .po (.sc 15) <| .po (.sc 14) <| .po (.sc 13) <| .po (.sc 11) <| .po (.mk 41 5 [[15, 14, 13, 0, 11]]) <| .po (.app 41 5 64 19 0) <| .po (.k (.int .i64 1)) <| .po (.bin .add false 22 0) <| .jump 0 [0, 2]) <| .ret [(false, [2])]
def u_spec_l16Copy_u : UP := .po (.mk 41 5 []) <| .po (.k (.int .i64 0)) <| .loop [0, 1] u_spec_l16Copy_l0
theorem u_spec_l16Copy_g : toUPf Try.prog 20 Try.f20 owA u_spec_l16Copy_h u_spec_l16Copy_d = some ([(false, 1)], u_spec_l16Copy_u) := by kernel_rfl
def u_spec_l16Start_h : List Hint := [⟨3000003, 2, ⟨[(6, .p false [.d 8]), (5, .p false [.d 9]), (4, .p false [.d 2]), (0, .p false [.d 0]), (1, .p false [.d 1])], [], 0, 0, 10, []⟩, []⟩]
def u_spec_l16Start_d : List (Nat × Nat × Bool × List Nat) := []
def u_spec_l16Start_l0 : UP := .po (.k (.int .i64 0)) <| .po (.bin .gtr false 1 0) <| .ite 0 (.po (.k (.int .i64 1)) <| .po (.bin .sub false 4 0) <| .po (.k (.int .i64 1)) <| .po (.bin .sub false 5 0) <| .po (.isI 2) <| .po (.idx 5 10 2) <| .po (.bin .add false 5 0) <| .jump 0 [8, 0]) <| .po (.sc 3) <| .ret [(false, [3])]
def u_spec_l16Start_u : UP := .po (.k (.int .i64 0)) <| .po (.isI 1) <| .po (.idx 5 2 1) <| .sel [0, 6, 7] <| .loop [1, 0] u_spec_l16Start_l0
theorem u_spec_l16Start_g : toUPf Try.prog 21 Try.f21 owA u_spec_l16Start_h u_spec_l16Start_d = some ([(false, 1), (false, 1)], u_spec_l16Start_u) := by kernel_rfl
end Go.Proofs.Ytenopiadacpbiaa
