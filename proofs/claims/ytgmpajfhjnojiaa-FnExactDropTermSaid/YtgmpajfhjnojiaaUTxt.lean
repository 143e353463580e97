/- Made by program (vdgen.py): pure programs of functions, each with the fact that the generator yields it. -/
import Derived.Test.YtgmpajfhjnojiaaVdS
import Derived.Test.YtgmpajfhjnojiaaProg
import Derived.Test.YtgmpajfhjnojiaaGen0
namespace Go.Proofs.Ytgmpajfhjnojiaa
open Go.RowKit
set_option linter.unusedVariables false
set_option maxRecDepth 100000

def u_impl_IsName_h : List Hint := [⟨3000002, 1, ⟨[(3, .p false [.d 3]), (2, .p false [.d 1]), (0, .p false [.d 0])], [], 0, 0, 4, [(1, false)]⟩, []⟩]
def u_impl_IsName_d : List (Nat × Nat × Bool × List Nat) := []
def u_impl_IsName_l0 : UP := .po (.lenS 3) <| .po (.bin .lss false 1 0) <| .ite 0 (.po (.chr 5 2) <| .po (.k (.int .u8 33)) <| .po (.bin .lss false 1 0) <| .ite 0 (.po (.k (.bool true)) <| .po (.k (.bool true)) <| .po (.k (.bool false)) <| .po (.sc 0) <| .ret [(false, [0])]) <| .po (.chr 8 5) <| .po (.k (.int .u8 126)) <| .po (.bin .gtr false 1 0) <| .ite 0 (.po (.k (.bool true)) <| .po (.k (.bool false)) <| .po (.sc 0) <| .ret [(false, [0])]) <| .po (.chr 11 8) <| .po (.k (.int .u8 96)) <| .po (.bin .eql false 1 0) <| .ite 0 (.po (.k (.bool false)) <| .po (.sc 0) <| .ret [(false, [0])]) <| .po (.k (.int .i64 1)) <| .po (.bin .add false 12 0) <| .jump 0 [0]) <| .po (.lenS 5) <| .po (.k (.int .i64 1)) <| .po (.bin .geq false 1 0) <| .ite 0 (.po (.lenS 8) <| .po (.k (.int .i64 20)) <| .po (.bin .leq false 1 0) <| .po (.sc 0) <| .ret [(false, [0])]) <| .po (.k (.bool false)) <| .po (.sc 0) <| .ret [(false, [0])]
def u_impl_IsName_u : UP := .po (.k (.bool false)) <| .po (.k (.int .i64 0)) <| .loop [0] u_impl_IsName_l0
theorem u_impl_IsName_g : toUPf Try.prog 63 Try.f63 owA u_impl_IsName_h u_impl_IsName_d = some ([(false, 1)], u_impl_IsName_u) := by kernel_rfl
def u_impl_hasText_h : List Hint := []
def u_impl_hasText_d : List (Nat × Nat × Bool × List Nat) := []
def u_impl_hasText_u : UP := .po (.k (.bool false)) <| .cl 108 [(false, [2]), (false, [1])] [(false, [none], true)] <| .po (.k (.int .i64 0)) <| .po (.bin .geq false 1 0) <| .po (.sc 0) <| .ret [(false, [0])]
theorem u_impl_hasText_g : toUPf Try.prog 90 Try.f90 owA u_impl_hasText_h u_impl_hasText_d = some ([(false, 1), (false, 1)], u_impl_hasText_u) := by kernel_rfl
def u_impl_textIndex_h : List Hint := [⟨3000002, 1, ⟨[(9, .p false [.d 5]), (8, .p false [.d 3]), (7, .p false [.d 0]), (4, .p false [.d 2]), (0, .p false [.d 0]), (1, .p false [.d 1])], [], 0, 0, 6, []⟩, []⟩]
def u_impl_textIndex_d : List (Nat × Nat × Bool × List Nat) := []
def u_impl_textIndex_l0 : UP := .po (.bin .lss false 0 2) <| .ite 0 (.po (.isI 1) <| .po (.idx 1 6 1) <| .po (.bin .eql false 0 6) <| .ite 0 (.po (.sc 3) <| .ret [(false, [3])]) <| .po (.k (.int .i64 1)) <| .po (.bin .add false 4 0) <| .jump 0 [0]) <| .po (.k (.int .i64 (-1))) <| .po (.sc 0) <| .ret [(false, [0])]
def u_impl_textIndex_u : UP := .po (.k (.int .i64 0)) <| .po (.lenL 2) <| .po (.k (.int .i64 0)) <| .loop [0] u_impl_textIndex_l0
theorem u_impl_textIndex_g : toUPf Try.prog 108 Try.f108 owA u_impl_textIndex_h u_impl_textIndex_d = some ([(false, 1), (false, 1)], u_impl_textIndex_u) := by kernel_rfl
def u_spec_IsName_h : List Hint := [⟨3000002, 1, ⟨[(3, .p false [.d 3]), (2, .p false [.d 1]), (0, .p false [.d 0])], [], 0, 0, 4, [(1, false)]⟩, []⟩]
def u_spec_IsName_d : List (Nat × Nat × Bool × List Nat) := []
def u_spec_IsName_l0 : UP := .po (.lenS 3) <| .po (.bin .lss false 1 0) <| .ite 0 (.po (.chr 5 2) <| .po (.k (.int .u8 33)) <| .po (.bin .lss false 1 0) <| .ite 0 (.po (.k (.bool true)) <| .po (.k (.bool true)) <| .po (.k (.bool false)) <| .po (.sc 0) <| .ret [(false, [0])]) <| .po (.chr 8 5) <| .po (.k (.int .u8 126)) <| .po (.bin .gtr false 1 0) <| .ite 0 (.po (.k (.bool true)) <| .po (.k (.bool false)) <| .po (.sc 0) <| .ret [(false, [0])]) <| .po (.chr 11 8) <| .po (.k (.int .u8 96)) <| .po (.bin .eql false 1 0) <| .ite 0 (.po (.k (.bool false)) <| .po (.sc 0) <| .ret [(false, [0])]) <| .po (.k (.int .i64 1)) <| .po (.bin .add false 12 0) <| .jump 0 [0]) <| .po (.lenS 5) <| .po (.k (.int .i64 1)) <| .po (.k (.int .i64 20)) <| .sel [0, 1, 2] <| .cl 27 [(false, [2]), (false, [1]), (false, [0])] [(false, [none], true)] <| .po (.sc 0) <| .ret [(false, [0])]
def u_spec_IsName_u : UP := .po (.k (.bool false)) <| .po (.k (.int .i64 0)) <| .loop [0] u_spec_IsName_l0
theorem u_spec_IsName_g : toUPf Try.prog 61 Try.f61 owA u_spec_IsName_h u_spec_IsName_d = some ([(false, 1)], u_spec_IsName_u) := by kernel_rfl
def u_spec_l1Find_h : List Hint := [⟨3000002, 1, ⟨[(5, .p false [.d 4]), (4, .p false [.d 2]), (0, .p false [.d 0]), (1, .p false [.d 1])], [], 0, 0, 5, []⟩, []⟩]
def u_spec_l1Find_d : List (Nat × Nat × Bool × List Nat) := []
def u_spec_l1Find_l0 : UP := .po (.lenL 4) <| .po (.bin .lss false 1 0) <| .ite 0 (.po (.isI 2) <| .po (.idx 1 6 2) <| .po (.bin .eql false 0 6) <| .ite 0 (.po (.sc 4) <| .ret [(false, [4])]) <| .po (.k (.int .i64 1)) <| .po (.bin .add false 5 0) <| .jump 0 [0]) <| .po (.k (.int .i64 (-1))) <| .po (.sc 0) <| .ret [(false, [0])]
def u_spec_l1Find_u : UP := .po (.k (.int .i64 0)) <| .po (.k (.int .i64 0)) <| .loop [0] u_spec_l1Find_l0
theorem u_spec_l1Find_g : toUPf Try.prog 72 Try.f72 owA u_spec_l1Find_h u_spec_l1Find_d = some ([(false, 1), (false, 1)], u_spec_l1Find_u) := by kernel_rfl
def u_spec_l1Has_h : List Hint := []
def u_spec_l1Has_d : List (Nat × Nat × Bool × List Nat) := []
def u_spec_l1Has_u : UP := .po (.k (.bool false)) <| .cl 72 [(false, [2]), (false, [1])] [(false, [none], true)] <| .po (.k (.int .i64 0)) <| .po (.bin .geq false 1 0) <| .po (.sc 0) <| .ret [(false, [0])]
theorem u_spec_l1Has_g : toUPf Try.prog 42 Try.f42 owA u_spec_l1Has_h u_spec_l1Has_d = some ([(false, 1), (false, 1)], u_spec_l1Has_u) := by kernel_rfl
def u_spec_l1In_h : List Hint := []
def u_spec_l1In_d : List (Nat × Nat × Bool × List Nat) := []
def u_spec_l1In_u : UP := .po (.k (.bool false)) <| .po (.bin .geq false 3 2) <| .ite 0 (.po (.bin .leq false 4 2) <| .po (.sc 0) <| .ret [(false, [0])]) <| .po (.k (.bool false)) <| .po (.sc 0) <| .ret [(false, [0])]
theorem u_spec_l1In_g : toUPf Try.prog 27 Try.f27 owA u_spec_l1In_h u_spec_l1In_d = some ([(false, 1), (false, 1), (false, 1)], u_spec_l1In_u) := by kernel_rfl
end Go.Proofs.Ytgmpajfhjnojiaa
