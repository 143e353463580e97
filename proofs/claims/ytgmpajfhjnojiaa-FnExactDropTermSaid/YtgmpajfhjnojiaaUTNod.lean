/- Made by program (vdgen.py): pure programs of functions, each with the fact that the generator yields it. -/
import Derived.Test.YtgmpajfhjnojiaaVdS
import Derived.Test.YtgmpajfhjnojiaaProg
import Derived.Test.YtgmpajfhjnojiaaGen0
namespace Go.Proofs.Ytgmpajfhjnojiaa
open Go.RowKit
set_option linter.unusedVariables false
set_option maxRecDepth 100000

def u_laws_eqNode_h : List Hint := []
def u_laws_eqNode_d : List (Nat × Nat × Bool × List Nat) := []
def u_laws_eqNode_u : UP := .po (.k (.bool false)) <| .po (.bin .neq false 10 5) <| .ite 0 (.po (.k (.bool false)) <| .po (.sc 0) <| .ret [(false, [0])]) <| .po (.bin .neq false 10 5) <| .ite 0 (.po (.k (.bool false)) <| .po (.sc 0) <| .ret [(false, [0])]) <| .po (.bin .neq false 10 5) <| .ite 0 (.po (.k (.bool false)) <| .po (.sc 0) <| .ret [(false, [0])]) <| .sel [4, 5, 9, 10] <| .cl 34 [(false, [3]), (false, [1])] [(false, [none], true)] <| .po (.un .not 0) <| .ite 0 (.po (.k (.bool false)) <| .po (.sc 0) <| .ret [(false, [0])]) <| .po (.bin .neq false 4 2) <| .ite 0 (.po (.k (.bool false)) <| .po (.sc 0) <| .ret [(false, [0])]) <| .po (.k (.bool true)) <| .po (.sc 0) <| .ret [(false, [0])]
theorem u_laws_eqNode_g : toUPf Try.prog 60 Try.f60 owA u_laws_eqNode_h u_laws_eqNode_d = some ([(true, 5), (true, 5)], u_laws_eqNode_u) := by kernel_rfl
def u_laws_eqNodeS_h : List Hint := [⟨3000004, 1, ⟨[(5, .p false [.d 7]), (10, .p false [.d 5]), (4, .p false [.d 2]), (0, .p false [.d 0]), (1, .p false [.d 1])], [], 0, 0, 8, [(5, false), (2, false)]⟩, []⟩]
def u_laws_eqNodeS_d : List (Nat × Nat × Bool × List Nat) := [(6, 10, false, [])]
def u_laws_eqNodeS_l0 : UP := .po (.lenL 3) <| .po (.bin .lss false 1 0) <| .ite 0 (.po (.isI 2) <| .po (.idx 5 5 2) <| .po (.isI 7) <| .po (.idx 5 9 7) <| .sel [0, 1, 2, 3, 4, 5, 6, 7, 8, 9, 12] <| .cl 60 [(true, [9, 8, 7, 6, 5]), (true, [4, 3, 2, 1, 0])] [(false, [none], true)] <| .po (.un .not 0) <| .po (.sc 0) <| .ite 0 (.po (.k (.bool false)) <| .po (.sc 0) <| .ret [(false, [0])]) <| .po (.k (.int .i64 1)) <| .po (.bin .add false 13 0) <| .jump 0 [0]) <| .po (.k (.bool true)) <| .po (.sc 0) <| .ret [(false, [0])]
def u_laws_eqNodeS_u : UP := .po (.k (.bool false)) <| .po (.lenL 2) <| .po (.lenL 2) <| .po (.bin .neq false 1 0) <| .ite 0 (.po (.k (.bool false)) <| .po (.sc 0) <| .ret [(false, [0])]) <| .po (.k (.int .i64 0)) <| .sel [0, 5, 6] <| .loop [0] u_laws_eqNodeS_l0
theorem u_laws_eqNodeS_g : toUPf Try.prog 22 Try.f22 owA u_laws_eqNodeS_h u_laws_eqNodeS_d = some ([(false, 1), (false, 1)], u_laws_eqNodeS_u) := by kernel_rfl
def u_laws_szNode_h : List Hint := []
def u_laws_szNode_d : List (Nat × Nat × Bool × List Nat) := []
def u_laws_szNode_u : UP := .po (.k (.int .i64 0)) <| .po (.lenS 4) <| .po (.bin .sub false 2 0) <| .po (.k (.int .i64 0)) <| .po (.bin .lss false 1 0) <| .ite 0 (.po (.k (.int .i64 (-1))) <| .po (.sc 0) <| .ret [(false, [0])]) <| .sel [2, 7] <| .cl 24 [(false, [1]), (false, [0])] [(false, [none], true)] <| .po (.k (.int .i64 0)) <| .po (.bin .lss false 1 0) <| .ite 0 (.po (.k (.int .i64 (-1))) <| .po (.sc 0) <| .ret [(false, [0])]) <| .po (.sc 2) <| .ret [(false, [2])]
theorem u_laws_szNode_g : toUPf Try.prog 47 Try.f47 owA u_laws_szNode_h u_laws_szNode_d = some ([(true, 5), (false, 1)], u_laws_szNode_u) := by kernel_rfl
def u_laws_szNodeS_h : List Hint := [⟨3000005, 2, ⟨[(5, .p false [.d 8]), (11, .p false [.d 6]), (1, .p false [.d 9]), (4, .p false [.d 2]), (0, .p false [.d 0])], [], 0, 0, 10, [(6, false)]⟩, []⟩]
def u_laws_szNodeS_d : List (Nat × Nat × Bool × List Nat) := []
def u_laws_szNodeS_l0 : UP := .po (.lenL 4) <| .po (.bin .lss false 2 0) <| .ite 0 (.po (.isI 3) <| .po (.idx 5 6 3) <| .sel [0, 1, 2, 3, 4, 7, 8] <| .cl 47 [(true, [4, 3, 2, 1, 0]), (false, [5])] [(false, [none], true)] <| .po (.k (.int .i64 0)) <| .po (.bin .lss false 1 0) <| .ite 0 (.po (.k (.int .i64 (-1))) <| .po (.sc 0) <| .ret [(false, [0])]) <| .po (.k (.int .i64 1)) <| .po (.bin .add false 10 0) <| .jump 0 [0, 4]) <| .po (.sc 2) <| .ret [(false, [2])]
def u_laws_szNodeS_u : UP := .po (.k (.int .i64 0)) <| .po (.lenL 2) <| .po (.bin .sub false 2 0) <| .po (.k (.int .i64 0)) <| .po (.bin .lss false 1 0) <| .ite 0 (.po (.k (.int .i64 (-1))) <| .po (.sc 0) <| .ret [(false, [0])]) <| .po (.k (.int .i64 0)) <| .sel [0, 3, 7] <| .loop [0, 1] u_laws_szNodeS_l0
theorem u_laws_szNodeS_g : toUPf Try.prog 18 Try.f18 owA u_laws_szNodeS_h u_laws_szNodeS_d = some ([(false, 1), (false, 1)], u_laws_szNodeS_u) := by kernel_rfl
def u_laws_toNode_h : List Hint := []
def u_laws_toNode_d : List (Nat × Nat × Bool × List Nat) := []
def u_laws_toNode_u : UP := .po (.k (.int .i64 0)) <| .po (.k (.int .i64 0)) <| .po (.k (.string ⟨#[]⟩)) <| .po (.k (.int .i64 0)) <| .po (.k (.int .i64 0)) <| .po (.k (.int .i64 0)) <| .po (.k (.string ⟨#[]⟩)) <| .po (.k (.int .i64 0)) <| .sel [8, 9, 10, 11, 12] <| .cl 30 [(false, [1])] [(false, [some (9, 1)], true)] <| .po (.sc 5) <| .po (.sc 4) <| .po (.sc 3) <| .po (.sc 1) <| .ret [(true, [5, 4, 3, 0, 1])]
theorem u_laws_toNode_g : toUPf Try.prog 52 Try.f52 owA u_laws_toNode_h u_laws_toNode_d = some ([(true, 5)], u_laws_toNode_u) := by kernel_rfl
def u_laws_toNodeS_h : List Hint := [⟨3000003, 2, ⟨[(4, .p false [.d 4]), (3, .p false [.own 0 0]), (2, .p false [.nil]), (0, .p false [.d 0])], [(0, .row 0 73 5 5)], 1, 1, 6, []⟩, []⟩]
def u_laws_toNodeS_d : List (Nat × Nat × Bool × List Nat) := []
def u_laws_toNodeS_l0 : UP := .po (.lenL 5) <| .po (.bin .lss false 2 0) <| .ite 0 (.po (.isI 3) <| .po (.idx 5 7 3) <| .sel [0, 1, 2, 3, 4, 7, 8] <| .cl 52 [(true, [4, 3, 2, 1, 0])] [(true, [none, none, none, some (9, 1), none], true)] <| .po (.isI 11) <| .po (.chk 5 10 11) <| .po (.sc 4) <| .po (.sc 3) <| .po (.sc 2) <| .po (.sc 0) <| .po (.set 5 10 11 0 [4, 3, 2, 1, 0]) <| .po (.k (.int .i64 1)) <| .po (.bin .add false 13 0) <| .jump 0 [0, 2]) <| .ret [(false, [2])]
def u_laws_toNodeS_u : UP := .po (.lenL 0) <| .po (.make 73 5 64 [.sc (.int .i64 0), .sc (.int .i64 0), .sc (.string ⟨#[]⟩), .sl 0 1 [], .sc (.int .i64 0)] 0) <| .po (.k (.int .i64 0)) <| .loop [0, 1] u_laws_toNodeS_l0
theorem u_laws_toNodeS_g : toUPf Try.prog 20 Try.f20 owA u_laws_toNodeS_h u_laws_toNodeS_d = some ([(false, 1)], u_laws_toNodeS_u) := by kernel_rfl
end Go.Proofs.Ytgmpajfhjnojiaa
