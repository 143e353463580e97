/- Made by program (vdgen.py): pure programs of functions, each with the fact that the generator yields it. -/
import Derived.Test.YtgmpajfhjnojiaaVdS
import Derived.Test.YtgmpajfhjnojiaaProg
import Derived.Test.YtgmpajfhjnojiaaGen0
namespace Go.Proofs.Ytgmpajfhjnojiaa
open Go.RowKit
set_option linter.unusedVariables false
set_option maxRecDepth 100000

def u_laws_eqIntS_h : List Hint := [⟨3000004, 1, ⟨[(5, .p false [.d 7]), (10, .p false [.d 5]), (4, .p false [.d 2]), (0, .p false [.d 0]), (1, .p false [.d 1])], [], 0, 0, 8, [(5, false), (2, false)]⟩, []⟩]
def u_laws_eqIntS_d : List (Nat × Nat × Bool × List Nat) := [(6, 9, false, [])]
def u_laws_eqIntS_l0 : UP := .po (.lenL 3) <| .po (.bin .lss false 1 0) <| .ite 0 (.po (.isI 2) <| .po (.idx 1 5 2) <| .po (.sc 0) <| .po (.isI 3) <| .po (.idx 1 5 3) <| .po (.sc 0) <| .po (.bin .neq false 1 0) <| .po (.sc 0) <| .ite 0 (.po (.k (.bool false)) <| .po (.sc 0) <| .ret [(false, [0])]) <| .po (.k (.int .i64 1)) <| .po (.bin .add false 6 0) <| .jump 0 [0]) <| .po (.k (.bool true)) <| .po (.sc 0) <| .ret [(false, [0])]
def u_laws_eqIntS_u : UP := .po (.k (.bool false)) <| .po (.lenL 2) <| .po (.lenL 2) <| .po (.bin .neq false 1 0) <| .ite 0 (.po (.k (.bool false)) <| .po (.sc 0) <| .ret [(false, [0])]) <| .po (.k (.int .i64 0)) <| .sel [0, 5, 6] <| .loop [0] u_laws_eqIntS_l0
theorem u_laws_eqIntS_g : toUPf Try.prog 35 Try.f35 owA u_laws_eqIntS_h u_laws_eqIntS_d = some ([(false, 1), (false, 1)], u_laws_eqIntS_u) := by kernel_rfl
def u_laws_eqStringS_h : List Hint := [⟨3000004, 1, ⟨[(5, .p false [.d 7]), (10, .p false [.d 5]), (4, .p false [.d 2]), (0, .p false [.d 0]), (1, .p false [.d 1])], [], 0, 0, 8, [(5, false), (2, false)]⟩, []⟩]
def u_laws_eqStringS_d : List (Nat × Nat × Bool × List Nat) := [(6, 9, false, [])]
def u_laws_eqStringS_l0 : UP := .po (.lenL 3) <| .po (.bin .lss false 1 0) <| .ite 0 (.po (.isI 2) <| .po (.idx 1 5 2) <| .po (.sc 0) <| .po (.isI 3) <| .po (.idx 1 5 3) <| .po (.sc 0) <| .po (.bin .neq false 1 0) <| .po (.sc 0) <| .ite 0 (.po (.k (.bool false)) <| .po (.sc 0) <| .ret [(false, [0])]) <| .po (.k (.int .i64 1)) <| .po (.bin .add false 6 0) <| .jump 0 [0]) <| .po (.k (.bool true)) <| .po (.sc 0) <| .ret [(false, [0])]
def u_laws_eqStringS_u : UP := .po (.k (.bool false)) <| .po (.lenL 2) <| .po (.lenL 2) <| .po (.bin .neq false 1 0) <| .ite 0 (.po (.k (.bool false)) <| .po (.sc 0) <| .ret [(false, [0])]) <| .po (.k (.int .i64 0)) <| .sel [0, 5, 6] <| .loop [0] u_laws_eqStringS_l0
theorem u_laws_eqStringS_g : toUPf Try.prog 34 Try.f34 owA u_laws_eqStringS_h u_laws_eqStringS_d = some ([(false, 1), (false, 1)], u_laws_eqStringS_u) := by kernel_rfl
def u_laws_szIntS_h : List Hint := []
def u_laws_szIntS_d : List (Nat × Nat × Bool × List Nat) := []
def u_laws_szIntS_u : UP := .po (.k (.int .i64 0)) <| .po (.lenL 2) <| .po (.bin .sub false 2 0) <| .po (.k (.int .i64 0)) <| .po (.bin .lss false 1 0) <| .ite 0 (.po (.k (.int .i64 (-1))) <| .po (.sc 0) <| .ret [(false, [0])]) <| .po (.sc 2) <| .ret [(false, [2])]
theorem u_laws_szIntS_g : toUPf Try.prog 25 Try.f25 owA u_laws_szIntS_h u_laws_szIntS_d = some ([(false, 1), (false, 1)], u_laws_szIntS_u) := by kernel_rfl
def u_laws_szStringS_h : List Hint := [⟨3000005, 2, ⟨[(5, .p false [.d 8]), (11, .p false [.d 6]), (1, .p false [.d 9]), (4, .p false [.d 2]), (0, .p false [.d 0])], [], 0, 0, 10, [(6, false)]⟩, []⟩]
def u_laws_szStringS_d : List (Nat × Nat × Bool × List Nat) := []
def u_laws_szStringS_l0 : UP := .po (.lenL 4) <| .po (.bin .lss false 2 0) <| .ite 0 (.po (.isI 3) <| .po (.idx 1 6 3) <| .po (.lenS 0) <| .po (.bin .sub false 4 0) <| .po (.k (.int .i64 0)) <| .po (.bin .lss false 1 0) <| .ite 0 (.po (.k (.int .i64 (-1))) <| .po (.sc 0) <| .ret [(false, [0])]) <| .po (.k (.int .i64 1)) <| .po (.bin .add false 9 0) <| .jump 0 [0, 4]) <| .po (.sc 2) <| .ret [(false, [2])]
def u_laws_szStringS_u : UP := .po (.k (.int .i64 0)) <| .po (.lenL 2) <| .po (.bin .sub false 2 0) <| .po (.k (.int .i64 0)) <| .po (.bin .lss false 1 0) <| .ite 0 (.po (.k (.int .i64 (-1))) <| .po (.sc 0) <| .ret [(false, [0])]) <| .po (.k (.int .i64 0)) <| .sel [0, 3, 7] <| .loop [0, 1] u_laws_szStringS_l0
theorem u_laws_szStringS_g : toUPf Try.prog 24 Try.f24 owA u_laws_szStringS_h u_laws_szStringS_d = some ([(false, 1), (false, 1)], u_laws_szStringS_u) := by kernel_rfl
def u_laws_toIntS_h : List Hint := [⟨3000003, 2, ⟨[(4, .p false [.d 4]), (3, .p false [.own 0 0]), (2, .p false [.nil]), (0, .p false [.d 0])], [(0, .row 0 3 1 5)], 1, 1, 6, []⟩, []⟩]
def u_laws_toIntS_d : List (Nat × Nat × Bool × List Nat) := []
def u_laws_toIntS_l0 : UP := .po (.lenL 5) <| .po (.bin .lss false 2 0) <| .ite 0 (.po (.isI 3) <| .po (.idx 1 7 3) <| .po (.isI 4) <| .po (.chk 1 3 4) <| .po (.sc 0) <| .po (.set 1 3 4 0 [0]) <| .po (.k (.int .i64 1)) <| .po (.bin .add false 6 0) <| .jump 0 [0, 2]) <| .ret [(false, [2])]
def u_laws_toIntS_u : UP := .po (.lenL 0) <| .po (.make 3 1 8 [.sc (.int .i64 0)] 0) <| .po (.k (.int .i64 0)) <| .loop [0, 1] u_laws_toIntS_l0
theorem u_laws_toIntS_g : toUPf Try.prog 31 Try.f31 owA u_laws_toIntS_h u_laws_toIntS_d = some ([(false, 1)], u_laws_toIntS_u) := by kernel_rfl
def u_laws_toStringS_h : List Hint := [⟨3000003, 2, ⟨[(4, .p false [.d 4]), (3, .p false [.own 0 0]), (2, .p false [.nil]), (0, .p false [.d 0])], [(0, .row 0 9 1 5)], 1, 1, 6, []⟩, []⟩]
def u_laws_toStringS_d : List (Nat × Nat × Bool × List Nat) := []
def u_laws_toStringS_l0 : UP := .po (.lenL 5) <| .po (.bin .lss false 2 0) <| .ite 0 (.po (.isI 3) <| .po (.idx 1 7 3) <| .po (.isI 4) <| .po (.chk 1 3 4) <| .po (.sc 0) <| .po (.set 1 3 4 0 [0]) <| .po (.k (.int .i64 1)) <| .po (.bin .add false 6 0) <| .jump 0 [0, 2]) <| .ret [(false, [2])]
def u_laws_toStringS_u : UP := .po (.lenL 0) <| .po (.make 9 1 16 [.sc (.string ⟨#[]⟩)] 0) <| .po (.k (.int .i64 0)) <| .loop [0, 1] u_laws_toStringS_l0
theorem u_laws_toStringS_g : toUPf Try.prog 30 Try.f30 owA u_laws_toStringS_h u_laws_toStringS_d = some ([(false, 1)], u_laws_toStringS_u) := by kernel_rfl
end Go.Proofs.Ytgmpajfhjnojiaa
