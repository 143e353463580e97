/- Made by program (vdgen.py): pure programs of functions, each with the fact that the generator yields it. -/
import Derived.Test.YtbddjkbbnflnkaaGW
import Derived.Test.YtbddjkbbnflnkaaProg
import Derived.Test.YtbddjkbbnflnkaaGen0
namespace Go.Proofs.Ytbddjkbbnflnkaa
open Go.RowKit
set_option linter.unusedVariables false
set_option maxRecDepth 100000

def u_laws_eqToken_h : List Hint := []
def u_laws_eqToken_d : List (Nat × Nat × Bool × List Nat) := []
def u_laws_eqToken_u : UP := .po (.k (.bool false)) <| .po (.bin .neq false 4 2) <| .ite 0 (.po (.k (.bool false)) <| .po (.sc 0) <| .ret [(false, [0])]) <| .po (.bin .neq false 4 2) <| .ite 0 (.po (.k (.bool false)) <| .po (.sc 0) <| .ret [(false, [0])]) <| .po (.k (.bool true)) <| .po (.sc 0) <| .ret [(false, [0])]
theorem u_laws_eqToken_g : toUPf Try.prog 105 Try.f105 owA u_laws_eqToken_h u_laws_eqToken_d = some ([(true, 2), (true, 2)], u_laws_eqToken_u) := by kernel_rfl
def u_laws_eqTokenS_h : List Hint := [⟨3000004, 1, ⟨[(5, .p false [.d 7]), (10, .p false [.d 5]), (4, .p false [.d 2]), (0, .p false [.d 0]), (1, .p false [.d 1])], [], 0, 0, 8, [(5, false), (2, false)]⟩, []⟩]
def u_laws_eqTokenS_d : List (Nat × Nat × Bool × List Nat) := [(6, 10, false, [])]
def u_laws_eqTokenS_l0 : UP := .po (.lenL 3) <| .po (.bin .lss false 1 0) <| .ite 0 (.po (.isI 2) <| .po (.idx 2 5 2) <| .po (.sc 1) <| .po (.sc 0) <| .po (.isI 4) <| .po (.idx 2 6 4) <| .po (.sc 1) <| .po (.sc 0) <| .sel [0, 1, 2, 3, 6] <| .cl 105 [(true, [3, 2]), (true, [1, 0])] [(false, [none], true)] <| .po (.un .not 0) <| .po (.sc 0) <| .ite 0 (.po (.k (.bool false)) <| .po (.sc 0) <| .ret [(false, [0])]) <| .po (.k (.int .i64 1)) <| .po (.bin .add false 7 0) <| .jump 0 [0]) <| .po (.k (.bool true)) <| .po (.sc 0) <| .ret [(false, [0])]
def u_laws_eqTokenS_u : UP := .po (.k (.bool false)) <| .po (.lenL 2) <| .po (.lenL 2) <| .po (.bin .neq false 1 0) <| .ite 0 (.po (.k (.bool false)) <| .po (.sc 0) <| .ret [(false, [0])]) <| .po (.k (.int .i64 0)) <| .sel [0, 5, 6] <| .loop [0] u_laws_eqTokenS_l0
theorem u_laws_eqTokenS_g : toUPf Try.prog 46 Try.f46 owA u_laws_eqTokenS_h u_laws_eqTokenS_d = some ([(false, 1), (false, 1)], u_laws_eqTokenS_u) := by kernel_rfl
def u_laws_szToken_h : List Hint := []
def u_laws_szToken_d : List (Nat × Nat × Bool × List Nat) := []
def u_laws_szToken_u : UP := .po (.k (.int .i64 0)) <| .po (.lenS 2) <| .po (.bin .sub false 2 0) <| .po (.k (.int .i64 0)) <| .po (.bin .lss false 1 0) <| .ite 0 (.po (.k (.int .i64 (-1))) <| .po (.sc 0) <| .ret [(false, [0])]) <| .po (.sc 2) <| .ret [(false, [2])]
theorem u_laws_szToken_g : toUPf Try.prog 38 Try.f38 owA u_laws_szToken_h u_laws_szToken_d = some ([(true, 2), (false, 1)], u_laws_szToken_u) := by kernel_rfl
def u_laws_szTokenS_h : List Hint := [⟨3000005, 2, ⟨[(5, .p false [.d 8]), (11, .p false [.d 6]), (1, .p false [.d 9]), (4, .p false [.d 2]), (0, .p false [.d 0])], [], 0, 0, 10, [(6, false)]⟩, []⟩]
def u_laws_szTokenS_d : List (Nat × Nat × Bool × List Nat) := []
def u_laws_szTokenS_l0 : UP := .po (.lenL 4) <| .po (.bin .lss false 2 0) <| .ite 0 (.po (.isI 3) <| .po (.idx 2 6 3) <| .sel [0, 1, 4, 5] <| .cl 38 [(true, [1, 0]), (false, [2])] [(false, [none], true)] <| .po (.k (.int .i64 0)) <| .po (.bin .lss false 1 0) <| .ite 0 (.po (.k (.int .i64 (-1))) <| .po (.sc 0) <| .ret [(false, [0])]) <| .po (.k (.int .i64 1)) <| .po (.bin .add false 7 0) <| .jump 0 [0, 4]) <| .po (.sc 2) <| .ret [(false, [2])]
def u_laws_szTokenS_u : UP := .po (.k (.int .i64 0)) <| .po (.lenL 2) <| .po (.bin .sub false 2 0) <| .po (.k (.int .i64 0)) <| .po (.bin .lss false 1 0) <| .ite 0 (.po (.k (.int .i64 (-1))) <| .po (.sc 0) <| .ret [(false, [0])]) <| .po (.k (.int .i64 0)) <| .sel [0, 3, 7] <| .loop [0, 1] u_laws_szTokenS_l0
theorem u_laws_szTokenS_g : toUPf Try.prog 42 Try.f42 owA u_laws_szTokenS_h u_laws_szTokenS_d = some ([(false, 1), (false, 1)], u_laws_szTokenS_u) := by kernel_rfl
def u_laws_toToken_h : List Hint := []
def u_laws_toToken_d : List (Nat × Nat × Bool × List Nat) := []
def u_laws_toToken_u : UP := .po (.k (.int .i64 0)) <| .po (.k (.string ⟨#[]⟩)) <| .po (.k (.int .i64 0)) <| .po (.k (.string ⟨#[]⟩)) <| .po (.sc 5) <| .po (.sc 4) <| .ret [(true, [5, 4])]
theorem u_laws_toToken_g : toUPf Try.prog 40 Try.f40 owA u_laws_toToken_h u_laws_toToken_d = some ([(true, 2)], u_laws_toToken_u) := by kernel_rfl
def u_laws_toTokenS_h : List Hint := [⟨3000003, 2, ⟨[(4, .p false [.d 4]), (3, .p false [.own 0 0]), (2, .p false [.nil]), (0, .p false [.d 0])], [(0, .row 0 52 2 5)], 1, 1, 6, []⟩, []⟩]
def u_laws_toTokenS_d : List (Nat × Nat × Bool × List Nat) := []
def u_laws_toTokenS_l0 : UP := .po (.lenL 5) <| .po (.bin .lss false 2 0) <| .ite 0 (.po (.isI 3) <| .po (.idx 2 7 3) <| .sel [0, 1, 4, 5] <| .cl 40 [(true, [1, 0])] [(true, [none, none], true)] <| .po (.isI 5) <| .po (.chk 2 4 5) <| .po (.sc 1) <| .po (.sc 0) <| .po (.set 2 4 5 0 [1, 0]) <| .po (.k (.int .i64 1)) <| .po (.bin .add false 7 0) <| .jump 0 [0, 2]) <| .ret [(false, [2])]
def u_laws_toTokenS_u : UP := .po (.lenL 0) <| .po (.make 52 2 24 [.sc (.int .i64 0), .sc (.string ⟨#[]⟩)] 0) <| .po (.k (.int .i64 0)) <| .loop [0, 1] u_laws_toTokenS_l0
theorem u_laws_toTokenS_g : toUPf Try.prog 44 Try.f44 owA u_laws_toTokenS_h u_laws_toTokenS_d = some ([(false, 1)], u_laws_toTokenS_u) := by kernel_rfl
end Go.Proofs.Ytbddjkbbnflnkaa
