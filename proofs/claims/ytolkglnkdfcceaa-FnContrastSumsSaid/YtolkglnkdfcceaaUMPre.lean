/- Made by program (vdgen.py): pure programs of functions, each with the fact that the generator yields it. -/
import Derived.Test.YtolkglnkdfcceaaVdS
import Derived.Test.YtolkglnkdfcceaaProg
import Derived.Test.YtolkglnkdfcceaaGen0
namespace Go.Proofs.Ytolkglnkdfcceaa
open Go.RowKit
set_option linter.unusedVariables false
set_option maxRecDepth 100000

def u_laws_big_h : List Hint := []
def u_laws_big_d : List (Nat × Nat × Bool × List Nat) := []
def u_laws_big_u : UP := .po (.k (.bool false)) <| .po (.lenL 1) <| .po (.k (.int .i64 1048576)) <| .po (.bin .gtr false 1 0) <| .po (.sc 0) <| .ret [(false, [0])]
theorem u_laws_big_g : toUPf Try.prog 7 Try.f7 owA u_laws_big_h u_laws_big_d = some ([(false, 1)], u_laws_big_u) := by kernel_rfl
def u_laws_sameItems_h : List Hint := [⟨3000004, 1, ⟨[(5, .p false [.d 7]), (10, .p false [.d 5]), (4, .p false [.d 2]), (0, .p false [.d 0]), (1, .p false [.d 1])], [], 0, 0, 8, [(5, false), (2, false)]⟩, []⟩]
def u_laws_sameItems_d : List (Nat × Nat × Bool × List Nat) := [(6, 9, false, [])]
def u_laws_sameItems_l0 : UP := .po (.lenL 3) <| .po (.bin .lss false 1 0) <| .ite 0 (.po (.isI 2) <| .po (.idx 3 5 2) <| .po (.sc 2) <| .po (.sc 1) <| .po (.sc 0) <| .po (.isI 5) <| .po (.idx 3 7 5) <| .po (.sc 2) <| .po (.sc 1) <| .po (.sc 0) <| .po (.eqS true [.i, .i, .s] [5, 4, 3] [2, 1, 0]) <| .po (.sc 0) <| .ite 0 (.po (.k (.bool false)) <| .po (.sc 0) <| .ret [(false, [0])]) <| .po (.k (.int .i64 1)) <| .po (.bin .add false 10 0) <| .jump 0 [0]) <| .po (.k (.bool true)) <| .po (.sc 0) <| .ret [(false, [0])]
def u_laws_sameItems_u : UP := .po (.k (.bool false)) <| .po (.lenL 2) <| .po (.lenL 2) <| .po (.bin .neq false 1 0) <| .ite 0 (.po (.k (.bool false)) <| .po (.sc 0) <| .ret [(false, [0])]) <| .po (.k (.int .i64 0)) <| .sel [0, 5, 6] <| .loop [0] u_laws_sameItems_l0
theorem u_laws_sameItems_g : toUPf Try.prog 36 Try.f36 owA u_laws_sameItems_h u_laws_sameItems_d = some ([(false, 1), (false, 1)], u_laws_sameItems_u) := by kernel_rfl
def u_laws_sameMatrices_h : List Hint := []
def u_laws_sameMatrices_d : List (Nat × Nat × Bool × List Nat) := []
def u_laws_sameMatrices_u : UP := .po (.k (.bool false)) <| .po (.bin .eql false 6 3) <| .ite 0 (.po (.bin .eql false 6 3) <| .ite 0 (.sel [3, 6] <| .cl 36 [(false, [1]), (false, [0])] [(false, [none], true)] <| .po (.sc 0) <| .ret [(false, [0])]) <| .po (.k (.bool false)) <| .po (.sc 0) <| .ret [(false, [0])]) <| .po (.k (.bool false)) <| .po (.k (.bool false)) <| .po (.sc 0) <| .ret [(false, [0])]
theorem u_laws_sameMatrices_g : toUPf Try.prog 11 Try.f11 owA u_laws_sameMatrices_h u_laws_sameMatrices_d = some ([(true, 3), (true, 3)], u_laws_sameMatrices_u) := by kernel_rfl
end Go.Proofs.Ytolkglnkdfcceaa
