/- Made by program (vdgen.py): pure programs of functions, each with the fact that the generator yields it. -/
import Derived.Test.YtolkglnkdfcceaaVdS
import Derived.Test.YtolkglnkdfcceaaProg
import Derived.Test.YtolkglnkdfcceaaGen0
namespace Go.Proofs.Ytolkglnkdfcceaa
open Go.RowKit
set_option linter.unusedVariables false
set_option maxRecDepth 100000

def u_spec_l1Below_h : List Hint := []
def u_spec_l1Below_d : List (Nat × Nat × Bool × List Nat) := []
def u_spec_l1Below_u : UP := .po (.k (.int .i64 0)) <| .po (.k (.int .i64 0)) <| .po (.bin .leq false 2 0) <| .ite 0 (.po (.k (.int .i64 0)) <| .po (.sc 0) <| .ret [(false, [5]), (false, [0])]) <| .po (.k (.int .i64 256)) <| .po (.bin .leq false 4 0) <| .ite 0 (.sel [5, 6] <| .cl 2000058 [(false, [1])] [(false, [none], true), (false, [some (73, 0)], true)] <| .po (.bin .rem false 1 2) <| .po (.sc 0) <| .ret [(false, [1]), (false, [0])]) <| .sel [5, 6] <| .cl 2000058 [(false, [1])] [(false, [none], true), (false, [some (73, 0)], true)] <| .cl 2000058 [(false, [0])] [(false, [none], true), (false, [some (73, 0)], true)] <| .cl 2000058 [(false, [0])] [(false, [none], true), (false, [some (73, 0)], true)] <| .cl 2000058 [(false, [0])] [(false, [none], true), (false, [some (73, 0)], true)] <| .po (.k (.int .i64 16777216)) <| .po (.bin .mul false 8 0) <| .po (.k (.int .i64 65536)) <| .po (.bin .mul false 8 0) <| .po (.bin .add false 2 0) <| .po (.k (.int .i64 256)) <| .po (.bin .mul false 9 0) <| .po (.bin .add false 2 0) <| .po (.bin .add false 0 9) <| .po (.bin .rem false 0 17) <| .po (.sc 0) <| .ret [(false, [10]), (false, [0])]
theorem u_spec_l1Below_g : toUPcf Try.prog 30 Try.f30 owA u_spec_l1Below_h u_spec_l1Below_d 73 = some ([(false, 1)], u_spec_l1Below_u) := by kernel_rfl
def u_spec_l1Byte_h : List Hint := []
def u_spec_l1Byte_d : List (Nat × Nat × Bool × List Nat) := [(4, 14, false, []), (3, 10, false, []), (2, 13, false, [])]
def u_spec_l1Byte_u : UP := .po (.k (.int .i64 0)) <| .po (.unc 1 3) <| .po (.k (.int .i64 6364136223846793005)) <| .po (.bin .mul false 1 0) <| .po (.k (.int .i64 1442695040888963407)) <| .po (.bin .add false 1 0) <| .po (.cuS 8 2 0) <| .po (.unc 0 3) <| .po (.sc 0) <| .po (.k (.int .u64 33)) <| .po (.bin .shr false 1 0) <| .po (.sc 0) <| .po (.unc 5 3) <| .po (.sc 0) <| .po (.k (.int .u64 45)) <| .po (.bin .shr false 1 0) <| .po (.sc 0) <| .po (.bin .xor false 5 0) <| .po (.sc 0) <| .po (.k (.int .i64 255)) <| .po (.bin .and false 1 0) <| .po (.sc 0) <| .po (.sc 0) <| .po (.unc 13 3) <| .po (.sc 1) <| .po (.unc 16 3) <| .po (.lenL 2) <| .po (.sc 0) <| .po (.bin .lss false 5 0) <| .po (.sc 0) <| .ite 0 (.po (.unc 21 3) <| .po (.unc 24 3) <| .po (.sc 1) <| .po (.isI 1) <| .po (.idx 1 5 1) <| .po (.sc 0) <| .po (.cvI .i64 0) <| .po (.sc 0) <| .po (.bin .add false 16 0) <| .po (.sc 0) <| .po (.k (.int .i64 255)) <| .po (.bin .and false 1 0) <| .po (.sc 0) <| .po (.unc 32 3) <| .po (.k (.int .i64 1)) <| .po (.bin .add false 2 0) <| .po (.cuS 37 1 0) <| .po (.sc 6) <| .ret [(false, [0]), (false, [6])]) <| .po (.sc 8) <| .ret [(false, [21]), (false, [8])]
theorem u_spec_l1Byte_g : toUPcf Try.prog 58 Try.f58 owA u_spec_l1Byte_h u_spec_l1Byte_d 73 = some ([], u_spec_l1Byte_u) := by kernel_rfl
def u_spec_l1New_h : List Hint := [⟨3000003, 2, ⟨[(4, .p false [.d 5]), (3, .p false [.d 6]), (0, .p false [.d 0])], [], 0, 0, 7, []⟩, []⟩]
def u_spec_l1New_d : List (Nat × Nat × Bool × List Nat) := []
def u_spec_l1New_l0 : UP := .po (.lenL 6) <| .po (.bin .lss false 2 0) <| .ite 0 (.po (.k (.int .i64 4000)) <| .po (.bin .lss false 4 0) <| .ite 0 (.po (.k (.int .i64 131)) <| .po (.bin .mul false 5 0) <| .po (.isI 7) <| .po (.idx 1 12 7) <| .po (.cvI .i64 0) <| .po (.bin .add false 2 0) <| .po (.k (.int .i64 7)) <| .po (.bin .add false 1 0) <| .po (.k (.int .i64 1073741823)) <| .po (.bin .and false 1 0) <| .po (.k (.int .i64 1)) <| .po (.bin .add false 15 0) <| .jump 0 [0, 2]) <| .po (.k (.int .i64 0)) <| .po (.k (.int .i64 0)) <| .ret [(false, [12, 1, 6])]) <| .po (.k (.bool false)) <| .po (.k (.int .i64 0)) <| .po (.k (.int .i64 0)) <| .ret [(false, [11, 1, 5])]
def u_spec_l1New_u : UP := .po (.lenL 0) <| .po (.k (.int .i64 10101)) <| .po (.bin .add false 0 1) <| .po (.k (.int .i64 0)) <| .loop [0, 1] u_spec_l1New_l0
theorem u_spec_l1New_g : toUPnf Try.prog 28 Try.f28 owA u_spec_l1New_h u_spec_l1New_d 73 = some ([(false, 1)], u_spec_l1New_u) := by kernel_rfl
def u_spec_l1Once_h : List Hint := []
def u_spec_l1Once_d : List (Nat × Nat × Bool × List Nat) := []
def u_spec_l1Once_u : UP := .po (.k (.bool false)) <| .cl 2000030 [(false, [2]), (false, [1])] [(false, [none], true), (false, [some (73, 0)], true)] <| .po (.k (.int .i64 0)) <| .po (.bin .eql false 2 0) <| .po (.sc 0) <| .ret [(false, [2]), (false, [0])]
theorem u_spec_l1Once_g : toUPcf Try.prog 39 Try.f39 owA u_spec_l1Once_h u_spec_l1Once_d 73 = some ([(false, 1)], u_spec_l1Once_u) := by kernel_rfl
def u_spec_l1PickInt_h : List Hint := []
def u_spec_l1PickInt_d : List (Nat × Nat × Bool × List Nat) := []
def u_spec_l1PickInt_u : UP := .po (.k (.int .i64 0)) <| .po (.lenL 1) <| .cl 2000030 [(false, [3]), (false, [0])] [(false, [none], true), (false, [some (73, 0)], true)] <| .po (.isI 1) <| .po (.idx 1 4 1) <| .po (.sc 0) <| .ret [(false, [1]), (false, [0])]
theorem u_spec_l1PickInt_g : toUPcf Try.prog 29 Try.f29 owA u_spec_l1PickInt_h u_spec_l1PickInt_d 73 = some ([(false, 1)], u_spec_l1PickInt_u) := by kernel_rfl
end Go.Proofs.Ytolkglnkdfcceaa
