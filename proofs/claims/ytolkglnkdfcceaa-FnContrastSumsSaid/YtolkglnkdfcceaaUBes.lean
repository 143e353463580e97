/- Made by program (vdgen.py): pure programs of functions, each with the fact that the generator yields it. -/
import Derived.Test.YtolkglnkdfcceaaVdS
import Derived.Test.YtolkglnkdfcceaaProg
import Derived.Test.YtolkglnkdfcceaaGen0
namespace Go.Proofs.Ytolkglnkdfcceaa
open Go.RowKit
set_option linter.unusedVariables false
set_option maxRecDepth 100000

def u_impl_beside_h : List Hint := [⟨3000003, 2, ⟨[(6, .p false [.d 15]), (5, .p false [.ptr 3 3 0]), (4, .p false [.ptr 2 2 0]), (3, .p false [.ptr 1 1 0]), (2, .p false [.ptr 0 0 0]), (0, .p true [.d 0, .d 1, .d 2]), (1, .p true [.d 3, .d 4, .d 5])], [(0, .var 0 28 [.d 0, .d 1, .d 2]), (1, .var 1 28 [.d 3, .d 4, .d 5]), (2, .var 2 28 [.d 6, .d 7, .nil]), (3, .var 3 28 [.d 0, .d 8, .own 4 4]), (4, .row 4 33 3 16)], 5, 5, 17, []⟩, [⟨false, 3, 2, 33, 3⟩]⟩]
def u_impl_beside_d : List (Nat × Nat × Bool × List Nat) := [(6, 14, true, []), (5, 14, true, [])]
def u_impl_beside_l0 : UP := .po (.bin .lss false 1 9) <| .ite 0 (.po (.bin .mul false 2 9) <| .po (.k (.int .i64 1)) <| .po (.bin .add false 4 0) <| .po (.bin .mul false 0 12) <| .po (.cutL 3 12 (some 3) (some 0)) <| .po (.flat 0) <| .po (.app 33 3 32 6 0) <| .po (.bin .mul false 8 13) <| .po (.k (.int .i64 1)) <| .po (.bin .add false 10 0) <| .po (.bin .mul false 0 16) <| .po (.cutL 3 16 (some 3) (some 0)) <| .po (.flat 0) <| .po (.app 33 3 32 5 0) <| .po (.k (.int .i64 1)) <| .po (.bin .add false 15 0) <| .jump 0 [0, 2]) <| .po (.sc 10) <| .po (.sc 5) <| .ret [(true, [10, 5, 1])]
def u_impl_beside_u : UP := .po (.k (.int .i64 0)) <| .po (.k (.int .i64 0)) <| .po (.bin .add false 6 3) <| .po (.k (.int .i64 0)) <| .po (.k (.int .i64 0)) <| .po (.k (.int .i64 0)) <| .po (.k (.int .i64 0)) <| .po (.k (.int .i64 0)) <| .po (.e 33 3) <| .sel [0, 1, 6, 9, 10, 12, 13, 14] <| .loop [1, 0] u_impl_beside_l0
theorem u_impl_beside_g : toUPf Try.prog 51 Try.f51 owA u_impl_beside_h u_impl_beside_d = some ([(true, 3), (true, 3)], u_impl_beside_u) := by kernel_rfl
end Go.Proofs.Ytolkglnkdfcceaa
