/- Made by program (vdgen.py): pure programs of functions, each with the fact that the generator yields it. -/
import Derived.Test.YtolkglnkdfcceaaVdS
import Derived.Test.YtolkglnkdfcceaaProg
import Derived.Test.YtolkglnkdfcceaaGen0
namespace Go.Proofs.Ytolkglnkdfcceaa
open Go.RowKit
set_option linter.unusedVariables false
set_option maxRecDepth 100000

def u_spec_DrawContrastMatrix_h : List Hint := []
def u_spec_DrawContrastMatrix_d : List (Nat × Nat × Bool × List Nat) := []
def u_spec_DrawContrastMatrix_u : UP := .po (.k (.int .i64 0)) <| .po (.k (.int .i64 0)) <| .cl 3000028 [(false, [2])] [(false, [some (73, 0)], true)] <| .po (.k (.int .i64 0)) <| .po (.k (.int .i64 1)) <| .po (.k (.int .i64 2)) <| .po (.k (.int .i64 3)) <| .po (.k (.int .i64 4)) <| .po (.k (.int .i64 12)) <| .po (.k (.int .i64 13)) <| .po (.k (.int .i64 (-1))) <| .po (.sc 7) <| .po (.sc 6) <| .po (.sc 5) <| .po (.sc 4) <| .po (.sc 3) <| .po (.sc 2) <| .po (.sc 1) <| .po (.sc 0) <| .po (.mk 3 1 [[7], [6], [5], [4], [3], [2], [1], [0]]) <| .sel [0, 9] <| .cl 2000029 [(false, [1]), (false, [0])] [(false, [none], true), (false, [some (73, 0)], true)] <| .po (.k (.int .i64 5)) <| .cl 2000030 [(false, [1]), (false, [0])] [(false, [none], true), (false, [some (73, 0)], true)] <| .po (.k (.int .i64 1)) <| .po (.bin .sub false 2 0) <| .po (.sc 6) <| .po (.sc 0) <| .ret [(false, [6]), (false, [0])]
theorem u_spec_DrawContrastMatrix_g : toUPf Try.prog 8 Try.f8 owA u_spec_DrawContrastMatrix_h u_spec_DrawContrastMatrix_d = some ([(false, 1)], u_spec_DrawContrastMatrix_u) := by kernel_rfl
end Go.Proofs.Ytolkglnkdfcceaa
