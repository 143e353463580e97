/- Made by program (vdgen.py): pure programs of functions, each with the fact that the generator yields it. -/
import Derived.Test.YtmanijpmkeheeaaGW
import Derived.Test.YtmanijpmkeheeaaProg
import Derived.Test.YtmanijpmkeheeaaGen0
namespace Go.Proofs.Ytmanijpmkeheeaa
open Go.RowKit
set_option linter.unusedVariables false
set_option maxRecDepth 100000

def u_laws_FnExactRankOf_h : List Hint := []
def u_laws_FnExactRankOf_d : List (Nat × Nat × Bool × List Nat) := [(10, 5, false, [])]
def u_laws_FnExactRankOf_u : UP := .po (.k (.bool false)) <| .po (.k (.int .i64 1048576)) <| .cl 15 [(true, [4, 3, 2]), (false, [0])] [(false, [none], true)] <| .po (.k (.int .i64 0)) <| .po (.bin .lss false 1 0) <| .ite 0 (.po (.k (.bool true)) <| .po (.sc 0) <| .ret [(false, [0])]) <| .sel [5, 6, 7] <| .cl 17 [(true, [2, 1, 0])] [(true, [none, none, some (41, 3)], true)] <| .cl 25 [(true, [2, 1, 0])] [(false, [none], true), (false, [none], true)] <| .cl 17 [(true, [7, 6, 5])] [(true, [none, none, some (41, 3)], true)] <| .po (.k (.int .i64 0)) <| .po (.k (.int .i64 0)) <| .sel [2, 3, 4, 5, 6, 10, 11, 12] <| .cl 26 [(true, [2, 1, 0])] [(false, [none], true), (false, [none], true)] <| .po (.bin .neq false 1 6) <| .ite 0 (.po (.k (.bool true)) <| .po (.k (.bool false)) <| .po (.sc 0) <| .ret [(false, [0])]) <| .po (.bin .neq true 1 6) <| .ite 0 (.po (.k (.bool false)) <| .po (.sc 0) <| .ret [(false, [0])]) <| .po (.sc 6) <| .po (.sc 5) <| .sel [4, 5, 6, 9, 10, 11] <| .cl 17 [(true, [5, 4, 3])] [(true, [none, none, some (41, 3)], true)] <| .cl 19 [(true, [5, 4, 3]), (true, [2, 1, 0])] [(false, [none], true)] <| .po (.un .not 0) <| .po (.sc 0) <| .ite 0 (.po (.k (.bool false)) <| .po (.sc 0) <| .ret [(false, [0])]) <| .po (.k (.bool true)) <| .po (.sc 0) <| .ret [(false, [0])]
theorem u_laws_FnExactRankOf_g : toUPf Try.prog 4 Try.f4 owL u_laws_FnExactRankOf_h u_laws_FnExactRankOf_d = some ([(true, 3)], u_laws_FnExactRankOf_u) := by kernel_rfl
end Go.Proofs.Ytmanijpmkeheeaa
