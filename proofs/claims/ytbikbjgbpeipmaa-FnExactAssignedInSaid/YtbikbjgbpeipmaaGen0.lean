/- Made by program (vdgen.py): pure programs of functions, each with the fact that the generator yields it. -/
import Derived.Test.YtbikbjgbpeipmaaVdR
import Derived.Test.YtbikbjgbpeipmaaProg
namespace Go.Proofs.Ytbikbjgbpeipmaa
open Go.RowKit
set_option linter.unusedVariables false
set_option maxRecDepth 100000

def owA : OwK := ⟨fun g => !([] : List FuncId).contains g, false, [], [22, 25, 28, 29]⟩
def owL : OwK := ⟨fun g => !([] : List FuncId).contains g, true, [12, 13], [22, 25, 28, 29]⟩
end Go.Proofs.Ytbikbjgbpeipmaa
