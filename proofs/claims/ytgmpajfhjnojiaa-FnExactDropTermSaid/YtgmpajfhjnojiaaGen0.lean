/- Made by program (vdgen.py): pure programs of functions, each with the fact that the generator yields it. -/
import Derived.Test.YtgmpajfhjnojiaaVdS
import Derived.Test.YtgmpajfhjnojiaaProg
namespace Go.Proofs.Ytgmpajfhjnojiaa
open Go.RowKit
set_option linter.unusedVariables false
set_option maxRecDepth 100000

def owA : OwK := ⟨fun g => !([55] : List FuncId).contains g, false, [], [56, 85], [], []⟩
def owL : OwK := ⟨fun g => !([55] : List FuncId).contains g, true, [11, 16, 23, 36, 37], [56, 85], [], []⟩
end Go.Proofs.Ytgmpajfhjnojiaa
