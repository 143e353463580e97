/- Made by program (vdgen.py): pure programs of functions, each with the fact that the generator yields it. -/
import Derived.Test.YtenopiadacpbiaaVdR
import Derived.Test.YtenopiadacpbiaaProg
namespace Go.Proofs.Ytenopiadacpbiaa
open Go.RowKit
set_option linter.unusedVariables false
set_option maxRecDepth 100000

def owA : OwK := ⟨fun g => !([25] : List FuncId).contains g, false, []⟩
def owL : OwK := ⟨fun g => !([25] : List FuncId).contains g, true, [11, 28]⟩
end Go.Proofs.Ytenopiadacpbiaa
