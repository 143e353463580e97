/- Made by program (vdgen.py): pure programs of functions, each with the fact that the generator yields it. -/
import Derived.Test.YtmanijpmkeheeaaGW
import Derived.Test.YtmanijpmkeheeaaProg
namespace Go.Proofs.Ytmanijpmkeheeaa
open Go.RowKit
set_option linter.unusedVariables false
set_option maxRecDepth 100000

def owA : OwK := ⟨fun g => !([] : List FuncId).contains g, false, []⟩
def owL : OwK := ⟨fun g => !([] : List FuncId).contains g, true, [21, 22, 41]⟩
end Go.Proofs.Ytmanijpmkeheeaa
