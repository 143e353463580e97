/- Made by program (vdgen.py): pure programs of functions, each with the fact that the generator yields it. -/
import Derived.Test.YtbddjkbbnflnkaaGW
import Derived.Test.YtbddjkbbnflnkaaProg
namespace Go.Proofs.Ytbddjkbbnflnkaa
open Go.RowKit
set_option linter.unusedVariables false
set_option maxRecDepth 100000

def owA : OwK := ⟨fun g => !([] : List FuncId).contains g, false, []⟩
def owL : OwK := ⟨fun g => !([] : List FuncId).contains g, true, [21, 22, 36, 53, 54, 65, 69, 92, 93, 117, 118, 145]⟩
end Go.Proofs.Ytbddjkbbnflnkaa
