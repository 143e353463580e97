/- Made by program (vdgen.py): pure programs of functions, each with the fact that the generator yields it. -/
import Derived.Test.YtmbjaohohkfjbaaVdS
import Derived.Test.YtmbjaohohkfjbaaProg
namespace Go.Proofs.Ytmbjaohohkfjbaa
open Go.RowKit
set_option linter.unusedVariables false
set_option maxRecDepth 100000

def owA : OwK := ⟨fun g => !([] : List FuncId).contains g, false, [], [], [9, 10, 12, 16], [(8, 41)]⟩
def owL : OwK := ⟨fun g => !([] : List FuncId).contains g, true, [], [], [9, 10, 12, 16], [(8, 41)]⟩
end Go.Proofs.Ytmbjaohohkfjbaa
