/- Made by program (vdgen.py): pure programs of functions, each with the fact that the generator yields it. -/
import Derived.Test.YtolkglnkdfcceaaVdS
import Derived.Test.YtolkglnkdfcceaaProg
namespace Go.Proofs.Ytolkglnkdfcceaa
open Go.RowKit
set_option linter.unusedVariables false
set_option maxRecDepth 100000

def owA : OwK := ⟨fun g => !([] : List FuncId).contains g, false, [], [], [29, 30, 38, 39, 40, 58, 61], [(28, 73)]⟩
def owL : OwK := ⟨fun g => !([] : List FuncId).contains g, true, [], [], [29, 30, 38, 39, 40, 58, 61], [(28, 73)]⟩
end Go.Proofs.Ytolkglnkdfcceaa
