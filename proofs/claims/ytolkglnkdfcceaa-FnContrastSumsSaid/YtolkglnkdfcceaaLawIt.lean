/- laws.szItem, szItemS, toItem, toItemS, eqItem, eqItemS, heldItemS. -/
import Derived.Test.YtolkglnkdfcceaaNumM
import Derived.Test.YtolkglnkdfcceaaTy
namespace Go.Proofs.Ytolkglnkdfcceaa
open Go.RowKit
set_option linter.unusedVariables false
set_option linter.unusedSimpArgs false
set_option maxRecDepth 100000

def encIts (l : List It) : DV := .sl 33 3 (l.map encIt)
/-- what is left, or -1 -/
def szF (left : Int) (wt : Nat) : Int := if (wt : Int) ≤ left then left - wt else -1
theorem szF_le {left : Int} {wt : Nat} (h : (wt : Int) ≤ left) : szF left wt = left - wt := if_pos h
theorem szF_gt {left : Int} {wt : Nat} (h : left < wt) : szF left wt = -1 := if_neg (by omega)

def it0c : List DV := [.sc (.int .i64 0), .sc (.int .i64 0), .sc (.string ByteArray.empty)]
end Go.Proofs.Ytolkglnkdfcceaa
