/-
  No cell of these rows narrows 'for every input' (looked for: loops, veiled, ifaces, maps, wideKeys, modest, calm, conditions, laid).
  DERIVED. THE GIVEN ROWS OF THIS SEAT. 3 by the template 'for every input the law returns true; each argument reads behind the call as it read before'; 0 by the template 'total and deterministic' (their statements: YtgmpajfhjnojiaaTotals.lean).
  GIVEN WITH THE SEED: the statements are not yours to turn. If you find one false, say at which input.
  Laid BY PROGRAM, IN A SANDBOX (cutbox-rows.mjs): the forced cells as the released guide's own fill.sh prints them over the translation 4e11760edafc058b… (all of the seat's roots in one cut). By AI agents, Wed Nov 11 2026. No macro, syntax, notation, axiom, sorry.
-/
import Derived.Test.YtgmpajfhjnojiaaChecked
import GoSem.Claim
import GoSem.ClaimJoined
import GoSem.ClaimMapViews
import Derived.JoinedTies
import Derived.KernelRfl
namespace Go.Proofs.Ytgmpajfhjnojiaa
/- THE CELL 'sum', in the pinned program and in every row, IS THE sha256 OF THE DUMP (.gsa) THAT YtgmpajfhjnojiaaProg.lean LOADS. Nothing in Lean hashes anything: it is a label: what it is worth is what the hold of that sum in a sandbox is worth. -/
noncomputable def Try.pinned : Pinned := { name := "ytgmpajfhjnojiaa", sum := "4e11760edafc058b74021c13f145d7f20665f4774b5a016a734675f00cb11326", checked := Try.checked }
namespace Rows
def none {H : Type} : Left H := { results := [], args := [] }

/-- 'laws.FnExactDropTerm': WHATEVER THE INPUT: true; the input reads as it did. -/
def fnExactDropTermSpec : ChangeSpec := { name := "fnExactDropTerm", fn := fun _ => fun
  | [d1, d2] => { results := [.lit (.bool true)], args := [d1, d2] }
  | _ => none }
def fnExactDropTermRow : OpenClaim := { program := "ytgmpajfhjnojiaa", sum := "4e11760edafc058b74021c13f145d7f20665f4774b5a016a734675f00cb11326", func := "loop.example/g03406/laws.FnExactDropTerm", spec := "fnExactDropTerm", apart := false }
def FnExactDropTermSaid : Prop := fnExactDropTermRow.holds Try.pinned (OpenSpec.ofChange fnExactDropTermSpec)

/-- ITS FALSE NEIGHBOUR: 'it returns false'. Refute it at one input. -/
def fnExactDropTermWrong : ChangeSpec := { name := "fnExactDropTerm", fn := fun _ => fun
  | [d1, d2] => { results := [.lit (.bool false)], args := [d1, d2] }
  | _ => none }
def FnExactDropTermWrongFalsely : Prop := fnExactDropTermRow.holds Try.pinned (OpenSpec.ofChange fnExactDropTermWrong)

/-- 'laws.FnExactTokensOf': WHATEVER THE INPUT: true; the input reads as it did. -/
def fnExactTokensOfSpec : ChangeSpec := { name := "fnExactTokensOf", fn := fun _ => fun
  | [d] => { results := [.lit (.bool true)], args := [d] }
  | _ => none }
def fnExactTokensOfRow : OpenClaim := { program := "ytgmpajfhjnojiaa", sum := "4e11760edafc058b74021c13f145d7f20665f4774b5a016a734675f00cb11326", func := "loop.example/g03406/laws.FnExactTokensOf", spec := "fnExactTokensOf", apart := false }
def FnExactTokensOfSaid : Prop := fnExactTokensOfRow.holds Try.pinned (OpenSpec.ofChange fnExactTokensOfSpec)

/-- ITS FALSE NEIGHBOUR: 'it returns false'. Refute it at one input. -/
def fnExactTokensOfWrong : ChangeSpec := { name := "fnExactTokensOf", fn := fun _ => fun
  | [d] => { results := [.lit (.bool false)], args := [d] }
  | _ => none }
def FnExactTokensOfWrongFalsely : Prop := fnExactTokensOfRow.holds Try.pinned (OpenSpec.ofChange fnExactTokensOfWrong)

/-- 'laws.FnExactFormulaOf': WHATEVER THE INPUT: true; the input reads as it did. -/
def fnExactFormulaOfSpec : ChangeSpec := { name := "fnExactFormulaOf", fn := fun _ => fun
  | [d] => { results := [.lit (.bool true)], args := [d] }
  | _ => none }
def fnExactFormulaOfRow : OpenClaim := { program := "ytgmpajfhjnojiaa", sum := "4e11760edafc058b74021c13f145d7f20665f4774b5a016a734675f00cb11326", func := "loop.example/g03406/laws.FnExactFormulaOf", spec := "fnExactFormulaOf", recurses := true, apart := false }
def FnExactFormulaOfSaid : Prop := fnExactFormulaOfRow.holds Try.pinned (OpenSpec.ofChange fnExactFormulaOfSpec)

/-- ITS FALSE NEIGHBOUR: 'it returns false'. Refute it at one input. -/
def fnExactFormulaOfWrong : ChangeSpec := { name := "fnExactFormulaOf", fn := fun _ => fun
  | [d] => { results := [.lit (.bool false)], args := [d] }
  | _ => none }
def FnExactFormulaOfWrongFalsely : Prop := fnExactFormulaOfRow.holds Try.pinned (OpenSpec.ofChange fnExactFormulaOfWrong)

/- THE SECOND FORM. 'bulk': how many values and letters a reading holds, each counted each time it is reached (what is shared counts as often as it is met; a slice's spare places count too). A statement '..UptoSaid' is the law's where the arguments, and the package variables that the reading takes, are together of bulk at most 1048576: NARROWER than '..Said'. Prove '..Said' where nothing that the law and all that it calls make is longer than what came in: it says more and counts as full. Else prove '..UptoSaid'. A law counts once. -/
mutual
def uptoBulk {H : Type} : DataW H → Nat
  | .lit (.string bytes) => bytes.length + 1
  | .lit _ => 1
  | .nil => 1
  | .ptr d => uptoBulk d + 1
  | .slice elems spare => uptoBulkAll elems + uptoBulkAll spare + 1
  | .agg parts => uptoBulkAll parts + 1
  | .iface _ d => uptoBulk d + 1
  | .map entries => uptoBulkEntries entries + 1
  | .held _ => 1
def uptoBulkAll {H : Type} : List (DataW H) → Nat
  | [] => 0
  | d :: r => uptoBulk d + uptoBulkAll r
def uptoBulkEntries {H : Type} : List (Lit × DataW H) → Nat
  | [] => 0
  | x :: r => uptoBulkEntry x + uptoBulkEntries r
def uptoBulkEntry {H : Type} : Lit × DataW H → Nat
  | (.string bytes, d) => bytes.length + uptoBulk d + 1
  | (_, d) => uptoBulk d + 1
 end
def uptoSmall : (H : Type) → List (DataW H) → Bool := fun _ ds => decide (uptoBulkAll ds ≤ 1048576)
def OpenSpec.upto (s : _root_.Go.ChangeSpec) : _root_.Go.OpenSpec := { _root_.Go.OpenSpec.ofChange s with cond := some uptoSmall }

/-- 'laws.FnExactDropTerm', WHERE WHAT IT READS IS OF BULK AT MOST 1048576: true; the input reads as it did. -/
def fnExactDropTermUptoRow : OpenClaim := { program := "ytgmpajfhjnojiaa", sum := "4e11760edafc058b74021c13f145d7f20665f4774b5a016a734675f00cb11326", func := "loop.example/g03406/laws.FnExactDropTerm", spec := "fnExactDropTerm", apart := false, narrowed := true }
def FnExactDropTermUptoSaid : Prop := fnExactDropTermUptoRow.holds Try.pinned (OpenSpec.upto fnExactDropTermSpec)

/-- 'laws.FnExactTokensOf', WHERE WHAT IT READS IS OF BULK AT MOST 1048576: true; the input reads as it did. -/
def fnExactTokensOfUptoRow : OpenClaim := { program := "ytgmpajfhjnojiaa", sum := "4e11760edafc058b74021c13f145d7f20665f4774b5a016a734675f00cb11326", func := "loop.example/g03406/laws.FnExactTokensOf", spec := "fnExactTokensOf", apart := false, narrowed := true }
def FnExactTokensOfUptoSaid : Prop := fnExactTokensOfUptoRow.holds Try.pinned (OpenSpec.upto fnExactTokensOfSpec)

/-- 'laws.FnExactFormulaOf', WHERE WHAT IT READS IS OF BULK AT MOST 1048576: true; the input reads as it did. -/
def fnExactFormulaOfUptoRow : OpenClaim := { program := "ytgmpajfhjnojiaa", sum := "4e11760edafc058b74021c13f145d7f20665f4774b5a016a734675f00cb11326", func := "loop.example/g03406/laws.FnExactFormulaOf", spec := "fnExactFormulaOf", recurses := true, apart := false, narrowed := true }
def FnExactFormulaOfUptoSaid : Prop := fnExactFormulaOfUptoRow.holds Try.pinned (OpenSpec.upto fnExactFormulaOfSpec)

end Rows
end Go.Proofs.Ytgmpajfhjnojiaa
