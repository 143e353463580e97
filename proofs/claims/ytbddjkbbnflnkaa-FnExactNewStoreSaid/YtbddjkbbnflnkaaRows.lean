/-
  NARROWER THAN 'FOR EVERY INPUT', by the rows' own cells (each row's printed sentence says how): FnExactConstantTree: loops · FnExactIsStore: loops.
  DERIVED. THE GIVEN ROWS OF THIS SEAT. 12 by the template 'for every input the law returns true; each argument reads behind the call as it read before'; 0 by the template 'total and deterministic' (their statements: YtbddjkbbnflnkaaTotals.lean).
  GIVEN WITH THE SEED: the statements are not yours to turn. If you find one false, say at which input.
  Laid BY PROGRAM, IN A SANDBOX (cutbox-rows.mjs): the forced cells as the released guide's own fill.sh prints them over the translation 1a424ffc8afda147… (all of the seat's roots in one cut). By AI agents, Wed Nov 11 2026. No macro, syntax, notation, axiom, sorry.
-/
import Derived.Test.YtbddjkbbnflnkaaChecked
import GoSem.Claim
import GoSem.ClaimJoined
import GoSem.ClaimMapViews
import Derived.JoinedTies
import Derived.KernelRfl
namespace Go.Proofs.Ytbddjkbbnflnkaa
/- THE CELL 'sum', in the pinned program and in every row, IS THE sha256 OF THE DUMP (.gsa) THAT YtbddjkbbnflnkaaProg.lean LOADS. Nothing in Lean hashes anything: it is a label: what it is worth is what the hold of that sum in a sandbox is worth. -/
noncomputable def Try.pinned : Pinned := { name := "ytbddjkbbnflnkaa", sum := "1a424ffc8afda147a266520e372de2483cb79a489c5da96794ab9d4b6c1d0d57", checked := Try.checked }
namespace Rows
def none {H : Type} : Left H := { results := [], args := [] }

/-- 'laws.FnExactMatchArguments': WHATEVER THE INPUT: true; the input reads as it did. -/
def fnExactMatchArgumentsSpec : ChangeSpec := { name := "fnExactMatchArguments", fn := fun _ => fun
  | [d1, d2] => { results := [.lit (.bool true)], args := [d1, d2] }
  | _ => none }
def fnExactMatchArgumentsRow : OpenClaim := { program := "ytbddjkbbnflnkaa", sum := "1a424ffc8afda147a266520e372de2483cb79a489c5da96794ab9d4b6c1d0d57", func := "loop.example/g03406/laws.FnExactMatchArguments", spec := "fnExactMatchArguments", apart := false }
def FnExactMatchArgumentsSaid : Prop := fnExactMatchArgumentsRow.holds Try.pinned (OpenSpec.ofChange fnExactMatchArgumentsSpec)

/-- ITS FALSE NEIGHBOUR: 'it returns false'. Refute it at one input. -/
def fnExactMatchArgumentsWrong : ChangeSpec := { name := "fnExactMatchArguments", fn := fun _ => fun
  | [d1, d2] => { results := [.lit (.bool false)], args := [d1, d2] }
  | _ => none }
def FnExactMatchArgumentsWrongFalsely : Prop := fnExactMatchArgumentsRow.holds Try.pinned (OpenSpec.ofChange fnExactMatchArgumentsWrong)

/-- 'laws.FnExactIsFormula': WHATEVER THE INPUT: true; the input reads as it did. -/
def fnExactIsFormulaSpec : ChangeSpec := { name := "fnExactIsFormula", fn := fun _ => fun
  | [d] => { results := [.lit (.bool true)], args := [d] }
  | _ => none }
def fnExactIsFormulaRow : OpenClaim := { program := "ytbddjkbbnflnkaa", sum := "1a424ffc8afda147a266520e372de2483cb79a489c5da96794ab9d4b6c1d0d57", func := "loop.example/g03406/laws.FnExactIsFormula", spec := "fnExactIsFormula", apart := false }
def FnExactIsFormulaSaid : Prop := fnExactIsFormulaRow.holds Try.pinned (OpenSpec.ofChange fnExactIsFormulaSpec)

/-- ITS FALSE NEIGHBOUR: 'it returns false'. Refute it at one input. -/
def fnExactIsFormulaWrong : ChangeSpec := { name := "fnExactIsFormula", fn := fun _ => fun
  | [d] => { results := [.lit (.bool false)], args := [d] }
  | _ => none }
def FnExactIsFormulaWrongFalsely : Prop := fnExactIsFormulaRow.holds Try.pinned (OpenSpec.ofChange fnExactIsFormulaWrong)

/-- 'laws.FnExactIsHierarchical': WHATEVER THE INPUT: true; the input reads as it did. -/
def fnExactIsHierarchicalSpec : ChangeSpec := { name := "fnExactIsHierarchical", fn := fun _ => fun
  | [d] => { results := [.lit (.bool true)], args := [d] }
  | _ => none }
def fnExactIsHierarchicalRow : OpenClaim := { program := "ytbddjkbbnflnkaa", sum := "1a424ffc8afda147a266520e372de2483cb79a489c5da96794ab9d4b6c1d0d57", func := "loop.example/g03406/laws.FnExactIsHierarchical", spec := "fnExactIsHierarchical", apart := false }
def FnExactIsHierarchicalSaid : Prop := fnExactIsHierarchicalRow.holds Try.pinned (OpenSpec.ofChange fnExactIsHierarchicalSpec)

/-- ITS FALSE NEIGHBOUR: 'it returns false'. Refute it at one input. -/
def fnExactIsHierarchicalWrong : ChangeSpec := { name := "fnExactIsHierarchical", fn := fun _ => fun
  | [d] => { results := [.lit (.bool false)], args := [d] }
  | _ => none }
def FnExactIsHierarchicalWrongFalsely : Prop := fnExactIsHierarchicalRow.holds Try.pinned (OpenSpec.ofChange fnExactIsHierarchicalWrong)

/-- 'laws.FnExactFormatFormula': WHATEVER THE INPUT: true; the input reads as it did. -/
def fnExactFormatFormulaSpec : ChangeSpec := { name := "fnExactFormatFormula", fn := fun _ => fun
  | [d] => { results := [.lit (.bool true)], args := [d] }
  | _ => none }
def fnExactFormatFormulaRow : OpenClaim := { program := "ytbddjkbbnflnkaa", sum := "1a424ffc8afda147a266520e372de2483cb79a489c5da96794ab9d4b6c1d0d57", func := "loop.example/g03406/laws.FnExactFormatFormula", spec := "fnExactFormatFormula", apart := false }
def FnExactFormatFormulaSaid : Prop := fnExactFormatFormulaRow.holds Try.pinned (OpenSpec.ofChange fnExactFormatFormulaSpec)

/-- ITS FALSE NEIGHBOUR: 'it returns false'. Refute it at one input. -/
def fnExactFormatFormulaWrong : ChangeSpec := { name := "fnExactFormatFormula", fn := fun _ => fun
  | [d] => { results := [.lit (.bool false)], args := [d] }
  | _ => none }
def FnExactFormatFormulaWrongFalsely : Prop := fnExactFormatFormulaRow.holds Try.pinned (OpenSpec.ofChange fnExactFormatFormulaWrong)

/-- 'laws.FnExactNewStore': WHATEVER THE INPUT: true; the input reads as it did. -/
def fnExactNewStoreSpec : ChangeSpec := { name := "fnExactNewStore", fn := fun _ => fun
  | [] => { results := [.lit (.bool true)], args := [] }
  | _ => none }
def fnExactNewStoreRow : OpenClaim := { program := "ytbddjkbbnflnkaa", sum := "1a424ffc8afda147a266520e372de2483cb79a489c5da96794ab9d4b6c1d0d57", func := "loop.example/g03406/laws.FnExactNewStore", spec := "fnExactNewStore", recurses := true, apart := false }
def FnExactNewStoreSaid : Prop := fnExactNewStoreRow.holds Try.pinned (OpenSpec.ofChange fnExactNewStoreSpec)

/-- ITS FALSE NEIGHBOUR: 'it returns false'. Refute it at one input. -/
def fnExactNewStoreWrong : ChangeSpec := { name := "fnExactNewStore", fn := fun _ => fun
  | [] => { results := [.lit (.bool false)], args := [] }
  | _ => none }
def FnExactNewStoreWrongFalsely : Prop := fnExactNewStoreRow.holds Try.pinned (OpenSpec.ofChange fnExactNewStoreWrong)

/-- 'laws.FnExactIsToken': WHATEVER THE INPUT: true; the input reads as it did. -/
def fnExactIsTokenSpec : ChangeSpec := { name := "fnExactIsToken", fn := fun _ => fun
  | [d] => { results := [.lit (.bool true)], args := [d] }
  | _ => none }
def fnExactIsTokenRow : OpenClaim := { program := "ytbddjkbbnflnkaa", sum := "1a424ffc8afda147a266520e372de2483cb79a489c5da96794ab9d4b6c1d0d57", func := "loop.example/g03406/laws.FnExactIsToken", spec := "fnExactIsToken", apart := false }
def FnExactIsTokenSaid : Prop := fnExactIsTokenRow.holds Try.pinned (OpenSpec.ofChange fnExactIsTokenSpec)

/-- ITS FALSE NEIGHBOUR: 'it returns false'. Refute it at one input. -/
def fnExactIsTokenWrong : ChangeSpec := { name := "fnExactIsToken", fn := fun _ => fun
  | [d] => { results := [.lit (.bool false)], args := [d] }
  | _ => none }
def FnExactIsTokenWrongFalsely : Prop := fnExactIsTokenRow.holds Try.pinned (OpenSpec.ofChange fnExactIsTokenWrong)

/-- 'laws.FnExactFormatTokens': WHATEVER THE INPUT: true; the input reads as it did. -/
def fnExactFormatTokensSpec : ChangeSpec := { name := "fnExactFormatTokens", fn := fun _ => fun
  | [d] => { results := [.lit (.bool true)], args := [d] }
  | _ => none }
def fnExactFormatTokensRow : OpenClaim := { program := "ytbddjkbbnflnkaa", sum := "1a424ffc8afda147a266520e372de2483cb79a489c5da96794ab9d4b6c1d0d57", func := "loop.example/g03406/laws.FnExactFormatTokens", spec := "fnExactFormatTokens", apart := false }
def FnExactFormatTokensSaid : Prop := fnExactFormatTokensRow.holds Try.pinned (OpenSpec.ofChange fnExactFormatTokensSpec)

/-- ITS FALSE NEIGHBOUR: 'it returns false'. Refute it at one input. -/
def fnExactFormatTokensWrong : ChangeSpec := { name := "fnExactFormatTokens", fn := fun _ => fun
  | [d] => { results := [.lit (.bool false)], args := [d] }
  | _ => none }
def FnExactFormatTokensWrongFalsely : Prop := fnExactFormatTokensRow.holds Try.pinned (OpenSpec.ofChange fnExactFormatTokensWrong)

/-- 'laws.FnExactConstantTree': WHATEVER THE INPUT: true; the input reads as it did. -/
def fnExactConstantTreeSpec : ChangeSpec := { name := "fnExactConstantTree", fn := fun _ => fun
  | [d] => { results := [.lit (.bool true)], args := [d] }
  | _ => none }
def fnExactConstantTreeRow : OpenClaim := { program := "ytbddjkbbnflnkaa", sum := "1a424ffc8afda147a266520e372de2483cb79a489c5da96794ab9d4b6c1d0d57", func := "loop.example/g03406/laws.FnExactConstantTree", spec := "fnExactConstantTree", recurses := true, loops := true, apart := false }
def FnExactConstantTreeSaid : Prop := fnExactConstantTreeRow.holds Try.pinned (OpenSpec.ofChange fnExactConstantTreeSpec)

/-- ITS FALSE NEIGHBOUR: 'it returns false'. Refute it at one input. -/
def fnExactConstantTreeWrong : ChangeSpec := { name := "fnExactConstantTree", fn := fun _ => fun
  | [d] => { results := [.lit (.bool false)], args := [d] }
  | _ => none }
def FnExactConstantTreeWrongFalsely : Prop := fnExactConstantTreeRow.holds Try.pinned (OpenSpec.ofChange fnExactConstantTreeWrong)

/-- 'laws.FnExactIsStore': WHATEVER THE INPUT: true; the input reads as it did. -/
def fnExactIsStoreSpec : ChangeSpec := { name := "fnExactIsStore", fn := fun _ => fun
  | [d] => { results := [.lit (.bool true)], args := [d] }
  | _ => none }
def fnExactIsStoreRow : OpenClaim := { program := "ytbddjkbbnflnkaa", sum := "1a424ffc8afda147a266520e372de2483cb79a489c5da96794ab9d4b6c1d0d57", func := "loop.example/g03406/laws.FnExactIsStore", spec := "fnExactIsStore", recurses := true, loops := true, apart := false }
def FnExactIsStoreSaid : Prop := fnExactIsStoreRow.holds Try.pinned (OpenSpec.ofChange fnExactIsStoreSpec)

/-- ITS FALSE NEIGHBOUR: 'it returns false'. Refute it at one input. -/
def fnExactIsStoreWrong : ChangeSpec := { name := "fnExactIsStore", fn := fun _ => fun
  | [d] => { results := [.lit (.bool false)], args := [d] }
  | _ => none }
def FnExactIsStoreWrongFalsely : Prop := fnExactIsStoreRow.holds Try.pinned (OpenSpec.ofChange fnExactIsStoreWrong)

/-- 'laws.FnMatches': WHATEVER THE INPUT: true; the input reads as it did. -/
def fnMatchesSpec : ChangeSpec := { name := "fnMatches", fn := fun _ => fun
  | [d] => { results := [.lit (.bool true)], args := [d] }
  | _ => none }
def fnMatchesRow : OpenClaim := { program := "ytbddjkbbnflnkaa", sum := "1a424ffc8afda147a266520e372de2483cb79a489c5da96794ab9d4b6c1d0d57", func := "loop.example/g03406/laws.FnMatches", spec := "fnMatches", apart := false }
def FnMatchesSaid : Prop := fnMatchesRow.holds Try.pinned (OpenSpec.ofChange fnMatchesSpec)

/-- ITS FALSE NEIGHBOUR: 'it returns false'. Refute it at one input. -/
def fnMatchesWrong : ChangeSpec := { name := "fnMatches", fn := fun _ => fun
  | [d] => { results := [.lit (.bool false)], args := [d] }
  | _ => none }
def FnMatchesWrongFalsely : Prop := fnMatchesRow.holds Try.pinned (OpenSpec.ofChange fnMatchesWrong)

/-- 'laws.FnExactDropTerm': WHATEVER THE INPUT: true; the input reads as it did. -/
def fnExactDropTermSpec : ChangeSpec := { name := "fnExactDropTerm", fn := fun _ => fun
  | [d1, d2] => { results := [.lit (.bool true)], args := [d1, d2] }
  | _ => none }
def fnExactDropTermRow : OpenClaim := { program := "ytbddjkbbnflnkaa", sum := "1a424ffc8afda147a266520e372de2483cb79a489c5da96794ab9d4b6c1d0d57", func := "loop.example/g03406/laws.FnExactDropTerm", spec := "fnExactDropTerm", apart := false }
def FnExactDropTermSaid : Prop := fnExactDropTermRow.holds Try.pinned (OpenSpec.ofChange fnExactDropTermSpec)

/-- ITS FALSE NEIGHBOUR: 'it returns false'. Refute it at one input. -/
def fnExactDropTermWrong : ChangeSpec := { name := "fnExactDropTerm", fn := fun _ => fun
  | [d1, d2] => { results := [.lit (.bool false)], args := [d1, d2] }
  | _ => none }
def FnExactDropTermWrongFalsely : Prop := fnExactDropTermRow.holds Try.pinned (OpenSpec.ofChange fnExactDropTermWrong)

/-- 'laws.FnExactTokensOf': WHATEVER THE INPUT: true; the input reads as it did. -/
def fnExactTokensOfSpec : ChangeSpec := { name := "fnExactTokensOf", fn := fun _ => fun
  | [d] => { results := [.lit (.bool true)], args := [d] }
  | _ => none }
def fnExactTokensOfRow : OpenClaim := { program := "ytbddjkbbnflnkaa", sum := "1a424ffc8afda147a266520e372de2483cb79a489c5da96794ab9d4b6c1d0d57", func := "loop.example/g03406/laws.FnExactTokensOf", spec := "fnExactTokensOf", apart := false }
def FnExactTokensOfSaid : Prop := fnExactTokensOfRow.holds Try.pinned (OpenSpec.ofChange fnExactTokensOfSpec)

/-- ITS FALSE NEIGHBOUR: 'it returns false'. Refute it at one input. -/
def fnExactTokensOfWrong : ChangeSpec := { name := "fnExactTokensOf", fn := fun _ => fun
  | [d] => { results := [.lit (.bool false)], args := [d] }
  | _ => none }
def FnExactTokensOfWrongFalsely : Prop := fnExactTokensOfRow.holds Try.pinned (OpenSpec.ofChange fnExactTokensOfWrong)

/- THE SECOND FORM. 'bulk': how many values and letters a reading holds, each counted each time it is reached (what is shared counts as often as it is met; a slice's spare places count too). A statement '..UptoSaid' is the law's where the arguments, and the package variables that the reading takes, are together of bulk at most 1048576: NARROWER than '..Said'. Prove '..Said' where nothing that the law and all that it calls make is longer than what came in: it says more and counts as full. Else prove '..UptoSaid'. A law counts once. -/
mutual
def uptoBulk {H : Type} : DataW H → Nat
  | .lit (.string bytes) => bytes.length + 1
  | .lit _ => 1
  | .nil => 1
  | .ptr d => uptoBulk d + 1
  | .slice elems spare => uptoBulkAll elems + uptoBulkAll spare + 1
  | .agg parts => uptoBulkAll parts + 1
  | .iface _ d => uptoBulk d + 1
  | .map entries => uptoBulkEntries entries + 1
  | .held _ => 1
def uptoBulkAll {H : Type} : List (DataW H) → Nat
  | [] => 0
  | d :: r => uptoBulk d + uptoBulkAll r
def uptoBulkEntries {H : Type} : List (Lit × DataW H) → Nat
  | [] => 0
  | x :: r => uptoBulkEntry x + uptoBulkEntries r
def uptoBulkEntry {H : Type} : Lit × DataW H → Nat
  | (.string bytes, d) => bytes.length + uptoBulk d + 1
  | (_, d) => uptoBulk d + 1
 end
def uptoSmall : (H : Type) → List (DataW H) → Bool := fun _ ds => decide (uptoBulkAll ds ≤ 1048576)
def OpenSpec.upto (s : _root_.Go.ChangeSpec) : _root_.Go.OpenSpec := { _root_.Go.OpenSpec.ofChange s with cond := some uptoSmall }

/-- 'laws.FnExactMatchArguments', WHERE WHAT IT READS IS OF BULK AT MOST 1048576: true; the input reads as it did. -/
def fnExactMatchArgumentsUptoRow : OpenClaim := { program := "ytbddjkbbnflnkaa", sum := "1a424ffc8afda147a266520e372de2483cb79a489c5da96794ab9d4b6c1d0d57", func := "loop.example/g03406/laws.FnExactMatchArguments", spec := "fnExactMatchArguments", apart := false, narrowed := true }
def FnExactMatchArgumentsUptoSaid : Prop := fnExactMatchArgumentsUptoRow.holds Try.pinned (OpenSpec.upto fnExactMatchArgumentsSpec)

/-- 'laws.FnExactIsFormula', WHERE WHAT IT READS IS OF BULK AT MOST 1048576: true; the input reads as it did. -/
def fnExactIsFormulaUptoRow : OpenClaim := { program := "ytbddjkbbnflnkaa", sum := "1a424ffc8afda147a266520e372de2483cb79a489c5da96794ab9d4b6c1d0d57", func := "loop.example/g03406/laws.FnExactIsFormula", spec := "fnExactIsFormula", apart := false, narrowed := true }
def FnExactIsFormulaUptoSaid : Prop := fnExactIsFormulaUptoRow.holds Try.pinned (OpenSpec.upto fnExactIsFormulaSpec)

/-- 'laws.FnExactIsHierarchical', WHERE WHAT IT READS IS OF BULK AT MOST 1048576: true; the input reads as it did. -/
def fnExactIsHierarchicalUptoRow : OpenClaim := { program := "ytbddjkbbnflnkaa", sum := "1a424ffc8afda147a266520e372de2483cb79a489c5da96794ab9d4b6c1d0d57", func := "loop.example/g03406/laws.FnExactIsHierarchical", spec := "fnExactIsHierarchical", apart := false, narrowed := true }
def FnExactIsHierarchicalUptoSaid : Prop := fnExactIsHierarchicalUptoRow.holds Try.pinned (OpenSpec.upto fnExactIsHierarchicalSpec)

/-- 'laws.FnExactFormatFormula', WHERE WHAT IT READS IS OF BULK AT MOST 1048576: true; the input reads as it did. -/
def fnExactFormatFormulaUptoRow : OpenClaim := { program := "ytbddjkbbnflnkaa", sum := "1a424ffc8afda147a266520e372de2483cb79a489c5da96794ab9d4b6c1d0d57", func := "loop.example/g03406/laws.FnExactFormatFormula", spec := "fnExactFormatFormula", apart := false, narrowed := true }
def FnExactFormatFormulaUptoSaid : Prop := fnExactFormatFormulaUptoRow.holds Try.pinned (OpenSpec.upto fnExactFormatFormulaSpec)

/-- 'laws.FnExactNewStore', WHERE WHAT IT READS IS OF BULK AT MOST 1048576: true; the input reads as it did. -/
def fnExactNewStoreUptoRow : OpenClaim := { program := "ytbddjkbbnflnkaa", sum := "1a424ffc8afda147a266520e372de2483cb79a489c5da96794ab9d4b6c1d0d57", func := "loop.example/g03406/laws.FnExactNewStore", spec := "fnExactNewStore", recurses := true, apart := false, narrowed := true }
def FnExactNewStoreUptoSaid : Prop := fnExactNewStoreUptoRow.holds Try.pinned (OpenSpec.upto fnExactNewStoreSpec)

/-- 'laws.FnExactIsToken', WHERE WHAT IT READS IS OF BULK AT MOST 1048576: true; the input reads as it did. -/
def fnExactIsTokenUptoRow : OpenClaim := { program := "ytbddjkbbnflnkaa", sum := "1a424ffc8afda147a266520e372de2483cb79a489c5da96794ab9d4b6c1d0d57", func := "loop.example/g03406/laws.FnExactIsToken", spec := "fnExactIsToken", apart := false, narrowed := true }
def FnExactIsTokenUptoSaid : Prop := fnExactIsTokenUptoRow.holds Try.pinned (OpenSpec.upto fnExactIsTokenSpec)

/-- 'laws.FnExactFormatTokens', WHERE WHAT IT READS IS OF BULK AT MOST 1048576: true; the input reads as it did. -/
def fnExactFormatTokensUptoRow : OpenClaim := { program := "ytbddjkbbnflnkaa", sum := "1a424ffc8afda147a266520e372de2483cb79a489c5da96794ab9d4b6c1d0d57", func := "loop.example/g03406/laws.FnExactFormatTokens", spec := "fnExactFormatTokens", apart := false, narrowed := true }
def FnExactFormatTokensUptoSaid : Prop := fnExactFormatTokensUptoRow.holds Try.pinned (OpenSpec.upto fnExactFormatTokensSpec)

/-- 'laws.FnExactConstantTree', WHERE WHAT IT READS IS OF BULK AT MOST 1048576: true; the input reads as it did. -/
def fnExactConstantTreeUptoRow : OpenClaim := { program := "ytbddjkbbnflnkaa", sum := "1a424ffc8afda147a266520e372de2483cb79a489c5da96794ab9d4b6c1d0d57", func := "loop.example/g03406/laws.FnExactConstantTree", spec := "fnExactConstantTree", recurses := true, loops := true, apart := false, narrowed := true }
def FnExactConstantTreeUptoSaid : Prop := fnExactConstantTreeUptoRow.holds Try.pinned (OpenSpec.upto fnExactConstantTreeSpec)

/-- 'laws.FnExactIsStore', WHERE WHAT IT READS IS OF BULK AT MOST 1048576: true; the input reads as it did. -/
def fnExactIsStoreUptoRow : OpenClaim := { program := "ytbddjkbbnflnkaa", sum := "1a424ffc8afda147a266520e372de2483cb79a489c5da96794ab9d4b6c1d0d57", func := "loop.example/g03406/laws.FnExactIsStore", spec := "fnExactIsStore", recurses := true, loops := true, apart := false, narrowed := true }
def FnExactIsStoreUptoSaid : Prop := fnExactIsStoreUptoRow.holds Try.pinned (OpenSpec.upto fnExactIsStoreSpec)

/-- 'laws.FnMatches', WHERE WHAT IT READS IS OF BULK AT MOST 1048576: true; the input reads as it did. -/
def fnMatchesUptoRow : OpenClaim := { program := "ytbddjkbbnflnkaa", sum := "1a424ffc8afda147a266520e372de2483cb79a489c5da96794ab9d4b6c1d0d57", func := "loop.example/g03406/laws.FnMatches", spec := "fnMatches", apart := false, narrowed := true }
def FnMatchesUptoSaid : Prop := fnMatchesUptoRow.holds Try.pinned (OpenSpec.upto fnMatchesSpec)

/-- 'laws.FnExactDropTerm', WHERE WHAT IT READS IS OF BULK AT MOST 1048576: true; the input reads as it did. -/
def fnExactDropTermUptoRow : OpenClaim := { program := "ytbddjkbbnflnkaa", sum := "1a424ffc8afda147a266520e372de2483cb79a489c5da96794ab9d4b6c1d0d57", func := "loop.example/g03406/laws.FnExactDropTerm", spec := "fnExactDropTerm", apart := false, narrowed := true }
def FnExactDropTermUptoSaid : Prop := fnExactDropTermUptoRow.holds Try.pinned (OpenSpec.upto fnExactDropTermSpec)

/-- 'laws.FnExactTokensOf', WHERE WHAT IT READS IS OF BULK AT MOST 1048576: true; the input reads as it did. -/
def fnExactTokensOfUptoRow : OpenClaim := { program := "ytbddjkbbnflnkaa", sum := "1a424ffc8afda147a266520e372de2483cb79a489c5da96794ab9d4b6c1d0d57", func := "loop.example/g03406/laws.FnExactTokensOf", spec := "fnExactTokensOf", apart := false, narrowed := true }
def FnExactTokensOfUptoSaid : Prop := fnExactTokensOfUptoRow.holds Try.pinned (OpenSpec.upto fnExactTokensOfSpec)

end Rows
end Go.Proofs.Ytbddjkbbnflnkaa
