/-
  No cell of these rows narrows 'for every input' (looked for: loops, veiled, ifaces, maps, wideKeys, modest, calm, conditions, laid).
  DERIVED. THE GIVEN ROWS OF THIS SEAT. 12 by the template 'for every input the law returns true; each argument reads behind the call as it read before'; 0 by the template 'total and deterministic' (their statements: YtmanijpmkeheeaaTotals.lean).
  GIVEN WITH THE SEED: the statements are not yours to turn. If you find one false, say at which input.
  Laid BY PROGRAM, IN A SANDBOX (cutbox-rows.mjs): the forced cells as the released guide's own fill.sh prints them over the translation 211c39f23093bf52… (all of the seat's roots in one cut). By AI agents, Wed Nov 11 2026. No macro, syntax, notation, axiom, sorry.
-/
import Derived.Test.YtmanijpmkeheeaaChecked
import GoSem.Claim
import GoSem.ClaimJoined
import GoSem.ClaimMapViews
import Derived.JoinedTies
import Derived.KernelRfl
namespace Go.Proofs.Ytmanijpmkeheeaa
/- THE CELL 'sum', in the pinned program and in every row, IS THE sha256 OF THE DUMP (.gsa) THAT YtmanijpmkeheeaaProg.lean LOADS. Nothing in Lean hashes anything: it is a label: what it is worth is what the hold of that sum in a sandbox is worth. -/
noncomputable def Try.pinned : Pinned := { name := "ytmanijpmkeheeaa", sum := "211c39f23093bf529cabfee9d20a1e9a8ca1cc83ae0ce55a4e46300d46c5a725", checked := Try.checked }
namespace Rows
def none {H : Type} : Left H := { results := [], args := [] }

/-- 'laws.FnExactReduceRows': WHATEVER THE INPUT: true; the input reads as it did. -/
def fnExactReduceRowsSpec : ChangeSpec := { name := "fnExactReduceRows", fn := fun _ => fun
  | [d] => { results := [.lit (.bool true)], args := [d] }
  | _ => none }
def fnExactReduceRowsRow : OpenClaim := { program := "ytmanijpmkeheeaa", sum := "211c39f23093bf529cabfee9d20a1e9a8ca1cc83ae0ce55a4e46300d46c5a725", func := "loop.example/g03406/laws.FnExactReduceRows", spec := "fnExactReduceRows", apart := false }
def FnExactReduceRowsSaid : Prop := fnExactReduceRowsRow.holds Try.pinned (OpenSpec.ofChange fnExactReduceRowsSpec)

/-- ITS FALSE NEIGHBOUR: 'it returns false'. Refute it at one input. -/
def fnExactReduceRowsWrong : ChangeSpec := { name := "fnExactReduceRows", fn := fun _ => fun
  | [d] => { results := [.lit (.bool false)], args := [d] }
  | _ => none }
def FnExactReduceRowsWrongFalsely : Prop := fnExactReduceRowsRow.holds Try.pinned (OpenSpec.ofChange fnExactReduceRowsWrong)

/-- 'laws.FnExactRankOf': WHATEVER THE INPUT: true; the input reads as it did. -/
def fnExactRankOfSpec : ChangeSpec := { name := "fnExactRankOf", fn := fun _ => fun
  | [d] => { results := [.lit (.bool true)], args := [d] }
  | _ => none }
def fnExactRankOfRow : OpenClaim := { program := "ytmanijpmkeheeaa", sum := "211c39f23093bf529cabfee9d20a1e9a8ca1cc83ae0ce55a4e46300d46c5a725", func := "loop.example/g03406/laws.FnExactRankOf", spec := "fnExactRankOf", apart := false }
def FnExactRankOfSaid : Prop := fnExactRankOfRow.holds Try.pinned (OpenSpec.ofChange fnExactRankOfSpec)

/-- ITS FALSE NEIGHBOUR: 'it returns false'. Refute it at one input. -/
def fnExactRankOfWrong : ChangeSpec := { name := "fnExactRankOf", fn := fun _ => fun
  | [d] => { results := [.lit (.bool false)], args := [d] }
  | _ => none }
def FnExactRankOfWrongFalsely : Prop := fnExactRankOfRow.holds Try.pinned (OpenSpec.ofChange fnExactRankOfWrong)

/-- 'laws.FnExactDeterminantOf': WHATEVER THE INPUT: true; the input reads as it did. -/
def fnExactDeterminantOfSpec : ChangeSpec := { name := "fnExactDeterminantOf", fn := fun _ => fun
  | [d] => { results := [.lit (.bool true)], args := [d] }
  | _ => none }
def fnExactDeterminantOfRow : OpenClaim := { program := "ytmanijpmkeheeaa", sum := "211c39f23093bf529cabfee9d20a1e9a8ca1cc83ae0ce55a4e46300d46c5a725", func := "loop.example/g03406/laws.FnExactDeterminantOf", spec := "fnExactDeterminantOf", apart := false }
def FnExactDeterminantOfSaid : Prop := fnExactDeterminantOfRow.holds Try.pinned (OpenSpec.ofChange fnExactDeterminantOfSpec)

/-- ITS FALSE NEIGHBOUR: 'it returns false'. Refute it at one input. -/
def fnExactDeterminantOfWrong : ChangeSpec := { name := "fnExactDeterminantOf", fn := fun _ => fun
  | [d] => { results := [.lit (.bool false)], args := [d] }
  | _ => none }
def FnExactDeterminantOfWrongFalsely : Prop := fnExactDeterminantOfRow.holds Try.pinned (OpenSpec.ofChange fnExactDeterminantOfWrong)

/-- 'laws.FnExactSolveSystem': WHATEVER THE INPUT: true; the input reads as it did. -/
def fnExactSolveSystemSpec : ChangeSpec := { name := "fnExactSolveSystem", fn := fun _ => fun
  | [d1, d2] => { results := [.lit (.bool true)], args := [d1, d2] }
  | _ => none }
def fnExactSolveSystemRow : OpenClaim := { program := "ytmanijpmkeheeaa", sum := "211c39f23093bf529cabfee9d20a1e9a8ca1cc83ae0ce55a4e46300d46c5a725", func := "loop.example/g03406/laws.FnExactSolveSystem", spec := "fnExactSolveSystem", apart := false }
def FnExactSolveSystemSaid : Prop := fnExactSolveSystemRow.holds Try.pinned (OpenSpec.ofChange fnExactSolveSystemSpec)

/-- ITS FALSE NEIGHBOUR: 'it returns false'. Refute it at one input. -/
def fnExactSolveSystemWrong : ChangeSpec := { name := "fnExactSolveSystem", fn := fun _ => fun
  | [d1, d2] => { results := [.lit (.bool false)], args := [d1, d2] }
  | _ => none }
def FnExactSolveSystemWrongFalsely : Prop := fnExactSolveSystemRow.holds Try.pinned (OpenSpec.ofChange fnExactSolveSystemWrong)

/-- 'laws.FnExactInvertMatrix': WHATEVER THE INPUT: true; the input reads as it did. -/
def fnExactInvertMatrixSpec : ChangeSpec := { name := "fnExactInvertMatrix", fn := fun _ => fun
  | [d] => { results := [.lit (.bool true)], args := [d] }
  | _ => none }
def fnExactInvertMatrixRow : OpenClaim := { program := "ytmanijpmkeheeaa", sum := "211c39f23093bf529cabfee9d20a1e9a8ca1cc83ae0ce55a4e46300d46c5a725", func := "loop.example/g03406/laws.FnExactInvertMatrix", spec := "fnExactInvertMatrix", apart := false }
def FnExactInvertMatrixSaid : Prop := fnExactInvertMatrixRow.holds Try.pinned (OpenSpec.ofChange fnExactInvertMatrixSpec)

/-- ITS FALSE NEIGHBOUR: 'it returns false'. Refute it at one input. -/
def fnExactInvertMatrixWrong : ChangeSpec := { name := "fnExactInvertMatrix", fn := fun _ => fun
  | [d] => { results := [.lit (.bool false)], args := [d] }
  | _ => none }
def FnExactInvertMatrixWrongFalsely : Prop := fnExactInvertMatrixRow.holds Try.pinned (OpenSpec.ofChange fnExactInvertMatrixWrong)

/-- 'laws.FnExactNullSpace': WHATEVER THE INPUT: true; the input reads as it did. -/
def fnExactNullSpaceSpec : ChangeSpec := { name := "fnExactNullSpace", fn := fun _ => fun
  | [d] => { results := [.lit (.bool true)], args := [d] }
  | _ => none }
def fnExactNullSpaceRow : OpenClaim := { program := "ytmanijpmkeheeaa", sum := "211c39f23093bf529cabfee9d20a1e9a8ca1cc83ae0ce55a4e46300d46c5a725", func := "loop.example/g03406/laws.FnExactNullSpace", spec := "fnExactNullSpace", apart := false }
def FnExactNullSpaceSaid : Prop := fnExactNullSpaceRow.holds Try.pinned (OpenSpec.ofChange fnExactNullSpaceSpec)

/-- ITS FALSE NEIGHBOUR: 'it returns false'. Refute it at one input. -/
def fnExactNullSpaceWrong : ChangeSpec := { name := "fnExactNullSpace", fn := fun _ => fun
  | [d] => { results := [.lit (.bool false)], args := [d] }
  | _ => none }
def FnExactNullSpaceWrongFalsely : Prop := fnExactNullSpaceRow.holds Try.pinned (OpenSpec.ofChange fnExactNullSpaceWrong)

/-- 'laws.FnExactFitMatrix': WHATEVER THE INPUT: true; the input reads as it did. -/
def fnExactFitMatrixSpec : ChangeSpec := { name := "fnExactFitMatrix", fn := fun _ => fun
  | [d1, d2] => { results := [.lit (.bool true)], args := [d1, d2] }
  | _ => none }
def fnExactFitMatrixRow : OpenClaim := { program := "ytmanijpmkeheeaa", sum := "211c39f23093bf529cabfee9d20a1e9a8ca1cc83ae0ce55a4e46300d46c5a725", func := "loop.example/g03406/laws.FnExactFitMatrix", spec := "fnExactFitMatrix", apart := false }
def FnExactFitMatrixSaid : Prop := fnExactFitMatrixRow.holds Try.pinned (OpenSpec.ofChange fnExactFitMatrixSpec)

/-- ITS FALSE NEIGHBOUR: 'it returns false'. Refute it at one input. -/
def fnExactFitMatrixWrong : ChangeSpec := { name := "fnExactFitMatrix", fn := fun _ => fun
  | [d1, d2] => { results := [.lit (.bool false)], args := [d1, d2] }
  | _ => none }
def FnExactFitMatrixWrongFalsely : Prop := fnExactFitMatrixRow.holds Try.pinned (OpenSpec.ofChange fnExactFitMatrixWrong)

/-- 'laws.FnSolve': WHATEVER THE INPUT: true; the input reads as it did. -/
def fnSolveSpec : ChangeSpec := { name := "fnSolve", fn := fun _ => fun
  | [d] => { results := [.lit (.bool true)], args := [d] }
  | _ => none }
def fnSolveRow : OpenClaim := { program := "ytmanijpmkeheeaa", sum := "211c39f23093bf529cabfee9d20a1e9a8ca1cc83ae0ce55a4e46300d46c5a725", func := "loop.example/g03406/laws.FnSolve", spec := "fnSolve", apart := false }
def FnSolveSaid : Prop := fnSolveRow.holds Try.pinned (OpenSpec.ofChange fnSolveSpec)

/-- ITS FALSE NEIGHBOUR: 'it returns false'. Refute it at one input. -/
def fnSolveWrong : ChangeSpec := { name := "fnSolve", fn := fun _ => fun
  | [d] => { results := [.lit (.bool false)], args := [d] }
  | _ => none }
def FnSolveWrongFalsely : Prop := fnSolveRow.holds Try.pinned (OpenSpec.ofChange fnSolveWrong)

/-- 'laws.FnInverses': WHATEVER THE INPUT: true; the input reads as it did. -/
def fnInversesSpec : ChangeSpec := { name := "fnInverses", fn := fun _ => fun
  | [d] => { results := [.lit (.bool true)], args := [d] }
  | _ => none }
def fnInversesRow : OpenClaim := { program := "ytmanijpmkeheeaa", sum := "211c39f23093bf529cabfee9d20a1e9a8ca1cc83ae0ce55a4e46300d46c5a725", func := "loop.example/g03406/laws.FnInverses", spec := "fnInverses", apart := false }
def FnInversesSaid : Prop := fnInversesRow.holds Try.pinned (OpenSpec.ofChange fnInversesSpec)

/-- ITS FALSE NEIGHBOUR: 'it returns false'. Refute it at one input. -/
def fnInversesWrong : ChangeSpec := { name := "fnInverses", fn := fun _ => fun
  | [d] => { results := [.lit (.bool false)], args := [d] }
  | _ => none }
def FnInversesWrongFalsely : Prop := fnInversesRow.holds Try.pinned (OpenSpec.ofChange fnInversesWrong)

/-- 'laws.FnProducts': WHATEVER THE INPUT: true; the input reads as it did. -/
def fnProductsSpec : ChangeSpec := { name := "fnProducts", fn := fun _ => fun
  | [d] => { results := [.lit (.bool true)], args := [d] }
  | _ => none }
def fnProductsRow : OpenClaim := { program := "ytmanijpmkeheeaa", sum := "211c39f23093bf529cabfee9d20a1e9a8ca1cc83ae0ce55a4e46300d46c5a725", func := "loop.example/g03406/laws.FnProducts", spec := "fnProducts", apart := false }
def FnProductsSaid : Prop := fnProductsRow.holds Try.pinned (OpenSpec.ofChange fnProductsSpec)

/-- ITS FALSE NEIGHBOUR: 'it returns false'. Refute it at one input. -/
def fnProductsWrong : ChangeSpec := { name := "fnProducts", fn := fun _ => fun
  | [d] => { results := [.lit (.bool false)], args := [d] }
  | _ => none }
def FnProductsWrongFalsely : Prop := fnProductsRow.holds Try.pinned (OpenSpec.ofChange fnProductsWrong)

/-- 'laws.FnContrastSums': WHATEVER THE INPUT: true; the input reads as it did. -/
def fnContrastSumsSpec : ChangeSpec := { name := "fnContrastSums", fn := fun _ => fun
  | [d] => { results := [.lit (.bool true)], args := [d] }
  | _ => none }
def fnContrastSumsRow : OpenClaim := { program := "ytmanijpmkeheeaa", sum := "211c39f23093bf529cabfee9d20a1e9a8ca1cc83ae0ce55a4e46300d46c5a725", func := "loop.example/g03406/laws.FnContrastSums", spec := "fnContrastSums", apart := false }
def FnContrastSumsSaid : Prop := fnContrastSumsRow.holds Try.pinned (OpenSpec.ofChange fnContrastSumsSpec)

/-- ITS FALSE NEIGHBOUR: 'it returns false'. Refute it at one input. -/
def fnContrastSumsWrong : ChangeSpec := { name := "fnContrastSums", fn := fun _ => fun
  | [d] => { results := [.lit (.bool false)], args := [d] }
  | _ => none }
def FnContrastSumsWrongFalsely : Prop := fnContrastSumsRow.holds Try.pinned (OpenSpec.ofChange fnContrastSumsWrong)

/-- 'laws.FnLeastSquares': WHATEVER THE INPUT: true; the input reads as it did. -/
def fnLeastSquaresSpec : ChangeSpec := { name := "fnLeastSquares", fn := fun _ => fun
  | [d] => { results := [.lit (.bool true)], args := [d] }
  | _ => none }
def fnLeastSquaresRow : OpenClaim := { program := "ytmanijpmkeheeaa", sum := "211c39f23093bf529cabfee9d20a1e9a8ca1cc83ae0ce55a4e46300d46c5a725", func := "loop.example/g03406/laws.FnLeastSquares", spec := "fnLeastSquares", apart := false }
def FnLeastSquaresSaid : Prop := fnLeastSquaresRow.holds Try.pinned (OpenSpec.ofChange fnLeastSquaresSpec)

/-- ITS FALSE NEIGHBOUR: 'it returns false'. Refute it at one input. -/
def fnLeastSquaresWrong : ChangeSpec := { name := "fnLeastSquares", fn := fun _ => fun
  | [d] => { results := [.lit (.bool false)], args := [d] }
  | _ => none }
def FnLeastSquaresWrongFalsely : Prop := fnLeastSquaresRow.holds Try.pinned (OpenSpec.ofChange fnLeastSquaresWrong)

/- THE SECOND FORM. 'bulk': how many values and letters a reading holds, each counted each time it is reached (what is shared counts as often as it is met; a slice's spare places count too). A statement '..UptoSaid' is the law's where the arguments, and the package variables that the reading takes, are together of bulk at most 1048576: NARROWER than '..Said'. Prove '..Said' where nothing that the law and all that it calls make is longer than what came in: it says more and counts as full. Else prove '..UptoSaid'. A law counts once. -/
mutual
def uptoBulk {H : Type} : DataW H → Nat
  | .lit (.string bytes) => bytes.length + 1
  | .lit _ => 1
  | .nil => 1
  | .ptr d => uptoBulk d + 1
  | .slice elems spare => uptoBulkAll elems + uptoBulkAll spare + 1
  | .agg parts => uptoBulkAll parts + 1
  | .iface _ d => uptoBulk d + 1
  | .map entries => uptoBulkEntries entries + 1
  | .held _ => 1
def uptoBulkAll {H : Type} : List (DataW H) → Nat
  | [] => 0
  | d :: r => uptoBulk d + uptoBulkAll r
def uptoBulkEntries {H : Type} : List (Lit × DataW H) → Nat
  | [] => 0
  | x :: r => uptoBulkEntry x + uptoBulkEntries r
def uptoBulkEntry {H : Type} : Lit × DataW H → Nat
  | (.string bytes, d) => bytes.length + uptoBulk d + 1
  | (_, d) => uptoBulk d + 1
 end
def uptoSmall : (H : Type) → List (DataW H) → Bool := fun _ ds => decide (uptoBulkAll ds ≤ 1048576)
def OpenSpec.upto (s : _root_.Go.ChangeSpec) : _root_.Go.OpenSpec := { _root_.Go.OpenSpec.ofChange s with cond := some uptoSmall }

/-- 'laws.FnExactReduceRows', WHERE WHAT IT READS IS OF BULK AT MOST 1048576: true; the input reads as it did. -/
def fnExactReduceRowsUptoRow : OpenClaim := { program := "ytmanijpmkeheeaa", sum := "211c39f23093bf529cabfee9d20a1e9a8ca1cc83ae0ce55a4e46300d46c5a725", func := "loop.example/g03406/laws.FnExactReduceRows", spec := "fnExactReduceRows", apart := false, narrowed := true }
def FnExactReduceRowsUptoSaid : Prop := fnExactReduceRowsUptoRow.holds Try.pinned (OpenSpec.upto fnExactReduceRowsSpec)

/-- 'laws.FnExactRankOf', WHERE WHAT IT READS IS OF BULK AT MOST 1048576: true; the input reads as it did. -/
def fnExactRankOfUptoRow : OpenClaim := { program := "ytmanijpmkeheeaa", sum := "211c39f23093bf529cabfee9d20a1e9a8ca1cc83ae0ce55a4e46300d46c5a725", func := "loop.example/g03406/laws.FnExactRankOf", spec := "fnExactRankOf", apart := false, narrowed := true }
def FnExactRankOfUptoSaid : Prop := fnExactRankOfUptoRow.holds Try.pinned (OpenSpec.upto fnExactRankOfSpec)

/-- 'laws.FnExactDeterminantOf', WHERE WHAT IT READS IS OF BULK AT MOST 1048576: true; the input reads as it did. -/
def fnExactDeterminantOfUptoRow : OpenClaim := { program := "ytmanijpmkeheeaa", sum := "211c39f23093bf529cabfee9d20a1e9a8ca1cc83ae0ce55a4e46300d46c5a725", func := "loop.example/g03406/laws.FnExactDeterminantOf", spec := "fnExactDeterminantOf", apart := false, narrowed := true }
def FnExactDeterminantOfUptoSaid : Prop := fnExactDeterminantOfUptoRow.holds Try.pinned (OpenSpec.upto fnExactDeterminantOfSpec)

/-- 'laws.FnExactSolveSystem', WHERE WHAT IT READS IS OF BULK AT MOST 1048576: true; the input reads as it did. -/
def fnExactSolveSystemUptoRow : OpenClaim := { program := "ytmanijpmkeheeaa", sum := "211c39f23093bf529cabfee9d20a1e9a8ca1cc83ae0ce55a4e46300d46c5a725", func := "loop.example/g03406/laws.FnExactSolveSystem", spec := "fnExactSolveSystem", apart := false, narrowed := true }
def FnExactSolveSystemUptoSaid : Prop := fnExactSolveSystemUptoRow.holds Try.pinned (OpenSpec.upto fnExactSolveSystemSpec)

/-- 'laws.FnExactInvertMatrix', WHERE WHAT IT READS IS OF BULK AT MOST 1048576: true; the input reads as it did. -/
def fnExactInvertMatrixUptoRow : OpenClaim := { program := "ytmanijpmkeheeaa", sum := "211c39f23093bf529cabfee9d20a1e9a8ca1cc83ae0ce55a4e46300d46c5a725", func := "loop.example/g03406/laws.FnExactInvertMatrix", spec := "fnExactInvertMatrix", apart := false, narrowed := true }
def FnExactInvertMatrixUptoSaid : Prop := fnExactInvertMatrixUptoRow.holds Try.pinned (OpenSpec.upto fnExactInvertMatrixSpec)

/-- 'laws.FnExactNullSpace', WHERE WHAT IT READS IS OF BULK AT MOST 1048576: true; the input reads as it did. -/
def fnExactNullSpaceUptoRow : OpenClaim := { program := "ytmanijpmkeheeaa", sum := "211c39f23093bf529cabfee9d20a1e9a8ca1cc83ae0ce55a4e46300d46c5a725", func := "loop.example/g03406/laws.FnExactNullSpace", spec := "fnExactNullSpace", apart := false, narrowed := true }
def FnExactNullSpaceUptoSaid : Prop := fnExactNullSpaceUptoRow.holds Try.pinned (OpenSpec.upto fnExactNullSpaceSpec)

/-- 'laws.FnExactFitMatrix', WHERE WHAT IT READS IS OF BULK AT MOST 1048576: true; the input reads as it did. -/
def fnExactFitMatrixUptoRow : OpenClaim := { program := "ytmanijpmkeheeaa", sum := "211c39f23093bf529cabfee9d20a1e9a8ca1cc83ae0ce55a4e46300d46c5a725", func := "loop.example/g03406/laws.FnExactFitMatrix", spec := "fnExactFitMatrix", apart := false, narrowed := true }
def FnExactFitMatrixUptoSaid : Prop := fnExactFitMatrixUptoRow.holds Try.pinned (OpenSpec.upto fnExactFitMatrixSpec)

/-- 'laws.FnSolve', WHERE WHAT IT READS IS OF BULK AT MOST 1048576: true; the input reads as it did. -/
def fnSolveUptoRow : OpenClaim := { program := "ytmanijpmkeheeaa", sum := "211c39f23093bf529cabfee9d20a1e9a8ca1cc83ae0ce55a4e46300d46c5a725", func := "loop.example/g03406/laws.FnSolve", spec := "fnSolve", apart := false, narrowed := true }
def FnSolveUptoSaid : Prop := fnSolveUptoRow.holds Try.pinned (OpenSpec.upto fnSolveSpec)

/-- 'laws.FnInverses', WHERE WHAT IT READS IS OF BULK AT MOST 1048576: true; the input reads as it did. -/
def fnInversesUptoRow : OpenClaim := { program := "ytmanijpmkeheeaa", sum := "211c39f23093bf529cabfee9d20a1e9a8ca1cc83ae0ce55a4e46300d46c5a725", func := "loop.example/g03406/laws.FnInverses", spec := "fnInverses", apart := false, narrowed := true }
def FnInversesUptoSaid : Prop := fnInversesUptoRow.holds Try.pinned (OpenSpec.upto fnInversesSpec)

/-- 'laws.FnProducts', WHERE WHAT IT READS IS OF BULK AT MOST 1048576: true; the input reads as it did. -/
def fnProductsUptoRow : OpenClaim := { program := "ytmanijpmkeheeaa", sum := "211c39f23093bf529cabfee9d20a1e9a8ca1cc83ae0ce55a4e46300d46c5a725", func := "loop.example/g03406/laws.FnProducts", spec := "fnProducts", apart := false, narrowed := true }
def FnProductsUptoSaid : Prop := fnProductsUptoRow.holds Try.pinned (OpenSpec.upto fnProductsSpec)

/-- 'laws.FnContrastSums', WHERE WHAT IT READS IS OF BULK AT MOST 1048576: true; the input reads as it did. -/
def fnContrastSumsUptoRow : OpenClaim := { program := "ytmanijpmkeheeaa", sum := "211c39f23093bf529cabfee9d20a1e9a8ca1cc83ae0ce55a4e46300d46c5a725", func := "loop.example/g03406/laws.FnContrastSums", spec := "fnContrastSums", apart := false, narrowed := true }
def FnContrastSumsUptoSaid : Prop := fnContrastSumsUptoRow.holds Try.pinned (OpenSpec.upto fnContrastSumsSpec)

/-- 'laws.FnLeastSquares', WHERE WHAT IT READS IS OF BULK AT MOST 1048576: true; the input reads as it did. -/
def fnLeastSquaresUptoRow : OpenClaim := { program := "ytmanijpmkeheeaa", sum := "211c39f23093bf529cabfee9d20a1e9a8ca1cc83ae0ce55a4e46300d46c5a725", func := "loop.example/g03406/laws.FnLeastSquares", spec := "fnLeastSquares", apart := false, narrowed := true }
def FnLeastSquaresUptoSaid : Prop := fnLeastSquaresUptoRow.holds Try.pinned (OpenSpec.upto fnLeastSquaresSpec)

end Rows
end Go.Proofs.Ytmanijpmkeheeaa
