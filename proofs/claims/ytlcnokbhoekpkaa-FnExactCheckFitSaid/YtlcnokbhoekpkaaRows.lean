/-
  No cell of these rows narrows 'for every input' (looked for: loops, veiled, ifaces, maps, wideKeys, modest, calm, conditions, laid).
  DERIVED. THE GIVEN ROWS OF THIS SEAT. 12 by the template 'for every input the law returns true; each argument reads behind the call as it read before'; 0 by the template 'total and deterministic' (their statements: YtlcnokbhoekpkaaTotals.lean).
  GIVEN WITH THE SEED: the statements are not yours to turn. If you find one false, say at which input.
  Laid BY PROGRAM, IN A SANDBOX (cutbox-rows.mjs): the forced cells as the released guide's own fill.sh prints them over the translation 371410773e9e26c4… (all of the seat's roots in one cut). By AI agents, Wed Nov 11 2026. No macro, syntax, notation, axiom, sorry.
-/
import Derived.Test.YtlcnokbhoekpkaaChecked
import GoSem.Claim
import GoSem.ClaimJoined
import GoSem.ClaimMapViews
import Derived.JoinedTies
import Derived.KernelRfl
namespace Go.Proofs.Ytlcnokbhoekpkaa
/- THE CELL 'sum', in the pinned program and in every row, IS THE sha256 OF THE DUMP (.gsa) THAT YtlcnokbhoekpkaaProg.lean LOADS. Nothing in Lean hashes anything: it is a label: what it is worth is what the hold of that sum in a sandbox is worth. -/
noncomputable def Try.pinned : Pinned := { name := "ytlcnokbhoekpkaa", sum := "371410773e9e26c4fb8991f2e1d621a7906ff4e702ef32918576e2ebdbf12dd9", checked := Try.checked }
namespace Rows
def none {H : Type} : Left H := { results := [], args := [] }

/-- 'laws.FnExactSumOfSquares': WHATEVER THE INPUT: true; the input reads as it did. -/
def fnExactSumOfSquaresSpec : ChangeSpec := { name := "fnExactSumOfSquares", fn := fun _ => fun
  | [d] => { results := [.lit (.bool true)], args := [d] }
  | _ => none }
def fnExactSumOfSquaresRow : OpenClaim := { program := "ytlcnokbhoekpkaa", sum := "371410773e9e26c4fb8991f2e1d621a7906ff4e702ef32918576e2ebdbf12dd9", func := "loop.example/g03406/laws.FnExactSumOfSquares", spec := "fnExactSumOfSquares", apart := false }
def FnExactSumOfSquaresSaid : Prop := fnExactSumOfSquaresRow.holds Try.pinned (OpenSpec.ofChange fnExactSumOfSquaresSpec)

/-- ITS FALSE NEIGHBOUR: 'it returns false'. Refute it at one input. -/
def fnExactSumOfSquaresWrong : ChangeSpec := { name := "fnExactSumOfSquares", fn := fun _ => fun
  | [d] => { results := [.lit (.bool false)], args := [d] }
  | _ => none }
def FnExactSumOfSquaresWrongFalsely : Prop := fnExactSumOfSquaresRow.holds Try.pinned (OpenSpec.ofChange fnExactSumOfSquaresWrong)

/-- 'laws.FnExactContrastMatrix': WHATEVER THE INPUT: true; the input reads as it did. -/
def fnExactContrastMatrixSpec : ChangeSpec := { name := "fnExactContrastMatrix", fn := fun _ => fun
  | [d1, d2] => { results := [.lit (.bool true)], args := [d1, d2] }
  | _ => none }
def fnExactContrastMatrixRow : OpenClaim := { program := "ytlcnokbhoekpkaa", sum := "371410773e9e26c4fb8991f2e1d621a7906ff4e702ef32918576e2ebdbf12dd9", func := "loop.example/g03406/laws.FnExactContrastMatrix", spec := "fnExactContrastMatrix", apart := false }
def FnExactContrastMatrixSaid : Prop := fnExactContrastMatrixRow.holds Try.pinned (OpenSpec.ofChange fnExactContrastMatrixSpec)

/-- ITS FALSE NEIGHBOUR: 'it returns false'. Refute it at one input. -/
def fnExactContrastMatrixWrong : ChangeSpec := { name := "fnExactContrastMatrix", fn := fun _ => fun
  | [d1, d2] => { results := [.lit (.bool false)], args := [d1, d2] }
  | _ => none }
def FnExactContrastMatrixWrongFalsely : Prop := fnExactContrastMatrixRow.holds Try.pinned (OpenSpec.ofChange fnExactContrastMatrixWrong)

/-- 'laws.FnExactTransposeMatrix': WHATEVER THE INPUT: true; the input reads as it did. -/
def fnExactTransposeMatrixSpec : ChangeSpec := { name := "fnExactTransposeMatrix", fn := fun _ => fun
  | [d] => { results := [.lit (.bool true)], args := [d] }
  | _ => none }
def fnExactTransposeMatrixRow : OpenClaim := { program := "ytlcnokbhoekpkaa", sum := "371410773e9e26c4fb8991f2e1d621a7906ff4e702ef32918576e2ebdbf12dd9", func := "loop.example/g03406/laws.FnExactTransposeMatrix", spec := "fnExactTransposeMatrix", apart := false }
def FnExactTransposeMatrixSaid : Prop := fnExactTransposeMatrixRow.holds Try.pinned (OpenSpec.ofChange fnExactTransposeMatrixSpec)

/-- ITS FALSE NEIGHBOUR: 'it returns false'. Refute it at one input. -/
def fnExactTransposeMatrixWrong : ChangeSpec := { name := "fnExactTransposeMatrix", fn := fun _ => fun
  | [d] => { results := [.lit (.bool false)], args := [d] }
  | _ => none }
def FnExactTransposeMatrixWrongFalsely : Prop := fnExactTransposeMatrixRow.holds Try.pinned (OpenSpec.ofChange fnExactTransposeMatrixWrong)

/-- 'laws.FnContrastSums': WHATEVER THE INPUT: true; the input reads as it did. -/
def fnContrastSumsSpec : ChangeSpec := { name := "fnContrastSums", fn := fun _ => fun
  | [d] => { results := [.lit (.bool true)], args := [d] }
  | _ => none }
def fnContrastSumsRow : OpenClaim := { program := "ytlcnokbhoekpkaa", sum := "371410773e9e26c4fb8991f2e1d621a7906ff4e702ef32918576e2ebdbf12dd9", func := "loop.example/g03406/laws.FnContrastSums", spec := "fnContrastSums", apart := false }
def FnContrastSumsSaid : Prop := fnContrastSumsRow.holds Try.pinned (OpenSpec.ofChange fnContrastSumsSpec)

/-- ITS FALSE NEIGHBOUR: 'it returns false'. Refute it at one input. -/
def fnContrastSumsWrong : ChangeSpec := { name := "fnContrastSums", fn := fun _ => fun
  | [d] => { results := [.lit (.bool false)], args := [d] }
  | _ => none }
def FnContrastSumsWrongFalsely : Prop := fnContrastSumsRow.holds Try.pinned (OpenSpec.ofChange fnContrastSumsWrong)

/-- 'laws.FnProducts': WHATEVER THE INPUT: true; the input reads as it did. -/
def fnProductsSpec : ChangeSpec := { name := "fnProducts", fn := fun _ => fun
  | [d] => { results := [.lit (.bool true)], args := [d] }
  | _ => none }
def fnProductsRow : OpenClaim := { program := "ytlcnokbhoekpkaa", sum := "371410773e9e26c4fb8991f2e1d621a7906ff4e702ef32918576e2ebdbf12dd9", func := "loop.example/g03406/laws.FnProducts", spec := "fnProducts", apart := false }
def FnProductsSaid : Prop := fnProductsRow.holds Try.pinned (OpenSpec.ofChange fnProductsSpec)

/-- ITS FALSE NEIGHBOUR: 'it returns false'. Refute it at one input. -/
def fnProductsWrong : ChangeSpec := { name := "fnProducts", fn := fun _ => fun
  | [d] => { results := [.lit (.bool false)], args := [d] }
  | _ => none }
def FnProductsWrongFalsely : Prop := fnProductsRow.holds Try.pinned (OpenSpec.ofChange fnProductsWrong)

/-- 'laws.FnExactMultiplyMatrices': WHATEVER THE INPUT: true; the input reads as it did. -/
def fnExactMultiplyMatricesSpec : ChangeSpec := { name := "fnExactMultiplyMatrices", fn := fun _ => fun
  | [d1, d2] => { results := [.lit (.bool true)], args := [d1, d2] }
  | _ => none }
def fnExactMultiplyMatricesRow : OpenClaim := { program := "ytlcnokbhoekpkaa", sum := "371410773e9e26c4fb8991f2e1d621a7906ff4e702ef32918576e2ebdbf12dd9", func := "loop.example/g03406/laws.FnExactMultiplyMatrices", spec := "fnExactMultiplyMatrices", apart := false }
def FnExactMultiplyMatricesSaid : Prop := fnExactMultiplyMatricesRow.holds Try.pinned (OpenSpec.ofChange fnExactMultiplyMatricesSpec)

/-- ITS FALSE NEIGHBOUR: 'it returns false'. Refute it at one input. -/
def fnExactMultiplyMatricesWrong : ChangeSpec := { name := "fnExactMultiplyMatrices", fn := fun _ => fun
  | [d1, d2] => { results := [.lit (.bool false)], args := [d1, d2] }
  | _ => none }
def FnExactMultiplyMatricesWrongFalsely : Prop := fnExactMultiplyMatricesRow.holds Try.pinned (OpenSpec.ofChange fnExactMultiplyMatricesWrong)

/-- 'laws.FnExactPredictWith': WHATEVER THE INPUT: true; the input reads as it did. -/
def fnExactPredictWithSpec : ChangeSpec := { name := "fnExactPredictWith", fn := fun _ => fun
  | [d1, d2] => { results := [.lit (.bool true)], args := [d1, d2] }
  | _ => none }
def fnExactPredictWithRow : OpenClaim := { program := "ytlcnokbhoekpkaa", sum := "371410773e9e26c4fb8991f2e1d621a7906ff4e702ef32918576e2ebdbf12dd9", func := "loop.example/g03406/laws.FnExactPredictWith", spec := "fnExactPredictWith", apart := false }
def FnExactPredictWithSaid : Prop := fnExactPredictWithRow.holds Try.pinned (OpenSpec.ofChange fnExactPredictWithSpec)

/-- ITS FALSE NEIGHBOUR: 'it returns false'. Refute it at one input. -/
def fnExactPredictWithWrong : ChangeSpec := { name := "fnExactPredictWith", fn := fun _ => fun
  | [d1, d2] => { results := [.lit (.bool false)], args := [d1, d2] }
  | _ => none }
def FnExactPredictWithWrongFalsely : Prop := fnExactPredictWithRow.holds Try.pinned (OpenSpec.ofChange fnExactPredictWithWrong)

/-- 'laws.FnExactRankOf': WHATEVER THE INPUT: true; the input reads as it did. -/
def fnExactRankOfSpec : ChangeSpec := { name := "fnExactRankOf", fn := fun _ => fun
  | [d] => { results := [.lit (.bool true)], args := [d] }
  | _ => none }
def fnExactRankOfRow : OpenClaim := { program := "ytlcnokbhoekpkaa", sum := "371410773e9e26c4fb8991f2e1d621a7906ff4e702ef32918576e2ebdbf12dd9", func := "loop.example/g03406/laws.FnExactRankOf", spec := "fnExactRankOf", apart := false }
def FnExactRankOfSaid : Prop := fnExactRankOfRow.holds Try.pinned (OpenSpec.ofChange fnExactRankOfSpec)

/-- ITS FALSE NEIGHBOUR: 'it returns false'. Refute it at one input. -/
def fnExactRankOfWrong : ChangeSpec := { name := "fnExactRankOf", fn := fun _ => fun
  | [d] => { results := [.lit (.bool false)], args := [d] }
  | _ => none }
def FnExactRankOfWrongFalsely : Prop := fnExactRankOfRow.holds Try.pinned (OpenSpec.ofChange fnExactRankOfWrong)

/-- 'laws.FnExactDeterminantOf': WHATEVER THE INPUT: true; the input reads as it did. -/
def fnExactDeterminantOfSpec : ChangeSpec := { name := "fnExactDeterminantOf", fn := fun _ => fun
  | [d] => { results := [.lit (.bool true)], args := [d] }
  | _ => none }
def fnExactDeterminantOfRow : OpenClaim := { program := "ytlcnokbhoekpkaa", sum := "371410773e9e26c4fb8991f2e1d621a7906ff4e702ef32918576e2ebdbf12dd9", func := "loop.example/g03406/laws.FnExactDeterminantOf", spec := "fnExactDeterminantOf", apart := false }
def FnExactDeterminantOfSaid : Prop := fnExactDeterminantOfRow.holds Try.pinned (OpenSpec.ofChange fnExactDeterminantOfSpec)

/-- ITS FALSE NEIGHBOUR: 'it returns false'. Refute it at one input. -/
def fnExactDeterminantOfWrong : ChangeSpec := { name := "fnExactDeterminantOf", fn := fun _ => fun
  | [d] => { results := [.lit (.bool false)], args := [d] }
  | _ => none }
def FnExactDeterminantOfWrongFalsely : Prop := fnExactDeterminantOfRow.holds Try.pinned (OpenSpec.ofChange fnExactDeterminantOfWrong)

/-- 'laws.FnExactCheckFit': WHATEVER THE INPUT: true; the input reads as it did. -/
def fnExactCheckFitSpec : ChangeSpec := { name := "fnExactCheckFit", fn := fun _ => fun
  | [d1, d2, d3] => { results := [.lit (.bool true)], args := [d1, d2, d3] }
  | _ => none }
def fnExactCheckFitRow : OpenClaim := { program := "ytlcnokbhoekpkaa", sum := "371410773e9e26c4fb8991f2e1d621a7906ff4e702ef32918576e2ebdbf12dd9", func := "loop.example/g03406/laws.FnExactCheckFit", spec := "fnExactCheckFit", apart := false }
def FnExactCheckFitSaid : Prop := fnExactCheckFitRow.holds Try.pinned (OpenSpec.ofChange fnExactCheckFitSpec)

/-- ITS FALSE NEIGHBOUR: 'it returns false'. Refute it at one input. -/
def fnExactCheckFitWrong : ChangeSpec := { name := "fnExactCheckFit", fn := fun _ => fun
  | [d1, d2, d3] => { results := [.lit (.bool false)], args := [d1, d2, d3] }
  | _ => none }
def FnExactCheckFitWrongFalsely : Prop := fnExactCheckFitRow.holds Try.pinned (OpenSpec.ofChange fnExactCheckFitWrong)

/-- 'laws.FnExactReduceRows': WHATEVER THE INPUT: true; the input reads as it did. -/
def fnExactReduceRowsSpec : ChangeSpec := { name := "fnExactReduceRows", fn := fun _ => fun
  | [d] => { results := [.lit (.bool true)], args := [d] }
  | _ => none }
def fnExactReduceRowsRow : OpenClaim := { program := "ytlcnokbhoekpkaa", sum := "371410773e9e26c4fb8991f2e1d621a7906ff4e702ef32918576e2ebdbf12dd9", func := "loop.example/g03406/laws.FnExactReduceRows", spec := "fnExactReduceRows", apart := false }
def FnExactReduceRowsSaid : Prop := fnExactReduceRowsRow.holds Try.pinned (OpenSpec.ofChange fnExactReduceRowsSpec)

/-- ITS FALSE NEIGHBOUR: 'it returns false'. Refute it at one input. -/
def fnExactReduceRowsWrong : ChangeSpec := { name := "fnExactReduceRows", fn := fun _ => fun
  | [d] => { results := [.lit (.bool false)], args := [d] }
  | _ => none }
def FnExactReduceRowsWrongFalsely : Prop := fnExactReduceRowsRow.holds Try.pinned (OpenSpec.ofChange fnExactReduceRowsWrong)

/-- 'laws.FnSolve': WHATEVER THE INPUT: true; the input reads as it did. -/
def fnSolveSpec : ChangeSpec := { name := "fnSolve", fn := fun _ => fun
  | [d] => { results := [.lit (.bool true)], args := [d] }
  | _ => none }
def fnSolveRow : OpenClaim := { program := "ytlcnokbhoekpkaa", sum := "371410773e9e26c4fb8991f2e1d621a7906ff4e702ef32918576e2ebdbf12dd9", func := "loop.example/g03406/laws.FnSolve", spec := "fnSolve", apart := false }
def FnSolveSaid : Prop := fnSolveRow.holds Try.pinned (OpenSpec.ofChange fnSolveSpec)

/-- ITS FALSE NEIGHBOUR: 'it returns false'. Refute it at one input. -/
def fnSolveWrong : ChangeSpec := { name := "fnSolve", fn := fun _ => fun
  | [d] => { results := [.lit (.bool false)], args := [d] }
  | _ => none }
def FnSolveWrongFalsely : Prop := fnSolveRow.holds Try.pinned (OpenSpec.ofChange fnSolveWrong)

/- THE SECOND FORM. 'bulk': how many values and letters a reading holds, each counted each time it is reached (what is shared counts as often as it is met; a slice's spare places count too). A statement '..UptoSaid' is the law's where the arguments, and the package variables that the reading takes, are together of bulk at most 1048576: NARROWER than '..Said'. Prove '..Said' where nothing that the law and all that it calls make is longer than what came in: it says more and counts as full. Else prove '..UptoSaid'. A law counts once. -/
mutual
def uptoBulk {H : Type} : DataW H → Nat
  | .lit (.string bytes) => bytes.length + 1
  | .lit _ => 1
  | .nil => 1
  | .ptr d => uptoBulk d + 1
  | .slice elems spare => uptoBulkAll elems + uptoBulkAll spare + 1
  | .agg parts => uptoBulkAll parts + 1
  | .iface _ d => uptoBulk d + 1
  | .map entries => uptoBulkEntries entries + 1
  | .held _ => 1
def uptoBulkAll {H : Type} : List (DataW H) → Nat
  | [] => 0
  | d :: r => uptoBulk d + uptoBulkAll r
def uptoBulkEntries {H : Type} : List (Lit × DataW H) → Nat
  | [] => 0
  | x :: r => uptoBulkEntry x + uptoBulkEntries r
def uptoBulkEntry {H : Type} : Lit × DataW H → Nat
  | (.string bytes, d) => bytes.length + uptoBulk d + 1
  | (_, d) => uptoBulk d + 1
 end
def uptoSmall : (H : Type) → List (DataW H) → Bool := fun _ ds => decide (uptoBulkAll ds ≤ 1048576)
def OpenSpec.upto (s : _root_.Go.ChangeSpec) : _root_.Go.OpenSpec := { _root_.Go.OpenSpec.ofChange s with cond := some uptoSmall }

/-- 'laws.FnExactSumOfSquares', WHERE WHAT IT READS IS OF BULK AT MOST 1048576: true; the input reads as it did. -/
def fnExactSumOfSquaresUptoRow : OpenClaim := { program := "ytlcnokbhoekpkaa", sum := "371410773e9e26c4fb8991f2e1d621a7906ff4e702ef32918576e2ebdbf12dd9", func := "loop.example/g03406/laws.FnExactSumOfSquares", spec := "fnExactSumOfSquares", apart := false, narrowed := true }
def FnExactSumOfSquaresUptoSaid : Prop := fnExactSumOfSquaresUptoRow.holds Try.pinned (OpenSpec.upto fnExactSumOfSquaresSpec)

/-- 'laws.FnExactContrastMatrix', WHERE WHAT IT READS IS OF BULK AT MOST 1048576: true; the input reads as it did. -/
def fnExactContrastMatrixUptoRow : OpenClaim := { program := "ytlcnokbhoekpkaa", sum := "371410773e9e26c4fb8991f2e1d621a7906ff4e702ef32918576e2ebdbf12dd9", func := "loop.example/g03406/laws.FnExactContrastMatrix", spec := "fnExactContrastMatrix", apart := false, narrowed := true }
def FnExactContrastMatrixUptoSaid : Prop := fnExactContrastMatrixUptoRow.holds Try.pinned (OpenSpec.upto fnExactContrastMatrixSpec)

/-- 'laws.FnExactTransposeMatrix', WHERE WHAT IT READS IS OF BULK AT MOST 1048576: true; the input reads as it did. -/
def fnExactTransposeMatrixUptoRow : OpenClaim := { program := "ytlcnokbhoekpkaa", sum := "371410773e9e26c4fb8991f2e1d621a7906ff4e702ef32918576e2ebdbf12dd9", func := "loop.example/g03406/laws.FnExactTransposeMatrix", spec := "fnExactTransposeMatrix", apart := false, narrowed := true }
def FnExactTransposeMatrixUptoSaid : Prop := fnExactTransposeMatrixUptoRow.holds Try.pinned (OpenSpec.upto fnExactTransposeMatrixSpec)

/-- 'laws.FnContrastSums', WHERE WHAT IT READS IS OF BULK AT MOST 1048576: true; the input reads as it did. -/
def fnContrastSumsUptoRow : OpenClaim := { program := "ytlcnokbhoekpkaa", sum := "371410773e9e26c4fb8991f2e1d621a7906ff4e702ef32918576e2ebdbf12dd9", func := "loop.example/g03406/laws.FnContrastSums", spec := "fnContrastSums", apart := false, narrowed := true }
def FnContrastSumsUptoSaid : Prop := fnContrastSumsUptoRow.holds Try.pinned (OpenSpec.upto fnContrastSumsSpec)

/-- 'laws.FnProducts', WHERE WHAT IT READS IS OF BULK AT MOST 1048576: true; the input reads as it did. -/
def fnProductsUptoRow : OpenClaim := { program := "ytlcnokbhoekpkaa", sum := "371410773e9e26c4fb8991f2e1d621a7906ff4e702ef32918576e2ebdbf12dd9", func := "loop.example/g03406/laws.FnProducts", spec := "fnProducts", apart := false, narrowed := true }
def FnProductsUptoSaid : Prop := fnProductsUptoRow.holds Try.pinned (OpenSpec.upto fnProductsSpec)

/-- 'laws.FnExactMultiplyMatrices', WHERE WHAT IT READS IS OF BULK AT MOST 1048576: true; the input reads as it did. -/
def fnExactMultiplyMatricesUptoRow : OpenClaim := { program := "ytlcnokbhoekpkaa", sum := "371410773e9e26c4fb8991f2e1d621a7906ff4e702ef32918576e2ebdbf12dd9", func := "loop.example/g03406/laws.FnExactMultiplyMatrices", spec := "fnExactMultiplyMatrices", apart := false, narrowed := true }
def FnExactMultiplyMatricesUptoSaid : Prop := fnExactMultiplyMatricesUptoRow.holds Try.pinned (OpenSpec.upto fnExactMultiplyMatricesSpec)

/-- 'laws.FnExactPredictWith', WHERE WHAT IT READS IS OF BULK AT MOST 1048576: true; the input reads as it did. -/
def fnExactPredictWithUptoRow : OpenClaim := { program := "ytlcnokbhoekpkaa", sum := "371410773e9e26c4fb8991f2e1d621a7906ff4e702ef32918576e2ebdbf12dd9", func := "loop.example/g03406/laws.FnExactPredictWith", spec := "fnExactPredictWith", apart := false, narrowed := true }
def FnExactPredictWithUptoSaid : Prop := fnExactPredictWithUptoRow.holds Try.pinned (OpenSpec.upto fnExactPredictWithSpec)

/-- 'laws.FnExactRankOf', WHERE WHAT IT READS IS OF BULK AT MOST 1048576: true; the input reads as it did. -/
def fnExactRankOfUptoRow : OpenClaim := { program := "ytlcnokbhoekpkaa", sum := "371410773e9e26c4fb8991f2e1d621a7906ff4e702ef32918576e2ebdbf12dd9", func := "loop.example/g03406/laws.FnExactRankOf", spec := "fnExactRankOf", apart := false, narrowed := true }
def FnExactRankOfUptoSaid : Prop := fnExactRankOfUptoRow.holds Try.pinned (OpenSpec.upto fnExactRankOfSpec)

/-- 'laws.FnExactDeterminantOf', WHERE WHAT IT READS IS OF BULK AT MOST 1048576: true; the input reads as it did. -/
def fnExactDeterminantOfUptoRow : OpenClaim := { program := "ytlcnokbhoekpkaa", sum := "371410773e9e26c4fb8991f2e1d621a7906ff4e702ef32918576e2ebdbf12dd9", func := "loop.example/g03406/laws.FnExactDeterminantOf", spec := "fnExactDeterminantOf", apart := false, narrowed := true }
def FnExactDeterminantOfUptoSaid : Prop := fnExactDeterminantOfUptoRow.holds Try.pinned (OpenSpec.upto fnExactDeterminantOfSpec)

/-- 'laws.FnExactCheckFit', WHERE WHAT IT READS IS OF BULK AT MOST 1048576: true; the input reads as it did. -/
def fnExactCheckFitUptoRow : OpenClaim := { program := "ytlcnokbhoekpkaa", sum := "371410773e9e26c4fb8991f2e1d621a7906ff4e702ef32918576e2ebdbf12dd9", func := "loop.example/g03406/laws.FnExactCheckFit", spec := "fnExactCheckFit", apart := false, narrowed := true }
def FnExactCheckFitUptoSaid : Prop := fnExactCheckFitUptoRow.holds Try.pinned (OpenSpec.upto fnExactCheckFitSpec)

/-- 'laws.FnExactReduceRows', WHERE WHAT IT READS IS OF BULK AT MOST 1048576: true; the input reads as it did. -/
def fnExactReduceRowsUptoRow : OpenClaim := { program := "ytlcnokbhoekpkaa", sum := "371410773e9e26c4fb8991f2e1d621a7906ff4e702ef32918576e2ebdbf12dd9", func := "loop.example/g03406/laws.FnExactReduceRows", spec := "fnExactReduceRows", apart := false, narrowed := true }
def FnExactReduceRowsUptoSaid : Prop := fnExactReduceRowsUptoRow.holds Try.pinned (OpenSpec.upto fnExactReduceRowsSpec)

/-- 'laws.FnSolve', WHERE WHAT IT READS IS OF BULK AT MOST 1048576: true; the input reads as it did. -/
def fnSolveUptoRow : OpenClaim := { program := "ytlcnokbhoekpkaa", sum := "371410773e9e26c4fb8991f2e1d621a7906ff4e702ef32918576e2ebdbf12dd9", func := "loop.example/g03406/laws.FnSolve", spec := "fnSolve", apart := false, narrowed := true }
def FnSolveUptoSaid : Prop := fnSolveUptoRow.holds Try.pinned (OpenSpec.upto fnSolveSpec)

end Rows
end Go.Proofs.Ytlcnokbhoekpkaa
