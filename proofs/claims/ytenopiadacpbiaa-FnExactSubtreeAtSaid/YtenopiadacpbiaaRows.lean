/-
  No cell of these rows narrows 'for every input' (looked for: loops, veiled, ifaces, maps, wideKeys, modest, calm, conditions, laid).
  DERIVED. THE GIVEN ROWS OF THIS SEAT. 3 by the template 'for every input the law returns true; each argument reads behind the call as it read before'; 0 by the template 'total and deterministic' (their statements: YtenopiadacpbiaaTotals.lean).
  GIVEN WITH THE SEED: the statements are not yours to turn. If you find one false, say at which input.
  Laid BY PROGRAM, IN A SANDBOX (cutbox-rows.mjs): the forced cells as the released guide's own fill.sh prints them over the translation 36150b6d842bce28… (all of the seat's roots in one cut). By AI agents, Wed Nov 11 2026. No macro, syntax, notation, axiom, sorry.
-/
import Derived.Test.YtenopiadacpbiaaChecked
import GoSem.Claim
import GoSem.ClaimJoined
import GoSem.ClaimMapViews
import Derived.JoinedTies
import Derived.KernelRfl
namespace Go.Proofs.Ytenopiadacpbiaa
/- THE CELL 'sum', in the pinned program and in every row, IS THE sha256 OF THE DUMP (.gsa) THAT YtenopiadacpbiaaProg.lean LOADS. Nothing in Lean hashes anything: it is a label: what it is worth is what the hold of that sum in a sandbox is worth. -/
noncomputable def Try.pinned : Pinned := { name := "ytenopiadacpbiaa", sum := "36150b6d842bce2882aa25577f01ce04e1d9aa37dc0011ce4ab42ffdab0931c5", checked := Try.checked }
namespace Rows
def none {H : Type} : Left H := { results := [], args := [] }

/-- 'laws.FnExactSubtreeAt': WHATEVER THE INPUT: true; the input reads as it did. -/
def fnExactSubtreeAtSpec : ChangeSpec := { name := "fnExactSubtreeAt", fn := fun _ => fun
  | [d1, d2] => { results := [.lit (.bool true)], args := [d1, d2] }
  | _ => none }
def fnExactSubtreeAtRow : OpenClaim := { program := "ytenopiadacpbiaa", sum := "36150b6d842bce2882aa25577f01ce04e1d9aa37dc0011ce4ab42ffdab0931c5", func := "loop.example/g03406/laws.FnExactSubtreeAt", spec := "fnExactSubtreeAt", apart := false }
def FnExactSubtreeAtSaid : Prop := fnExactSubtreeAtRow.holds Try.pinned (OpenSpec.ofChange fnExactSubtreeAtSpec)

/-- ITS FALSE NEIGHBOUR: 'it returns false'. Refute it at one input. -/
def fnExactSubtreeAtWrong : ChangeSpec := { name := "fnExactSubtreeAt", fn := fun _ => fun
  | [d1, d2] => { results := [.lit (.bool false)], args := [d1, d2] }
  | _ => none }
def FnExactSubtreeAtWrongFalsely : Prop := fnExactSubtreeAtRow.holds Try.pinned (OpenSpec.ofChange fnExactSubtreeAtWrong)

/-- 'laws.FnExactReplaceSubtree': WHATEVER THE INPUT: true; the input reads as it did. -/
def fnExactReplaceSubtreeSpec : ChangeSpec := { name := "fnExactReplaceSubtree", fn := fun _ => fun
  | [d1, d2, d3] => { results := [.lit (.bool true)], args := [d1, d2, d3] }
  | _ => none }
def fnExactReplaceSubtreeRow : OpenClaim := { program := "ytenopiadacpbiaa", sum := "36150b6d842bce2882aa25577f01ce04e1d9aa37dc0011ce4ab42ffdab0931c5", func := "loop.example/g03406/laws.FnExactReplaceSubtree", spec := "fnExactReplaceSubtree", apart := false }
def FnExactReplaceSubtreeSaid : Prop := fnExactReplaceSubtreeRow.holds Try.pinned (OpenSpec.ofChange fnExactReplaceSubtreeSpec)

/-- ITS FALSE NEIGHBOUR: 'it returns false'. Refute it at one input. -/
def fnExactReplaceSubtreeWrong : ChangeSpec := { name := "fnExactReplaceSubtree", fn := fun _ => fun
  | [d1, d2, d3] => { results := [.lit (.bool false)], args := [d1, d2, d3] }
  | _ => none }
def FnExactReplaceSubtreeWrongFalsely : Prop := fnExactReplaceSubtreeRow.holds Try.pinned (OpenSpec.ofChange fnExactReplaceSubtreeWrong)

/-- 'laws.FnExactFormatTree': WHATEVER THE INPUT: true; the input reads as it did. -/
def fnExactFormatTreeSpec : ChangeSpec := { name := "fnExactFormatTree", fn := fun _ => fun
  | [d] => { results := [.lit (.bool true)], args := [d] }
  | _ => none }
def fnExactFormatTreeRow : OpenClaim := { program := "ytenopiadacpbiaa", sum := "36150b6d842bce2882aa25577f01ce04e1d9aa37dc0011ce4ab42ffdab0931c5", func := "loop.example/g03406/laws.FnExactFormatTree", spec := "fnExactFormatTree", recurses := true, apart := false }
def FnExactFormatTreeSaid : Prop := fnExactFormatTreeRow.holds Try.pinned (OpenSpec.ofChange fnExactFormatTreeSpec)

/-- ITS FALSE NEIGHBOUR: 'it returns false'. Refute it at one input. -/
def fnExactFormatTreeWrong : ChangeSpec := { name := "fnExactFormatTree", fn := fun _ => fun
  | [d] => { results := [.lit (.bool false)], args := [d] }
  | _ => none }
def FnExactFormatTreeWrongFalsely : Prop := fnExactFormatTreeRow.holds Try.pinned (OpenSpec.ofChange fnExactFormatTreeWrong)

/- THE SECOND FORM. 'bulk': how many values and letters a reading holds, each counted each time it is reached (what is shared counts as often as it is met; a slice's spare places count too). A statement '..UptoSaid' is the law's where the arguments, and the package variables that the reading takes, are together of bulk at most 1048576: NARROWER than '..Said'. Prove '..Said' where nothing that the law and all that it calls make is longer than what came in: it says more and counts as full. Else prove '..UptoSaid'. A law counts once. -/
mutual
def uptoBulk {H : Type} : DataW H → Nat
  | .lit (.string bytes) => bytes.length + 1
  | .lit _ => 1
  | .nil => 1
  | .ptr d => uptoBulk d + 1
  | .slice elems spare => uptoBulkAll elems + uptoBulkAll spare + 1
  | .agg parts => uptoBulkAll parts + 1
  | .iface _ d => uptoBulk d + 1
  | .map entries => uptoBulkEntries entries + 1
  | .held _ => 1
def uptoBulkAll {H : Type} : List (DataW H) → Nat
  | [] => 0
  | d :: r => uptoBulk d + uptoBulkAll r
def uptoBulkEntries {H : Type} : List (Lit × DataW H) → Nat
  | [] => 0
  | x :: r => uptoBulkEntry x + uptoBulkEntries r
def uptoBulkEntry {H : Type} : Lit × DataW H → Nat
  | (.string bytes, d) => bytes.length + uptoBulk d + 1
  | (_, d) => uptoBulk d + 1
 end
def uptoSmall : (H : Type) → List (DataW H) → Bool := fun _ ds => decide (uptoBulkAll ds ≤ 1048576)
def OpenSpec.upto (s : _root_.Go.ChangeSpec) : _root_.Go.OpenSpec := { _root_.Go.OpenSpec.ofChange s with cond := some uptoSmall }

/-- 'laws.FnExactSubtreeAt', WHERE WHAT IT READS IS OF BULK AT MOST 1048576: true; the input reads as it did. -/
def fnExactSubtreeAtUptoRow : OpenClaim := { program := "ytenopiadacpbiaa", sum := "36150b6d842bce2882aa25577f01ce04e1d9aa37dc0011ce4ab42ffdab0931c5", func := "loop.example/g03406/laws.FnExactSubtreeAt", spec := "fnExactSubtreeAt", apart := false, narrowed := true }
def FnExactSubtreeAtUptoSaid : Prop := fnExactSubtreeAtUptoRow.holds Try.pinned (OpenSpec.upto fnExactSubtreeAtSpec)

/-- 'laws.FnExactReplaceSubtree', WHERE WHAT IT READS IS OF BULK AT MOST 1048576: true; the input reads as it did. -/
def fnExactReplaceSubtreeUptoRow : OpenClaim := { program := "ytenopiadacpbiaa", sum := "36150b6d842bce2882aa25577f01ce04e1d9aa37dc0011ce4ab42ffdab0931c5", func := "loop.example/g03406/laws.FnExactReplaceSubtree", spec := "fnExactReplaceSubtree", apart := false, narrowed := true }
def FnExactReplaceSubtreeUptoSaid : Prop := fnExactReplaceSubtreeUptoRow.holds Try.pinned (OpenSpec.upto fnExactReplaceSubtreeSpec)

/-- 'laws.FnExactFormatTree', WHERE WHAT IT READS IS OF BULK AT MOST 1048576: true; the input reads as it did. -/
def fnExactFormatTreeUptoRow : OpenClaim := { program := "ytenopiadacpbiaa", sum := "36150b6d842bce2882aa25577f01ce04e1d9aa37dc0011ce4ab42ffdab0931c5", func := "loop.example/g03406/laws.FnExactFormatTree", spec := "fnExactFormatTree", recurses := true, apart := false, narrowed := true }
def FnExactFormatTreeUptoSaid : Prop := fnExactFormatTreeUptoRow.holds Try.pinned (OpenSpec.upto fnExactFormatTreeSpec)

end Rows
end Go.Proofs.Ytenopiadacpbiaa
