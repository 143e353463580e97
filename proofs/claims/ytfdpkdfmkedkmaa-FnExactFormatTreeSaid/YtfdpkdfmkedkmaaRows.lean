/-
  No cell of these rows narrows 'for every input' (looked for: loops, veiled, ifaces, maps, wideKeys, modest, calm, conditions, laid).
  DERIVED. THE GIVEN ROWS OF THIS SEAT. 3 by the template 'for every input the law returns true; each argument reads behind the call as it read before'; 0 by the template 'total and deterministic' (their statements: YtfdpkdfmkedkmaaTotals.lean).
  GIVEN WITH THE SEED: the statements are not yours to turn. If you find one false, say at which input.
  Laid BY PROGRAM, IN A SANDBOX (cutbox-rows.mjs): the forced cells as the released guide's own fill.sh prints them over the translation 7a25c9c74b1cebca… (all of the seat's roots in one cut). By AI agents, Wed Nov 11 2026. No macro, syntax, notation, axiom, sorry.
-/
import Derived.Test.YtfdpkdfmkedkmaaChecked
import GoSem.Claim
import GoSem.ClaimJoined
import GoSem.ClaimMapViews
import Derived.JoinedTies
import Derived.KernelRfl
namespace Go.Proofs.Ytfdpkdfmkedkmaa
/- THE CELL 'sum', in the pinned program and in every row, IS THE sha256 OF THE DUMP (.gsa) THAT YtfdpkdfmkedkmaaProg.lean LOADS. Nothing in Lean hashes anything: it is a label: what it is worth is what the hold of that sum in a sandbox is worth. -/
noncomputable def Try.pinned : Pinned := { name := "ytfdpkdfmkedkmaa", sum := "7a25c9c74b1cebcaee6e301da64f831b0aa9ab84c5ff941d51b347356874191e", checked := Try.checked }
namespace Rows
def none {H : Type} : Left H := { results := [], args := [] }

/-- 'laws.FnExactMentionsOf': WHATEVER THE INPUT: true; the input reads as it did. -/
def fnExactMentionsOfSpec : ChangeSpec := { name := "fnExactMentionsOf", fn := fun _ => fun
  | [d] => { results := [.lit (.bool true)], args := [d] }
  | _ => none }
def fnExactMentionsOfRow : OpenClaim := { program := "ytfdpkdfmkedkmaa", sum := "7a25c9c74b1cebcaee6e301da64f831b0aa9ab84c5ff941d51b347356874191e", func := "loop.example/g03406/laws.FnExactMentionsOf", spec := "fnExactMentionsOf", apart := false }
def FnExactMentionsOfSaid : Prop := fnExactMentionsOfRow.holds Try.pinned (OpenSpec.ofChange fnExactMentionsOfSpec)

/-- ITS FALSE NEIGHBOUR: 'it returns false'. Refute it at one input. -/
def fnExactMentionsOfWrong : ChangeSpec := { name := "fnExactMentionsOf", fn := fun _ => fun
  | [d] => { results := [.lit (.bool false)], args := [d] }
  | _ => none }
def FnExactMentionsOfWrongFalsely : Prop := fnExactMentionsOfRow.holds Try.pinned (OpenSpec.ofChange fnExactMentionsOfWrong)

/-- 'laws.FnExactRenameName': WHATEVER THE INPUT: true; the input reads as it did. -/
def fnExactRenameNameSpec : ChangeSpec := { name := "fnExactRenameName", fn := fun _ => fun
  | [d1, d2, d3] => { results := [.lit (.bool true)], args := [d1, d2, d3] }
  | _ => none }
def fnExactRenameNameRow : OpenClaim := { program := "ytfdpkdfmkedkmaa", sum := "7a25c9c74b1cebcaee6e301da64f831b0aa9ab84c5ff941d51b347356874191e", func := "loop.example/g03406/laws.FnExactRenameName", spec := "fnExactRenameName", apart := false }
def FnExactRenameNameSaid : Prop := fnExactRenameNameRow.holds Try.pinned (OpenSpec.ofChange fnExactRenameNameSpec)

/-- ITS FALSE NEIGHBOUR: 'it returns false'. Refute it at one input. -/
def fnExactRenameNameWrong : ChangeSpec := { name := "fnExactRenameName", fn := fun _ => fun
  | [d1, d2, d3] => { results := [.lit (.bool false)], args := [d1, d2, d3] }
  | _ => none }
def FnExactRenameNameWrongFalsely : Prop := fnExactRenameNameRow.holds Try.pinned (OpenSpec.ofChange fnExactRenameNameWrong)

/-- 'laws.FnExactFormatTree': WHATEVER THE INPUT: true; the input reads as it did. -/
def fnExactFormatTreeSpec : ChangeSpec := { name := "fnExactFormatTree", fn := fun _ => fun
  | [d] => { results := [.lit (.bool true)], args := [d] }
  | _ => none }
def fnExactFormatTreeRow : OpenClaim := { program := "ytfdpkdfmkedkmaa", sum := "7a25c9c74b1cebcaee6e301da64f831b0aa9ab84c5ff941d51b347356874191e", func := "loop.example/g03406/laws.FnExactFormatTree", spec := "fnExactFormatTree", recurses := true, apart := false }
def FnExactFormatTreeSaid : Prop := fnExactFormatTreeRow.holds Try.pinned (OpenSpec.ofChange fnExactFormatTreeSpec)

/-- ITS FALSE NEIGHBOUR: 'it returns false'. Refute it at one input. -/
def fnExactFormatTreeWrong : ChangeSpec := { name := "fnExactFormatTree", fn := fun _ => fun
  | [d] => { results := [.lit (.bool false)], args := [d] }
  | _ => none }
def FnExactFormatTreeWrongFalsely : Prop := fnExactFormatTreeRow.holds Try.pinned (OpenSpec.ofChange fnExactFormatTreeWrong)

/- THE SECOND FORM. 'bulk': how many values and letters a reading holds, each counted each time it is reached (what is shared counts as often as it is met; a slice's spare places count too). A statement '..UptoSaid' is the law's where the arguments, and the package variables that the reading takes, are together of bulk at most 1048576: NARROWER than '..Said'. Prove '..Said' where nothing that the law and all that it calls make is longer than what came in: it says more and counts as full. Else prove '..UptoSaid'. A law counts once. -/
mutual
def uptoBulk {H : Type} : DataW H → Nat
  | .lit (.string bytes) => bytes.length + 1
  | .lit _ => 1
  | .nil => 1
  | .ptr d => uptoBulk d + 1
  | .slice elems spare => uptoBulkAll elems + uptoBulkAll spare + 1
  | .agg parts => uptoBulkAll parts + 1
  | .iface _ d => uptoBulk d + 1
  | .map entries => uptoBulkEntries entries + 1
  | .held _ => 1
def uptoBulkAll {H : Type} : List (DataW H) → Nat
  | [] => 0
  | d :: r => uptoBulk d + uptoBulkAll r
def uptoBulkEntries {H : Type} : List (Lit × DataW H) → Nat
  | [] => 0
  | x :: r => uptoBulkEntry x + uptoBulkEntries r
def uptoBulkEntry {H : Type} : Lit × DataW H → Nat
  | (.string bytes, d) => bytes.length + uptoBulk d + 1
  | (_, d) => uptoBulk d + 1
 end
def uptoSmall : (H : Type) → List (DataW H) → Bool := fun _ ds => decide (uptoBulkAll ds ≤ 1048576)
def OpenSpec.upto (s : _root_.Go.ChangeSpec) : _root_.Go.OpenSpec := { _root_.Go.OpenSpec.ofChange s with cond := some uptoSmall }

/-- 'laws.FnExactMentionsOf', WHERE WHAT IT READS IS OF BULK AT MOST 1048576: true; the input reads as it did. -/
def fnExactMentionsOfUptoRow : OpenClaim := { program := "ytfdpkdfmkedkmaa", sum := "7a25c9c74b1cebcaee6e301da64f831b0aa9ab84c5ff941d51b347356874191e", func := "loop.example/g03406/laws.FnExactMentionsOf", spec := "fnExactMentionsOf", apart := false, narrowed := true }
def FnExactMentionsOfUptoSaid : Prop := fnExactMentionsOfUptoRow.holds Try.pinned (OpenSpec.upto fnExactMentionsOfSpec)

/-- 'laws.FnExactRenameName', WHERE WHAT IT READS IS OF BULK AT MOST 1048576: true; the input reads as it did. -/
def fnExactRenameNameUptoRow : OpenClaim := { program := "ytfdpkdfmkedkmaa", sum := "7a25c9c74b1cebcaee6e301da64f831b0aa9ab84c5ff941d51b347356874191e", func := "loop.example/g03406/laws.FnExactRenameName", spec := "fnExactRenameName", apart := false, narrowed := true }
def FnExactRenameNameUptoSaid : Prop := fnExactRenameNameUptoRow.holds Try.pinned (OpenSpec.upto fnExactRenameNameSpec)

/-- 'laws.FnExactFormatTree', WHERE WHAT IT READS IS OF BULK AT MOST 1048576: true; the input reads as it did. -/
def fnExactFormatTreeUptoRow : OpenClaim := { program := "ytfdpkdfmkedkmaa", sum := "7a25c9c74b1cebcaee6e301da64f831b0aa9ab84c5ff941d51b347356874191e", func := "loop.example/g03406/laws.FnExactFormatTree", spec := "fnExactFormatTree", recurses := true, apart := false, narrowed := true }
def FnExactFormatTreeUptoSaid : Prop := fnExactFormatTreeUptoRow.holds Try.pinned (OpenSpec.upto fnExactFormatTreeSpec)

end Rows
end Go.Proofs.Ytfdpkdfmkedkmaa
