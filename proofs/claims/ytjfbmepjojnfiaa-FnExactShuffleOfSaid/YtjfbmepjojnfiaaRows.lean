/-
  No cell of these rows narrows 'for every input' (looked for: loops, veiled, ifaces, maps, wideKeys, modest, calm, conditions, laid).
  DERIVED. THE GIVEN ROWS OF THIS SEAT. 5 by the template 'for every input the law returns true; each argument reads behind the call as it read before'; 0 by the template 'total and deterministic' (their statements: YtjfbmepjojnfiaaTotals.lean).
  GIVEN WITH THE SEED: the statements are not yours to turn. If you find one false, say at which input.
  Laid BY PROGRAM, IN A SANDBOX (cutbox-rows.mjs): the forced cells as the released guide's own fill.sh prints them over the translation 1c2a5d4fd532fee1… (all of the seat's roots in one cut). By AI agents, Wed Nov 11 2026. No macro, syntax, notation, axiom, sorry.
-/
import Derived.Test.YtjfbmepjojnfiaaChecked
import GoSem.Claim
import GoSem.ClaimJoined
import GoSem.ClaimMapViews
import Derived.JoinedTies
import Derived.KernelRfl
namespace Go.Proofs.Ytjfbmepjojnfiaa
/- THE CELL 'sum', in the pinned program and in every row, IS THE sha256 OF THE DUMP (.gsa) THAT YtjfbmepjojnfiaaProg.lean LOADS. Nothing in Lean hashes anything: it is a label: what it is worth is what the hold of that sum in a sandbox is worth. -/
noncomputable def Try.pinned : Pinned := { name := "ytjfbmepjojnfiaa", sum := "1c2a5d4fd532fee14aff3cfd509330f7f66071ed991e09e8638b1e78608c7c40", checked := Try.checked }
namespace Rows
def none {H : Type} : Left H := { results := [], args := [] }

/-- 'laws.FnExactNextState': WHATEVER THE INPUT: true; the input reads as it did. -/
def fnExactNextStateSpec : ChangeSpec := { name := "fnExactNextState", fn := fun _ => fun
  | [d] => { results := [.lit (.bool true)], args := [d] }
  | _ => none }
def fnExactNextStateRow : OpenClaim := { program := "ytjfbmepjojnfiaa", sum := "1c2a5d4fd532fee14aff3cfd509330f7f66071ed991e09e8638b1e78608c7c40", func := "loop.example/g03406/laws.FnExactNextState", spec := "fnExactNextState", apart := false }
def FnExactNextStateSaid : Prop := fnExactNextStateRow.holds Try.pinned (OpenSpec.ofChange fnExactNextStateSpec)

/-- ITS FALSE NEIGHBOUR: 'it returns false'. Refute it at one input. -/
def fnExactNextStateWrong : ChangeSpec := { name := "fnExactNextState", fn := fun _ => fun
  | [d] => { results := [.lit (.bool false)], args := [d] }
  | _ => none }
def FnExactNextStateWrongFalsely : Prop := fnExactNextStateRow.holds Try.pinned (OpenSpec.ofChange fnExactNextStateWrong)

/-- 'laws.FnExactBelowOf': WHATEVER THE INPUT: true; the input reads as it did. -/
def fnExactBelowOfSpec : ChangeSpec := { name := "fnExactBelowOf", fn := fun _ => fun
  | [d1, d2] => { results := [.lit (.bool true)], args := [d1, d2] }
  | _ => none }
def fnExactBelowOfRow : OpenClaim := { program := "ytjfbmepjojnfiaa", sum := "1c2a5d4fd532fee14aff3cfd509330f7f66071ed991e09e8638b1e78608c7c40", func := "loop.example/g03406/laws.FnExactBelowOf", spec := "fnExactBelowOf", apart := false }
def FnExactBelowOfSaid : Prop := fnExactBelowOfRow.holds Try.pinned (OpenSpec.ofChange fnExactBelowOfSpec)

/-- ITS FALSE NEIGHBOUR: 'it returns false'. Refute it at one input. -/
def fnExactBelowOfWrong : ChangeSpec := { name := "fnExactBelowOf", fn := fun _ => fun
  | [d1, d2] => { results := [.lit (.bool false)], args := [d1, d2] }
  | _ => none }
def FnExactBelowOfWrongFalsely : Prop := fnExactBelowOfRow.holds Try.pinned (OpenSpec.ofChange fnExactBelowOfWrong)

/-- 'laws.FnExactSkipState': WHATEVER THE INPUT: true; the input reads as it did. -/
def fnExactSkipStateSpec : ChangeSpec := { name := "fnExactSkipState", fn := fun _ => fun
  | [d1, d2] => { results := [.lit (.bool true)], args := [d1, d2] }
  | _ => none }
def fnExactSkipStateRow : OpenClaim := { program := "ytjfbmepjojnfiaa", sum := "1c2a5d4fd532fee14aff3cfd509330f7f66071ed991e09e8638b1e78608c7c40", func := "loop.example/g03406/laws.FnExactSkipState", spec := "fnExactSkipState", apart := false }
def FnExactSkipStateSaid : Prop := fnExactSkipStateRow.holds Try.pinned (OpenSpec.ofChange fnExactSkipStateSpec)

/-- ITS FALSE NEIGHBOUR: 'it returns false'. Refute it at one input. -/
def fnExactSkipStateWrong : ChangeSpec := { name := "fnExactSkipState", fn := fun _ => fun
  | [d1, d2] => { results := [.lit (.bool false)], args := [d1, d2] }
  | _ => none }
def FnExactSkipStateWrongFalsely : Prop := fnExactSkipStateRow.holds Try.pinned (OpenSpec.ofChange fnExactSkipStateWrong)

/-- 'laws.FnExactShuffleOf': WHATEVER THE INPUT: true; the input reads as it did. -/
def fnExactShuffleOfSpec : ChangeSpec := { name := "fnExactShuffleOf", fn := fun _ => fun
  | [d1, d2] => { results := [.lit (.bool true)], args := [d1, d2] }
  | _ => none }
def fnExactShuffleOfRow : OpenClaim := { program := "ytjfbmepjojnfiaa", sum := "1c2a5d4fd532fee14aff3cfd509330f7f66071ed991e09e8638b1e78608c7c40", func := "loop.example/g03406/laws.FnExactShuffleOf", spec := "fnExactShuffleOf", apart := false }
def FnExactShuffleOfSaid : Prop := fnExactShuffleOfRow.holds Try.pinned (OpenSpec.ofChange fnExactShuffleOfSpec)

/-- ITS FALSE NEIGHBOUR: 'it returns false'. Refute it at one input. -/
def fnExactShuffleOfWrong : ChangeSpec := { name := "fnExactShuffleOf", fn := fun _ => fun
  | [d1, d2] => { results := [.lit (.bool false)], args := [d1, d2] }
  | _ => none }
def FnExactShuffleOfWrongFalsely : Prop := fnExactShuffleOfRow.holds Try.pinned (OpenSpec.ofChange fnExactShuffleOfWrong)

/-- 'laws.FnExactSampleOf': WHATEVER THE INPUT: true; the input reads as it did. -/
def fnExactSampleOfSpec : ChangeSpec := { name := "fnExactSampleOf", fn := fun _ => fun
  | [d1, d2, d3] => { results := [.lit (.bool true)], args := [d1, d2, d3] }
  | _ => none }
def fnExactSampleOfRow : OpenClaim := { program := "ytjfbmepjojnfiaa", sum := "1c2a5d4fd532fee14aff3cfd509330f7f66071ed991e09e8638b1e78608c7c40", func := "loop.example/g03406/laws.FnExactSampleOf", spec := "fnExactSampleOf", apart := false }
def FnExactSampleOfSaid : Prop := fnExactSampleOfRow.holds Try.pinned (OpenSpec.ofChange fnExactSampleOfSpec)

/-- ITS FALSE NEIGHBOUR: 'it returns false'. Refute it at one input. -/
def fnExactSampleOfWrong : ChangeSpec := { name := "fnExactSampleOf", fn := fun _ => fun
  | [d1, d2, d3] => { results := [.lit (.bool false)], args := [d1, d2, d3] }
  | _ => none }
def FnExactSampleOfWrongFalsely : Prop := fnExactSampleOfRow.holds Try.pinned (OpenSpec.ofChange fnExactSampleOfWrong)

/- THE SECOND FORM. 'bulk': how many values and letters a reading holds, each counted each time it is reached (what is shared counts as often as it is met; a slice's spare places count too). A statement '..UptoSaid' is the law's where the arguments, and the package variables that the reading takes, are together of bulk at most 1048576: NARROWER than '..Said'. Prove '..Said' where nothing that the law and all that it calls make is longer than what came in: it says more and counts as full. Else prove '..UptoSaid'. A law counts once. -/
mutual
def uptoBulk {H : Type} : DataW H → Nat
  | .lit (.string bytes) => bytes.length + 1
  | .lit _ => 1
  | .nil => 1
  | .ptr d => uptoBulk d + 1
  | .slice elems spare => uptoBulkAll elems + uptoBulkAll spare + 1
  | .agg parts => uptoBulkAll parts + 1
  | .iface _ d => uptoBulk d + 1
  | .map entries => uptoBulkEntries entries + 1
  | .held _ => 1
def uptoBulkAll {H : Type} : List (DataW H) → Nat
  | [] => 0
  | d :: r => uptoBulk d + uptoBulkAll r
def uptoBulkEntries {H : Type} : List (Lit × DataW H) → Nat
  | [] => 0
  | x :: r => uptoBulkEntry x + uptoBulkEntries r
def uptoBulkEntry {H : Type} : Lit × DataW H → Nat
  | (.string bytes, d) => bytes.length + uptoBulk d + 1
  | (_, d) => uptoBulk d + 1
 end
def uptoSmall : (H : Type) → List (DataW H) → Bool := fun _ ds => decide (uptoBulkAll ds ≤ 1048576)
def OpenSpec.upto (s : _root_.Go.ChangeSpec) : _root_.Go.OpenSpec := { _root_.Go.OpenSpec.ofChange s with cond := some uptoSmall }

/-- 'laws.FnExactNextState', WHERE WHAT IT READS IS OF BULK AT MOST 1048576: true; the input reads as it did. -/
def fnExactNextStateUptoRow : OpenClaim := { program := "ytjfbmepjojnfiaa", sum := "1c2a5d4fd532fee14aff3cfd509330f7f66071ed991e09e8638b1e78608c7c40", func := "loop.example/g03406/laws.FnExactNextState", spec := "fnExactNextState", apart := false, narrowed := true }
def FnExactNextStateUptoSaid : Prop := fnExactNextStateUptoRow.holds Try.pinned (OpenSpec.upto fnExactNextStateSpec)

/-- 'laws.FnExactBelowOf', WHERE WHAT IT READS IS OF BULK AT MOST 1048576: true; the input reads as it did. -/
def fnExactBelowOfUptoRow : OpenClaim := { program := "ytjfbmepjojnfiaa", sum := "1c2a5d4fd532fee14aff3cfd509330f7f66071ed991e09e8638b1e78608c7c40", func := "loop.example/g03406/laws.FnExactBelowOf", spec := "fnExactBelowOf", apart := false, narrowed := true }
def FnExactBelowOfUptoSaid : Prop := fnExactBelowOfUptoRow.holds Try.pinned (OpenSpec.upto fnExactBelowOfSpec)

/-- 'laws.FnExactSkipState', WHERE WHAT IT READS IS OF BULK AT MOST 1048576: true; the input reads as it did. -/
def fnExactSkipStateUptoRow : OpenClaim := { program := "ytjfbmepjojnfiaa", sum := "1c2a5d4fd532fee14aff3cfd509330f7f66071ed991e09e8638b1e78608c7c40", func := "loop.example/g03406/laws.FnExactSkipState", spec := "fnExactSkipState", apart := false, narrowed := true }
def FnExactSkipStateUptoSaid : Prop := fnExactSkipStateUptoRow.holds Try.pinned (OpenSpec.upto fnExactSkipStateSpec)

/-- 'laws.FnExactShuffleOf', WHERE WHAT IT READS IS OF BULK AT MOST 1048576: true; the input reads as it did. -/
def fnExactShuffleOfUptoRow : OpenClaim := { program := "ytjfbmepjojnfiaa", sum := "1c2a5d4fd532fee14aff3cfd509330f7f66071ed991e09e8638b1e78608c7c40", func := "loop.example/g03406/laws.FnExactShuffleOf", spec := "fnExactShuffleOf", apart := false, narrowed := true }
def FnExactShuffleOfUptoSaid : Prop := fnExactShuffleOfUptoRow.holds Try.pinned (OpenSpec.upto fnExactShuffleOfSpec)

/-- 'laws.FnExactSampleOf', WHERE WHAT IT READS IS OF BULK AT MOST 1048576: true; the input reads as it did. -/
def fnExactSampleOfUptoRow : OpenClaim := { program := "ytjfbmepjojnfiaa", sum := "1c2a5d4fd532fee14aff3cfd509330f7f66071ed991e09e8638b1e78608c7c40", func := "loop.example/g03406/laws.FnExactSampleOf", spec := "fnExactSampleOf", apart := false, narrowed := true }
def FnExactSampleOfUptoSaid : Prop := fnExactSampleOfUptoRow.holds Try.pinned (OpenSpec.upto fnExactSampleOfSpec)

end Rows
end Go.Proofs.Ytjfbmepjojnfiaa
