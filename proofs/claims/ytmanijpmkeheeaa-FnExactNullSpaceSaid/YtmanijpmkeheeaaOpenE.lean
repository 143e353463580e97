/- Arguments read, whatever blocks they lie in. No program here. -/
import Derived.Test.YtmanijpmkeheeaaOpenD
namespace Go.Proofs.Ytmanijpmkeheeaa
open Go.RowKit
set_option linter.unusedVariables false

theorem ArgR.all {w : World} {f : List Nat} {v : Value} {x : Bool × List DV} (h : ArgR w (· ∈ f) v x) (hf : ∀ c ∈ f, c < w.heap.size) : ArgR w (· < w.heap.size) v x := by
  unfold ArgR at h ⊢
  split
  · rename_i hb; rw [if_pos hb] at h; obtain ⟨vals, h1, h2⟩ := h; exact ⟨vals, h1, h2.mono hf⟩
  · rename_i hb; rw [if_neg hb] at h; exact h.mono hf
theorem run_lawA {P : Program} {f : FuncId} {args : List (Bool × List DV)} {v : Value} (h : Meets P f args [(false, [.sc v], true)]) {w : World} {vs : List Value} (ha : ArgsR w (· < w.heap.size) vs args) :
    Calls P f vs.toArray w fun e w' => e = .returned v ∧ Below w.heap.size w w' := run_law h (fun _ h => h) ha
end Go.Proofs.Ytmanijpmkeheeaa
