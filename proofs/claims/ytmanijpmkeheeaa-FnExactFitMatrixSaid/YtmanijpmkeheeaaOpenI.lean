/- Reading an argument of type []Item. -/
import Derived.Test.YtmanijpmkeheeaaOpenE
namespace Go.Proofs.Ytmanijpmkeheeaa
open Go.RowKit
set_option linter.unusedVariables false
set_option linter.unusedSimpArgs false
set_option maxRecDepth 100000

/-- an argument of type []laws.Item -/
theorem arg_its {H : Type} {enc : TypeId × Value → H} {w : World} {base b : Nat} {spare : Nat → Bool} {held : Bool} {v : Value} {d : DataW H} {p : List MemPlace} (h : DataW.Trod enc Try.prog w b spare held 22 v d p) (ok : Value.okWide Try.prog w .any base 22 v) :
    ∃ (l : List It) (f : List Nat), ArgR w (· ∈ f) v (false, [.sl 89 3 (l.map encIt)]) ∧ (∀ c ∈ f, c < w.heap.size) ∧ l.length ≤ 9223372036854775807 ∧ (∀ x ∈ l, ItOk x) := by
  obtain ⟨fuel, hf⟩ := h
  obtain ⟨l, f, A, nn, cp, h2, i2⟩ := opens_items H enc w b spare held fuel _ _ hf
  obtain ⟨x0, x1, x2, rfl⟩ := Go.WideShapes.okWide_slice Try.underlying22 ok
  simp [Value.cells] at h2
  obtain ⟨rfl, rfl, rfl⟩ := h2
  obtain ⟨r1, r2, r3⟩ := slr_rep 89 i2
  exact ⟨l, f, r1, i2.lt, r2, r3⟩

end Go.Proofs.Ytmanijpmkeheeaa
