/- Arguments of type []laws.Item, laws.Item, laws.Matrix. -/
import Derived.Test.YtmanijpmkeheeaaOpen
import Derived.Test.YtmanijpmkeheeaaGN
namespace Go.Proofs.Ytmanijpmkeheeaa
open Go.RowKit Go.ChangeShapes Go.WideShapes Go.Deep
set_option linter.unusedVariables false
set_option linter.unusedSimpArgs false

theorem opens_item : Opens Lay.item Try.prog 89 := by
  intro H enc w base spare held fuel cs x h
  obtain ⟨hl, n, hf⟩ := open_fields Try.underlying89 (by kernel_rfl) (by kernel_rfl) h
  match cs, hl with
  | [u0, u1, u2], _ =>
    obtain ⟨v0, y0, e0, t0⟩ := hf 0 _ rfl
    obtain ⟨v1, y1, e1, t1⟩ := hf 1 _ rfl
    obtain ⟨v2, y2, e2, t2⟩ := hf 2 _ rfl
    simp at e0 e1 e2
    subst e0 e1 e2
    obtain ⟨a0, f0, -, h0, i0⟩ := opens_int Try.underlying3 H enc w base spare held n _ _ t0
    obtain ⟨a1, f1, -, h1, i1⟩ := opens_int Try.underlying3 H enc w base spare held n _ _ t1
    obtain ⟨a2, f2, -, h2, i2⟩ := opens_str Try.underlying9 H enc w base spare held n _ _ t2
    simp at h0 h1 h2
    subst h0 h1 h2
    exact ⟨⟨a0, a1, a2⟩, [], rfl, rfl, i0, i1, i2⟩

theorem opens_items : Opens (Lay.slice Lay.item) Try.prog 22 := opens_slice Try.underlying22 (by kernel_rfl) opens_item
end Go.Proofs.Ytmanijpmkeheeaa
