/- An argument of type []laws.Node. -/
import Derived.Test.YteninkofmmglbaaOpen
import Derived.Test.YteninkofmmglbaaNode
namespace Go.Proofs.Yteninkofmmglbaa
open Go.RowKit Go.ChangeShapes Go.WideShapes Go.Deep
set_option linter.unusedVariables false
set_option linter.unusedSimpArgs false

theorem opens_node : Opens Lay.node Try.prog 44 := by
  intro H enc w base spare held fuel cs x h
  obtain ⟨hl, n, hf⟩ := open_fields Try.underlying44 (by kernel_rfl) (by kernel_rfl) h
  match cs, hl with
  | [u0, u1, u2, u3, u4], _ =>
    obtain ⟨v0, y0, e0, t0⟩ := hf 0 _ rfl
    obtain ⟨v1, y1, e1, t1⟩ := hf 1 _ rfl
    obtain ⟨v2, y2, e2, t2⟩ := hf 2 _ rfl
    obtain ⟨v3, y3, e3, t3⟩ := hf 3 _ rfl
    obtain ⟨v4, y4, e4, t4⟩ := hf 4 _ rfl
    simp at e0 e1 e2 e3 e4
    subst e0 e1 e2 e3 e4
    obtain ⟨a0, f0, -, h0, i0⟩ := opens_int Try.underlying3 H enc w base spare held n _ _ t0
    obtain ⟨a1, f1, -, h1, i1⟩ := opens_int Try.underlying3 H enc w base spare held n _ _ t1
    obtain ⟨a2, f2, -, h2, i2⟩ := opens_str Try.underlying9 H enc w base spare held n _ _ t2
    obtain ⟨a3, f3, A, m, c, h3, i3⟩ := opens_slice Try.underlying30 (by kernel_rfl) (opens_str Try.underlying9) H enc w base spare held n _ _ t3
    obtain ⟨a4, f4, -, h4, i4⟩ := opens_int Try.underlying3 H enc w base spare held n _ _ t4
    simp at h0 h1 h2 h3 h4
    subst h0 h1 h2 h3 h4
    exact ⟨⟨a0, a1, a2, a3, a4⟩, f3, A, m, c, rfl, i3, i0, i1, i4, i2⟩

theorem opens_nodes : Opens (Lay.slice Lay.node) Try.prog 22 := opens_slice Try.underlying22 (by kernel_rfl) opens_node
end Go.Proofs.Yteninkofmmglbaa
