/- spec.l1In. -/
import Derived.Test.YtolkglnkdfcceaaProg
import Derived.Test.YtolkglnkdfcceaaMem
namespace Go.Proofs.Ytolkglnkdfcceaa
open Go.RowKit
set_option linter.unusedVariables false
set_option linter.unusedSimpArgs false

theorem in_any (x lo hi : Int) (w : World) :
    Calls Try.prog 33 #[.int .i64 x, .int .i64 lo, .int .i64 hi] w fun e w' => e = .returned (.bool (decide (lo ≤ x ∧ x ≤ hi))) ∧ w = w' := by
  by_cases h1 : lo ≤ x
  · by_cases h2 : x ≤ hi
    · go_enter Try.func33, Try.ntmps33
      go_wp2
      go_ret
      exact ⟨by simp [h1, h2], rfl⟩
    · go_enter Try.func33, Try.ntmps33
      go_wp2
      go_ret
      exact ⟨by simp [h2], rfl⟩
  · go_enter Try.func33, Try.ntmps33
    go_wp2
    go_ret
    exact ⟨by simp; omega, rfl⟩
theorem in_b (x lo hi : Int) (b : Bool) (w : World) (h : decide (lo ≤ x ∧ x ≤ hi) = b) :
    Calls Try.prog 33 #[.int .i64 x, .int .i64 lo, .int .i64 hi] w fun e w' => e = .returned (.bool b) ∧ w = w' := by
  subst h; exact in_any x lo hi w

end Go.Proofs.Ytolkglnkdfcceaa
