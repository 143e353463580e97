/- Bounds of marks of nodes. -/
import Derived.Test.YtbikbjgbpeipmaaNodM
namespace Go.Proofs.Ytbikbjgbpeipmaa
open Go.RowKit
theorem sumOf_wNd : ∀ (l : List Nod), sumOf wNd l ≤ 4 * wtNods l
  | [] => by simp [sumOf]
  | x :: l => by
    have ih := sumOf_wNd l
    have h1 : x.labels.length ≤ wtSs x.labels := wtSs_len (Nat.le_refl _)
    have h2 : wtNod x = x.text.size + wtSs x.labels := rfl
    have h3 : wNd x = 4 + x.labels.length := rfl
    simp only [sumOf, wtNods, List.length_cons] at ih ⊢
    omega
end Go.Proofs.Ytbikbjgbpeipmaa
