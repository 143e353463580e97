/- Rows that are filled from the left; what is left of a size. No program here. -/
import Derived.Test.YtgmpajfhjnojiaaMem
namespace Go.Proofs.Ytgmpajfhjnojiaa
open Go.RowKit
set_option linter.unusedVariables false
set_option linter.unusedSimpArgs false

/-- what is left, or -1 -/
def szF (left : Int) (wt : Nat) : Int := if (wt : Int) ≤ left then left - wt else -1
theorem szF_le {left : Int} {wt : Nat} (h : (wt : Int) ≤ left) : szF left wt = left - wt := if_pos h
theorem szF_gt {left : Int} {wt : Nat} (h : left < wt) : szF left wt = -1 := if_neg (by omega)
/-- rows that are filled from the left -/
def fillL {α : Type} (l : List α) (k : Nat) (z : α) : List α := l.take k ++ List.replicate (l.length - k) z
theorem fillL_len {α : Type} {l : List α} {k : Nat} {z : α} (h : k ≤ l.length) : (fillL l k z).length = l.length := by simp [fillL]; omega
theorem fillL_get {α : Type} {l : List α} {k : Nat} {z : α} (h : k < l.length) : (fillL l k z)[k]? = some z := by
  unfold fillL
  rw [List.getElem?_append_right (by simp; omega), List.length_take, Nat.min_eq_left (by omega), Nat.sub_self, List.getElem?_replicate, if_pos (by omega)]
theorem fillL_set {α : Type} {l : List α} {k : Nat} {x z : α} (h : l[k]? = some x) : (fillL l k z).set k x = fillL l (k + 1) z := by
  have hk : k < l.length := (List.getElem?_eq_some_iff.1 h).1
  apply List.ext_getElem?
  intro j
  rw [List.getElem?_set]
  unfold fillL
  by_cases hj : k = j
  · subst hj
    rw [if_pos rfl, if_pos (by simp; omega), List.getElem?_append_left (by simp; omega)]
    rw [List.getElem?_take, if_pos (by omega), h]
  · rw [if_neg hj]
    by_cases hlt : j < k
    · rw [List.getElem?_append_left (by simp; omega), List.getElem?_append_left (by simp; omega), List.getElem?_take, List.getElem?_take, if_pos hlt, if_pos (by omega)]
    · rw [List.getElem?_append_right (by simp; omega), List.getElem?_append_right (by simp; omega)]
      simp only [List.length_take, List.getElem?_replicate]
      have e1 : (j - min k l.length < l.length - k) ↔ (j - min (k + 1) l.length < l.length - (k + 1)) := by omega
      by_cases h2 : j - min k l.length < l.length - k
      · rw [if_pos h2, if_pos (e1.1 h2)]
      · rw [if_neg h2, if_neg (fun h => h2 (e1.2 h))]
theorem fillL_end {α : Type} (l : List α) (z : α) : fillL l l.length z = l := by simp [fillL]
end Go.Proofs.Ytgmpajfhjnojiaa
