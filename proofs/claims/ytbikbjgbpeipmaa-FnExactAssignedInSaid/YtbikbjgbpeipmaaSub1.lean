/- Subtrees: where they start; the roots of the kids. Plain. -/
import Derived.Test.YtbikbjgbpeipmaaTree5
namespace Go.Proofs.Ytbikbjgbpeipmaa
open Go.RowKit
set_option linter.unusedVariables false
set_option linter.unusedSimpArgs false
set_option maxRecDepth 100000

def lenT (t : List Nod) (j : Nat) : Nat := match stkT t j with | some s => s.length | none => 0
theorem tree_all {t : List Nod} (h : treeB t = true) {j : Nat} (hj : j ≤ t.length) : ∃ s, stkT t j = some s := by
  cases h' : stkT t j with
  | some s => exact ⟨s, rfl⟩
  | none =>
    unfold treeB at h
    rw [stkT_none h' hj] at h
    simp at h
theorem tree_len {t : List Nod} (h : treeB t = true) : 1 ≤ t.length ∧ t.length ≤ 200 := by
  unfold treeB at h
  simp only [Bool.and_eq_true, decide_eq_true_eq] at h
  exact h.1
theorem lenT_0 (t : List Nod) : lenT t 0 = 0 := rfl
theorem lenT_le (t : List Nod) (j : Nat) : lenT t j ≤ j := by
  unfold lenT
  cases h : stkT t j with
  | none => exact Nat.zero_le _
  | some s => exact (stkT_inv h).1
theorem lenT_step {t : List Nod} (h : treeB t = true) {j : Nat} (hj : j < t.length) : ∃ k : Nat, (t.getD j default).kids = (k : Int) ∧ k ≤ lenT t j ∧ lenT t (j + 1) + k = lenT t j + 1 ∧ nB (t.getD j default) = true := by
  obtain ⟨s, hs⟩ := tree_all h (Nat.le_of_lt hj)
  obtain ⟨s', hs'⟩ := tree_all h (j := j + 1) hj
  have hs2 := hs'
  simp only [stkT, hs] at hs2
  unfold stepT at hs2
  split at hs2
  · cases hs2
  · rename_i hb
    split at hs2
    · injection hs2 with hs2
      unfold badT at hb
      simp only [Bool.not_eq_true, Bool.or_eq_false_iff, Bool.not_eq_false', decide_eq_false_iff_not] at hb
      obtain ⟨hb1, hb2, -⟩ := hb
      have hk0 := nB_kids hb1
      obtain ⟨k, hk⟩ := Int.eq_ofNat_of_zero_le hk0
      refine ⟨k, hk, ?_, ?_, hb1⟩
      · unfold lenT; rw [hs]; simp only; omega
      · unfold lenT; rw [hs, hs']; simp only
        rw [← hs2, hk, List.length_append, List.length_take]
        simp; omega
    · cases hs2
theorem lenT_pos {t : List Nod} (h : treeB t = true) {j : Nat} (hj : j < t.length) : 1 ≤ lenT t (j + 1) := by
  obtain ⟨k, -, h1, h2, -⟩ := lenT_step h hj
  omega
def stF (L : Nat → Nat) (c : Nat) : Nat → Nat
  | 0 => 0
  | j + 1 => if L (j + 1) + 1 = c then j + 1 else stF L c j
theorem stF_le (L : Nat → Nat) (c : Nat) : ∀ j, stF L c j ≤ j
  | 0 => Nat.le_refl _
  | j + 1 => by
    unfold stF
    split
    · exact Nat.le_refl _
    · have := stF_le L c j; omega
theorem stF_hit {L : Nat → Nat} {c j : Nat} (h : L j + 1 = c) : stF L c j = j := by
  cases j with
  | zero => rfl
  | succ j => unfold stF; rw [if_pos h]
theorem stF_miss {L : Nat → Nat} {c j : Nat} (h : L j + 1 ≠ c) : stF L c j = stF L c (j - 1) := by
  cases j with
  | zero => rfl
  | succ j => rw [stF, if_neg h]; rfl
def startT (t : List Nod) (i : Nat) : Nat := stF (lenT t) (lenT t (i + 1)) i
theorem startT_le (t : List Nod) (i : Nat) : startT t i ≤ i := stF_le _ _ _
theorem stF_at {t : List Nod} (h : treeB t = true) {c : Nat} (hc : 1 ≤ c) : ∀ {j : Nat}, j < t.length → c ≤ lenT t (j + 1) → lenT t (stF (lenT t) c j) + 1 = c
  | 0, hj, hl => by
    obtain ⟨k, h1, h2, h3, -⟩ := lenT_step h hj
    rw [lenT_0] at h2 h3
    simp only [stF, lenT_0]; omega
  | j + 1, hj, hl => by
    by_cases he : lenT t (j + 1) + 1 = c
    · rw [stF_hit he]; exact he
    · rw [stF_miss he]
      obtain ⟨k, h1, h2, h3, -⟩ := lenT_step h hj
      exact stF_at h hc (j := j) (by omega) (by omega)
theorem startT_len {t : List Nod} (h : treeB t = true) {i : Nat} (hi : i < t.length) : lenT t (startT t i) + 1 = lenT t (i + 1) := stF_at h (lenT_pos h hi) hi (Nat.le_refl _)

/-- the roots of the last n subtrees that end ahead of e -/
def rootsT (t : List Nod) : Nat → Nat → List Int
  | _, 0 => []
  | e, n + 1 => rootsT t (startT t (e - 1)) n ++ [((e - 1 : Nat) : Int)]
def kidsT (t : List Nod) (i : Nat) : List Int := rootsT t i (t.getD i default).kids.toNat
theorem rootsT_len (t : List Nod) : ∀ e n, (rootsT t e n).length = n
  | _, 0 => rfl
  | e, n + 1 => by rw [rootsT, List.length_append, rootsT_len t]; rfl
theorem rootsT_mem {t : List Nod} (h : treeB t = true) : ∀ {e n : Nat}, e ≤ t.length → n ≤ lenT t e → ∀ x ∈ rootsT t e n, 0 ≤ x ∧ x < (e : Int)
  | e, 0, _, _, x, hx => by simp [rootsT] at hx
  | e, n + 1, he, hn, x, hx => by
    have h0 : e ≠ 0 := by rintro rfl; rw [lenT_0] at hn; omega
    obtain ⟨e, rfl⟩ := Nat.exists_eq_succ_of_ne_zero h0
    rw [rootsT, Nat.succ_sub_one] at hx
    simp only [Nat.succ_eq_add_one] at he hn ⊢
    have h1 := startT_len h (i := e) (by omega)
    have h2 := startT_le t e
    rcases List.mem_append.1 hx with hx | hx
    · have := rootsT_mem h (e := startT t e) (n := n) (by omega) (by omega) x hx
      omega
    · rw [List.mem_singleton.1 hx]; omega
theorem kidsT_mem {t : List Nod} (h : treeB t = true) {i : Nat} (hi : i < t.length) : ∀ x ∈ kidsT t i, 0 ≤ x ∧ x < (i : Int) := by
  obtain ⟨k, h1, h2, -, -⟩ := lenT_step h hi
  unfold kidsT
  rw [h1]
  exact rootsT_mem h (by omega) h2
theorem kidsT_len {t : List Nod} {i k : Nat} (hk : (t.getD i default).kids = (k : Int)) : (kidsT t i).length = k := by
  unfold kidsT
  rw [hk, rootsT_len]; rfl
def subT (t : List Nod) (i : Nat) : List Nod := (t.drop (startT t i)).take (i + 1 - startT t i)
end Go.Proofs.Ytbikbjgbpeipmaa
