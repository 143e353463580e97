/- spec.MatchArguments. -/
import Derived.Test.YtmbjaohohkfjbaaMatch
namespace Go.Proofs.Ytmbjaohohkfjbaa
open Go.RowKit
set_option linter.unusedVariables false
set_option linter.unusedSimpArgs false
set_option maxRecDepth 100000

def resM (x : List Int × List Int × ByteArray) : List Rs := [(false, [encZs x.1], true), (false, [encZs x.2.1], true), (false, [.sc (.string x.2.2)], true)]
theorem matchA_e0 {F L : List ByteArray} {i : Nat} (h : i < F.length) (hv : vF F i = false) : matchA F L = ([], [], e0S) := by
  unfold matchA; rw [allB_no h hv]; rfl
theorem M1_inl {F L : List ByteArray} {e : ByteArray} {a b : Nat} (h : M1 F L a = .inl e) (hb : a ≤ b) : M1 F L b = .inl e := itS_inl (step := step1 F L (dI F F.length)) h hb
theorem M2_inl {F L : List ByteArray} {ex : List Int} {e : ByteArray} {a b : Nat} (h : M2 F L ex a = .inl e) (hb : a ≤ b) : M2 F L ex b = .inl e := itS_inl (step := step2 F L (dI F F.length) ex) h hb
theorem M3_inl {F L : List ByteArray} {mt : List Int} {e : ByteArray} {a b : Nat} (h : M3 F L mt a = .inl e) (hb : a ≤ b) : M3 F L mt b = .inl e := itS_inl (step := step3 L F.length (dI F F.length)) h hb
theorem dI_le (F : List ByteArray) : ∀ i, i ≤ F.length → dI F i ≤ F.length
  | 0, _ => Nat.le_refl _
  | i + 1, h => by
    have := dI_le F i (by omega)
    unfold dI; split <;> omega
theorem cC_mono {F : List ByteArray} {s : ByteArray} {ex : List Int} {i : Nat} : ∀ {D}, i ≤ D → (cC F s ex i).1 ≤ (cC F s ex D).1
  | 0, h => by obtain rfl : i = 0 := by omega
               exact Nat.le_refl _
  | D + 1, h => by
    rcases Nat.lt_or_ge i (D + 1) with h1 | h1
    · have := cC_mono (F := F) (s := s) (ex := ex) (i := i) (D := D) (by omega)
      conv => rhs; unfold cC
      split
      · simp only; omega
      · exact this
    · obtain rfl : i = D + 1 := by omega
      exact Nat.le_refl _
theorem cC_at {F : List ByteArray} {s : ByteArray} {ex : List Int} : ∀ i, ((cC F s ex i).1 = 0 ∧ (cC F s ex i).2 = -1) ∨ (0 < (cC F s ex i).1 ∧ 0 ≤ (cC F s ex i).2 ∧ (cC F s ex i).2 < i)
  | 0 => .inl ⟨rfl, rfl⟩
  | i + 1 => by
    have := cC_at (F := F) (s := s) (ex := ex) i
    unfold cC
    split
    · right; simp only; omega
    · omega
theorem getD_set_ne {α : Type} {l : List α} {i k : Nat} {x d : α} (h : k ≠ i) : (l.set i x).getD k d = l.getD k d := by
  rw [List.getD_eq_getElem?_getD, List.getElem?_set, if_neg (fun e => h e.symm), List.getD_eq_getElem?_getD]
theorem rep_z (n : Nat) : (List.replicate n (-1 : Int)).map encZ ++ [[.sc (.int .i64 (-1))]] = (List.replicate (n + 1) (-1 : Int)).map encZ := by
  rw [List.replicate_succ', List.map_append]; rfl
end Go.Proofs.Ytmbjaohohkfjbaa
