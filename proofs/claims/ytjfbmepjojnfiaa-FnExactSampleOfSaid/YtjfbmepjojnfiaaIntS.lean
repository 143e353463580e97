/- laws.eqIntS, markIntS, heldIntS: contracts. -/
import Derived.Test.YtjfbmepjojnfiaaProg
import Derived.Test.YtjfbmepjojnfiaaMem
namespace Go.Proofs.Ytjfbmepjojnfiaa
open Go.RowKit
set_option linter.unusedVariables false
set_option linter.unusedSimpArgs false

theorem ret_i {k : IntKind} {a b : Int} (h : a = b) : Ending.returned (.int k a) = .returned (.int k b) := by rw [h]

/-- the marks k, k + 1, .. -/
def marks (k : Int) (n : Nat) : List Int := (List.range n).map fun j : Nat => k + (j : Int)
theorem marks_len (k : Int) (n : Nat) : (marks k n).length = n := by simp [marks]
theorem marks_get (k : Int) (n j : Nat) (h : j < n) : (marks k n)[j]'(by rw [marks_len]; exact h) = k + j := by simp [marks]

theorem eqIntS_same (A B : Option Addr) (n c d : Nat) (zs : List Int) (w : World) (S T : Nat → Prop) (ha : Rd w S 1 A n c (ints zs)) (hb : Rd w T 1 B n d (ints zs)) :
    Calls Try.prog 16 #[.slice A n c, .slice B n d] w fun e w' => e = .returned (.bool true) ∧ ∃ m, w' = w.drewN m := by
  have hl : zs.length = n := by have := ha.1; rw [ints_len] at this; omega
  have hm : n ≤ 9223372036854775807 := by have := ha.2.1; have := ha.2.2.1; unfold maxLen at *; omega
  go_enter Try.func16, Try.ntmps16
  go_wp2
  go_loopw [5] (fun i wr => ∃ k m : Nat, k ≤ n ∧ i = .int .i64 k ∧ wr = w.drewN m) (fun i _ => n - (intOf i).toNat)
  case atStart => exact ⟨0, 0, Nat.zero_le _, rfl, rfl⟩
  case round =>
    obtain ⟨k, m, hk, rfl, rfl⟩ := hrel
    by_cases hlt : k < n
    · obtain ⟨a, rfl, -, hca⟩ := ha.2.2.2 (by omega)
      obtain ⟨b, rfl, -, hcb⟩ := hb.2.2.2 (by omega)
      have c1 := hca k _ (ints_get zs (by omega))
      have c2 := hcb k _ (ints_get zs (by omega))
      generalize hz : zs[k] = z at c1 c2
      clear hca hcb ha hb hz hl
      go_wp2
      go_quiet (fail)
      go_wp2
      go_roundw
      case rel => exact ⟨k + 1, _, by omega, by go_num, rfl⟩
      case measure => simp [intOf]; omega
    · go_wp2
      go_ret
      exact ⟨rfl, m, rfl⟩


def HeldRel (k0 : Int) (n : Nat) (v1 v5 : Value) : Prop := ∃ k : Nat, k ≤ n ∧ v5 = .int .i64 k ∧ v1 = .int .i64 (k0 + k)

theorem heldIntS_same (A : Option Addr) (n c : Nat) (k0 : Int) (w : World) (S : Nat → Prop) (ha : Rd w S 1 A n c (ints (marks k0 n))) (h0 : 0 ≤ k0) (h1 : k0 + n ≤ 4611686018427387904) :
    Calls Try.prog 18 #[.slice A n c, .int .i64 k0] w fun e w' => e = .returned (.int .i64 (k0 + n)) ∧ w = w' := by
  have hm : n ≤ 9223372036854775807 := by have := ha.2.1; have := ha.2.2.1; unfold maxLen at *; omega
  go_enter Try.func18, Try.ntmps18
  go_wp2
  go_loop [1, 5] (HeldRel k0 n) (fun _ i => n - (intOf i).toNat)
  case atStart => exact ⟨0, Nat.zero_le _, rfl, by simp⟩
  case round =>
    obtain ⟨k, hk, rfl, rfl⟩ := hrel
    by_cases hlt : k < n
    · obtain ⟨a, rfl, -, hca⟩ := ha.2.2.2 (by omega)
      have c1 := hca k _ (ints_get _ (by rw [marks_len]; omega))
      rw [marks_get _ _ _ hlt] at c1
      clear hca ha
      go_wp2
      go_round
      case rel => exact ⟨k + 1, by omega, by go_num, by go_num⟩
      case measure => simp [intOf]; omega
    · go_wp2
      go_ret
      exact ⟨ret_i (by omega), rfl⟩

theorem marks_step (zs : List Int) (k0 : Int) (k : Nat) (hk : k < zs.length) :
    ((marks k0 k) ++ zs.drop k).set k (k0 + k) = marks k0 (k + 1) ++ zs.drop (k + 1) := by
  apply List.ext_getElem?
  intro i
  have hl := marks_len k0 k
  have hl1 := marks_len k0 (k + 1)
  by_cases e : i = k
  · subst e
    rw [List.getElem?_set_self (by simp [hl]; omega), List.getElem?_append_left (by omega), List.getElem?_eq_getElem (by omega), marks_get _ _ _ (by omega)]
  · rw [List.getElem?_set_ne (Ne.symm e)]
    by_cases h : i < k
    · rw [List.getElem?_append_left (by omega), List.getElem?_append_left (by omega), List.getElem?_eq_getElem (by omega), List.getElem?_eq_getElem (by omega), marks_get _ _ _ h, marks_get _ _ _ (by omega)]
    · rw [List.getElem?_append_right (by omega), List.getElem?_append_right (by omega), List.getElem?_drop, List.getElem?_drop, hl, hl1]
      congr 1; omega

def MarkRel (k0 : Int) (n : Nat) (w : World) (base : Nat) (A : Option Addr) (c : Nat) (zs : List Int) (v1 v5 : Value) (wr : World) : Prop :=
  ∃ k : Nat, k ≤ n ∧ v5 = .int .i64 k ∧ v1 = .int .i64 (k0 + k) ∧ wr.ownsRow base 3 1 (.slice A n c) n (ints (marks k0 k ++ zs.drop k)) ∧ w.grownBy wr (Value.slice A n c).ownBlock

theorem mark_step {k0 : Int} {n : Nat} {w wr : World} {base g c : Nat} {zs : List Int} {k : Nat} (hk : k < n) (hl : zs.length = n)
    (hown : wr.ownsRow base 3 1 (.slice (some ⟨g, 0, none⟩) n c) n (ints (marks k0 k ++ zs.drop k))) (hg : w.grownBy wr (Value.slice (some ⟨g, 0, none⟩) n c).ownBlock) :
    MarkRel k0 n w base (some ⟨g, 0, none⟩) c zs (.int .i64 (k0 + k + 1)) (.int .i64 ((k : Int) + 1)) (wr.setCell ⟨g, k, none⟩ (.int .i64 (k0 + k))) := by
  have h := hown.stored k (.int .i64 (k0 + k))
  refine ⟨k + 1, hk, rfl, by go_num, ?_, hg.trans h.2⟩
  have h1 := h.1
  rw [ints_set, marks_step _ _ _ (by omega)] at h1
  exact h1

theorem markIntS_any (A : Option Addr) (n c base : Nat) (k0 : Int) (zs : List Int) (w : World) (ha : w.ownsRow base 3 1 (.slice A n c) n (ints zs)) (h0 : 0 ≤ k0) (h1 : k0 + n ≤ 4611686018427387904) :
    Calls Try.prog 17 #[.slice A n c, .int .i64 k0] w fun e w' => e = .returned (.int .i64 (k0 + n)) ∧ w'.ownsRow base 3 1 (.slice A n c) n (ints (marks k0 n)) ∧ w.grownBy w' (Value.slice A n c).ownBlock := by
  have hl : zs.length = n := by have := ha.1; rw [ints_len] at this; omega
  go_enter Try.func17, Try.ntmps17
  go_wp2
  go_loopw [1, 5] (MarkRel k0 n w base A c zs) (fun _ i _ => n - (intOf i).toNat)
  case atStart => exact ⟨0, Nat.zero_le _, rfl, by simp, by simpa [marks] using ha, World.grownBy.refl w _⟩
  case round =>
    obtain ⟨k, hk, rfl, rfl, hown, hg⟩ := hrel
    by_cases hlt : k < n
    · obtain ⟨g, cap, hv, -, -⟩ := hown.form (by omega)
      injection hv with e1 e2 e3
      subst e1 e3
      have R := mark_step hlt hl hown hg
      obtain ⟨z, hc⟩ : ∃ z, wr.cell? ⟨g, k, none⟩ = some (.int .i64 z) := ⟨_, (hown.cellAt k (by omega)).trans (ints_get _ (by simp [marks_len]; omega))⟩
      have hf := hown.frozenAt k
      have HL := Lib.hid hl
      clear hown hg hl ha
      go_wp2
      go_roundw
      case rel => exact R
      case measure => simp [intOf]; omega
    · go_wp2
      go_ret
      obtain rfl : k = n := by omega
      rw [List.drop_of_length_le (by omega), List.append_nil] at hown
      exact ⟨ret_i (by omega), hown, hg⟩
end Go.Proofs.Ytjfbmepjojnfiaa
