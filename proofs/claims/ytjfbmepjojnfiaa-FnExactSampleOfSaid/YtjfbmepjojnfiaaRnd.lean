/- Contracts of the functions of the random generator (l24): what each returns, for every argument. -/
import Derived.Test.YtjfbmepjojnfiaaProg
import Derived.WalkKit
import Derived.Lib.Hide
import Derived.WalkSpells
namespace Go.Proofs.Ytjfbmepjojnfiaa
open Go.RowKit

/-- the state after s -/
def nextS (s : Int) : Int := if 0 ≤ s ∧ s ≤ 65535 then (75 * s + 74) % 65537 else 0

theorem nextS_rng (s : Int) : 0 ≤ nextS s ∧ nextS s ≤ 65536 := by
  unfold nextS; split <;> omega

theorem nextS_pos {s : Int} (h1 : 0 ≤ s) (h2 : s ≤ 65535) : nextS s = (75 * s + 74) % 65537 := by
  unfold nextS; rw [if_pos ⟨h1, h2⟩]

theorem nextS_neg {s : Int} (h : ¬ (0 ≤ s ∧ s ≤ 65535)) : nextS s = 0 := by
  unfold nextS; rw [if_neg h]

theorem ret_int {k : IntKind} {a b : Int} (h : a = b) : Ending.returned (.int k a) = .returned (.int k b) := by rw [h]

theorem in_any (x lo hi : Int) (w : World) :
    Calls Try.prog 21 #[.int .i64 x, .int .i64 lo, .int .i64 hi] w fun e w' => e = .returned (.bool (decide (lo ≤ x ∧ x ≤ hi))) ∧ w = w' := by
  by_cases h1 : lo ≤ x
  · by_cases h2 : x ≤ hi
    · go_enter Try.func21, Try.ntmps21
      go_wp2
      go_ret
      exact ⟨by simp [h1, h2], rfl⟩
    · go_enter Try.func21, Try.ntmps21
      go_wp2
      go_ret
      exact ⟨by simp [h2], rfl⟩
  · go_enter Try.func21, Try.ntmps21
    go_wp2
    go_ret
    exact ⟨by simp; omega, rfl⟩

theorem isState_any (s : Int) (w : World) :
    Calls Try.prog 22 #[.int .i64 s] w fun e w' => e = .returned (.bool (decide (0 ≤ s ∧ s ≤ 65535))) ∧ w = w' := by
  by_cases h1 : 0 ≤ s
  · by_cases h2 : s ≤ 65535
    · go_enter Try.func22, Try.ntmps22
      go_wp2
      go_ret
      exact ⟨by simp [h1, h2], rfl⟩
    · go_enter Try.func22, Try.ntmps22
      go_wp2
      go_ret
      exact ⟨by simp [h2], rfl⟩
  · go_enter Try.func22, Try.ntmps22
    go_wp2
    go_ret
    exact ⟨by simp; omega, rfl⟩

theorem in_b (x lo hi : Int) (b : Bool) (w : World) (h : decide (lo ≤ x ∧ x ≤ hi) = b) :
    Calls Try.prog 21 #[.int .i64 x, .int .i64 lo, .int .i64 hi] w fun e w' => e = .returned (.bool b) ∧ w = w' := by
  subst h; exact in_any x lo hi w

theorem isState_b (s : Int) (b : Bool) (w : World) (h : decide (0 ≤ s ∧ s ≤ 65535) = b) :
    Calls Try.prog 22 #[.int .i64 s] w fun e w' => e = .returned (.bool b) ∧ w = w' := by
  subst h; exact isState_any s w

theorem implNext_any (s : Int) (w : World) :
    Calls Try.prog 9 #[.int .i64 s] w fun e w' => e = .returned (.int .i64 (nextS s)) ∧ w = w' := by
  by_cases h : 0 ≤ s ∧ s ≤ 65535
  · have H := nextS_pos h.1 h.2
    obtain ⟨h1, h2⟩ := h
    go_enter Try.func9, Try.ntmps9
    go_wp2_with (go_at_call 22; refine (isState_b _ true _ (by simp; omega)).mono ?_; rintro e w' ⟨rfl, rfl⟩)
    go_ret
    exact ⟨ret_int (by omega), rfl⟩
  · have H := nextS_neg h
    go_enter Try.func9, Try.ntmps9
    go_wp2_with (go_at_call 22; refine (isState_b _ false _ (by simp; omega)).mono ?_; rintro e w' ⟨rfl, rfl⟩)
    go_ret
    exact ⟨ret_int (by omega), rfl⟩

theorem specNext_any (s : Int) (w : World) :
    Calls Try.prog 8 #[.int .i64 s] w fun e w' => e = .returned (.int .i64 (nextS s)) ∧ w = w' := by
  by_cases h : 0 ≤ s ∧ s ≤ 65535
  · have H := nextS_pos h.1 h.2
    obtain ⟨h1, h2⟩ := h
    go_enter Try.func8, Try.ntmps8
    go_wp2_with (go_at_call 21; refine (in_b _ _ _ true _ (by simp; omega)).mono ?_; rintro e w' ⟨rfl, rfl⟩)
    go_ret
    exact ⟨ret_int (by omega), rfl⟩
  · have H := nextS_neg h
    go_enter Try.func8, Try.ntmps8
    go_wp2_with (go_at_call 21; refine (in_b _ _ _ false _ (by simp; omega)).mono ?_; rintro e w' ⟨rfl, rfl⟩)
    go_ret
    exact ⟨ret_int (by omega), rfl⟩

/-- a number below n and the next state -/
def belowOk (s n : Int) : Bool := decide (0 ≤ s ∧ s ≤ 65535) && decide (1 ≤ n ∧ n ≤ 65535)
def belowA (s n : Int) : Int := if belowOk s n = true then nextS s % n else 0
def belowB (s n : Int) : Int := if belowOk s n = true then nextS s else 0

theorem implBelow_any (s n : Int) (w : World) :
    Calls Try.prog 11 #[.int .i64 s, .int .i64 n] w fun e w' => e = .returned (.tuple #[.int .i64 (belowA s n), .int .i64 (belowB s n)]) ∧ w = w' := by
  by_cases h : 0 ≤ s ∧ s ≤ 65535
  · by_cases h3 : n < 1
    · have hA : belowOk s n = false := by simp [belowOk]; omega
      have H1 := Lib.hid hA; clear hA
      go_enter Try.func11, Try.ntmps11
      go_wp2_with (go_at_call 22; refine (isState_b _ true _ (by simp; omega)).mono ?_; rintro e w' ⟨rfl, rfl⟩)
      go_ret2
      exact ⟨by simp [belowA, belowB, H1.out], rfl⟩
    · by_cases h4 : n > 65535
      · have hA : belowOk s n = false := by simp [belowOk]; omega
        have H1 := Lib.hid hA; clear hA
        go_enter Try.func11, Try.ntmps11
        go_wp2_with (go_at_call 22; refine (isState_b _ true _ (by simp; omega)).mono ?_; rintro e w' ⟨rfl, rfl⟩)
        go_ret2
        exact ⟨by simp [belowA, belowB, H1.out], rfl⟩
      · have hA : belowOk s n = true := by simp [belowOk]; omega
        have H1 := Lib.hid hA; clear hA
        have hr := nextS_rng s
        go_enter Try.func11, Try.ntmps11
        go_wp2_with (first | (go_at_call 22; refine (isState_b _ true _ (by simp; omega)).mono ?_; rintro e w' ⟨rfl, rfl⟩) | (go_at_call 9; refine (implNext_any _ _).mono ?_; rintro e w' ⟨rfl, rfl⟩))
        go_ret2
        exact ⟨by simp [belowA, belowB, H1.out], rfl⟩
  · have hA : belowOk s n = false := by simp [belowOk]; omega
    have H1 := Lib.hid hA; clear hA
    go_enter Try.func11, Try.ntmps11
    go_wp2_with (go_at_call 22; refine (isState_b _ false _ (by simp; omega)).mono ?_; rintro e w' ⟨rfl, rfl⟩)
    go_ret2
    exact ⟨by simp [belowA, belowB, H1.out], rfl⟩

theorem specBelow_any (s n : Int) (w : World) :
    Calls Try.prog 10 #[.int .i64 s, .int .i64 n] w fun e w' => e = .returned (.tuple #[.int .i64 (belowA s n), .int .i64 (belowB s n)]) ∧ w = w' := by
  by_cases h : 0 ≤ s ∧ s ≤ 65535
  · by_cases h3 : 1 ≤ n ∧ n ≤ 65535
    · have hA : belowOk s n = true := by simp [belowOk]; omega
      have H1 := Lib.hid hA; clear hA
      have hr := nextS_rng s
      go_enter Try.func10, Try.ntmps10
      go_wp2_with (first | (go_at_call 21; refine (in_b _ _ _ true _ (by simp; omega)).mono ?_; rintro e w' ⟨rfl, rfl⟩) | (go_at_call 8; refine (specNext_any _ _).mono ?_; rintro e w' ⟨rfl, rfl⟩))
      go_ret2
      exact ⟨by simp [belowA, belowB, H1.out], rfl⟩
    · have hA : belowOk s n = false := by simp [belowOk]; omega
      have H1 := Lib.hid hA; clear hA
      go_enter Try.func10, Try.ntmps10
      go_wp2_with fail
      refine (in_b _ _ _ true _ (by simp; omega)).mono ?_
      rintro e w' ⟨rfl, rfl⟩
      go_wp2_with fail
      refine (in_b _ _ _ false _ (by simp; omega)).mono ?_
      rintro e w' ⟨rfl, rfl⟩
      go_wp2_with fail
      go_ret2
      exact ⟨by simp [belowA, belowB, H1.out], rfl⟩
  · have hA : belowOk s n = false := by simp [belowOk]; omega
    have H1 := Lib.hid hA; clear hA
    go_enter Try.func10, Try.ntmps10
    go_wp2_with fail
    refine (in_b _ _ _ false _ (by simp; omega)).mono ?_
    rintro e w' ⟨rfl, rfl⟩
    go_wp2_with fail
    go_ret2
    exact ⟨by simp [belowA, belowB, H1.out], rfl⟩

end Go.Proofs.Ytjfbmepjojnfiaa
