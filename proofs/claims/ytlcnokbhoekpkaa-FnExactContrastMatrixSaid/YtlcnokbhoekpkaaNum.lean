/- Numbers: contracts of impl.gcd, IsNumber, MakeNumber and the four operations, and of their fellows in spec. -/
import Derived.Test.YtlcnokbhoekpkaaProg
import Derived.Test.YtlcnokbhoekpkaaItem
import Derived.Test.YtlcnokbhoekpkaaIn
import Derived.Laws.ResultCell
namespace Go.Proofs.Ytlcnokbhoekpkaa
open Go.RowKit
set_option linter.unusedVariables false
set_option linter.unusedSimpArgs false


def GcdRel (w : World) (G : Nat) (v0 v1 : Value) (wr : World) : Prop := ∃ x y m : Nat, (x : Int) ≤ 4000000000000000000 ∧ (y : Int) ≤ 4000000000000000000 ∧ v0 = .int .i64 x ∧ v1 = .int .i64 y ∧ Nat.gcd x y = G ∧ wr = w.drewN m

theorem gcd_start {a b : Int} {G : Nat} {p q : Int} {w : World} (h : Int.gcd a b = G) (h1 : p = a.natAbs) (h2 : q = b.natAbs) (hx : (a.natAbs : Int) ≤ 4000000000000000000) (hy : (b.natAbs : Int) ≤ 4000000000000000000) :
    GcdRel w G (.int .i64 p) (.int .i64 q) w :=
  ⟨a.natAbs, b.natAbs, 0, hx, hy, by rw [h1], by rw [h2], by rw [← h]; rfl, rfl⟩
theorem gcd_step {x y G : Nat} {w w' : World} (hx : (x : Int) ≤ 4000000000000000000) (hy : (y : Int) ≤ 4000000000000000000) (h0 : ¬ y = 0) (h : Nat.gcd x y = G) (hw : ∃ j, w' = w.drewN j) :
    GcdRel w G (.int .i64 y) (.int .i64 ((x : Int) % y)) w' := by
  obtain ⟨j, hj⟩ := hw
  have hr : x % y ≤ x := Nat.mod_le _ _
  exact ⟨y, x % y, j, hy, by omega, rfl, by rw [Int.natCast_emod], by rw [nat_gcd_step]; exact h, hj⟩

theorem abs_any (a : Int) (w : World) (ha : -9223372036854775807 ≤ a ∧ a ≤ 9223372036854775807) :
    Calls Try.prog 105 #[.int .i64 a] w fun e w' => e = .returned (.int .i64 (a.natAbs : Nat)) ∧ w = w' := by
  by_cases h : a < 0
  all_goals
    go_enter Try.func105, Try.ntmps105
    go_wp2
    go_ret
    exact ⟨ret_i (by omega), rfl⟩

theorem implGcd_any (a b : Int) (w : World) (ha : lim a) (hb : lim b) :
    Calls Try.prog 102 #[.int .i64 a, .int .i64 b] w fun e w' => e = .returned (.int .i64 (Int.gcd a b : Nat)) ∧ ∃ m, w' = w.drewN m := by
  unfold lim at ha hb
  generalize hG : Int.gcd a b = G
  have HG := Lib.hid hG; clear hG
  rcases (show (0 ≤ a ∧ 0 ≤ b) ∨ (0 ≤ a ∧ b < 0) ∨ (a < 0 ∧ 0 ≤ b) ∨ (a < 0 ∧ b < 0) from by omega) with ⟨h1, h2⟩ | ⟨h1, h2⟩ | ⟨h1, h2⟩ | ⟨h1, h2⟩
  all_goals
    go_enter Try.func102, Try.ntmps102
    go_wp2
    go_loopw [0, 1] (GcdRel w G) (fun _ b _ => (intOf b).toNat)
    case atStart => exact gcd_start HG.out (by omega) (by omega) (by omega) (by omega)
    case round =>
      obtain ⟨x, y, m, hx, hy, rfl, rfl, hg, rfl⟩ := hrel
      have HGG := Lib.hid hg; clear hg
      by_cases hy0 : y = 0
      · subst hy0
        have hb0 : (((0 : Nat) : Int) != 0) = false := by simp
        go_wp2
        go_ret
        exact ⟨ret_i (by have := HGG.out; rw [Nat.gcd_zero_right] at this; rw [this]), m, rfl⟩
      · have hb0 : ((y : Int) != 0) = true := by rw [bne_iff_ne]; omega
        have hr : x % y ≤ x := Nat.mod_le _ _
        have hr2 : x % y < y := Nat.mod_lt _ (by omega)
        go_wp2
        go_quiet (fail)
        go_wp2
        go_roundw
        case rel => exact gcd_step hx hy hy0 HGG.out (drewN2 _ _ _)
        case measure => simp [intOf]; omega

theorem specGcd_any (a b : Int) (w : World) (ha : lim a) (hb : lim b) :
    Calls Try.prog 101 #[.int .i64 a, .int .i64 b] w fun e w' => e = .returned (.int .i64 (Int.gcd a b : Nat)) ∧ ∃ m, w' = w.drewN m := by
  unfold lim at ha hb
  generalize hG : Int.gcd a b = G
  have HG := Lib.hid hG; clear hG
  rcases (show (0 ≤ a ∧ 0 ≤ b) ∨ (0 ≤ a ∧ b < 0) ∨ (a < 0 ∧ 0 ≤ b) ∨ (a < 0 ∧ b < 0) from by omega) with ⟨h1, h2⟩ | ⟨h1, h2⟩ | ⟨h1, h2⟩ | ⟨h1, h2⟩
  all_goals
    go_enter Try.func101, Try.ntmps101
    go_wp2_with fail
    refine (abs_any _ _ (by omega)).mono ?_
    rintro e w' ⟨rfl, rfl⟩
    go_wp2_with fail
    refine (abs_any _ _ (by omega)).mono ?_
    rintro e w' ⟨rfl, rfl⟩
    go_wp2_with fail
    go_loopw [5, 6] (GcdRel w G) (fun _ b _ => (intOf b).toNat)
    case atStart => exact gcd_start HG.out (by omega) (by omega) (by omega) (by omega)
    case round =>
      obtain ⟨x, y, m, hx, hy, rfl, rfl, hg, rfl⟩ := hrel
      have HGG := Lib.hid hg; clear hg
      by_cases hy0 : y = 0
      · subst hy0
        have hb0 : (((0 : Nat) : Int) != 0) = false := by simp
        go_wp2
        go_ret
        exact ⟨ret_i (by have := HGG.out; rw [Nat.gcd_zero_right] at this; rw [this]), m, rfl⟩
      · have hb0 : ((y : Int) != 0) = true := by rw [bne_iff_ne]; omega
        have hr : x % y ≤ x := Nat.mod_le _ _
        have hr2 : x % y < y := Nat.mod_lt _ (by omega)
        go_wp2
        go_roundw
        case rel => exact gcd_step hx hy hy0 HGG.out ⟨_, rfl⟩
        case measure => simp [intOf]; omega


theorem numB_false_text {x : It} (h : ¬ x.text = ByteArray.empty) : numB x = false := by simp [numB, h]
theorem numB_false_den {x : It} (h : ¬ (1 ≤ x.den ∧ x.den ≤ 999999999)) : numB x = false := by
  unfold numB; rw [decide_eq_false h]; simp
theorem numB_false_num {x : It} (h : ¬ (-999999999 ≤ x.num ∧ x.num ≤ 999999999)) : numB x = false := by
  unfold numB; rw [decide_eq_false h]; simp
theorem numB_gcd {x : It} (h0 : x.text = ByteArray.empty) (h1 : 1 ≤ x.den ∧ x.den ≤ 999999999) (h2 : -999999999 ≤ x.num ∧ x.num ≤ 999999999) : numB x = decide (((Int.gcd x.num x.den : Nat) : Int) = 1) := by
  unfold numB; rw [decide_eq_true h0, decide_eq_true h1, decide_eq_true h2]; simp; omega

theorem ba_nil {x : ByteArray} (h : ¬ x = ByteArray.empty) : ¬ x.toList = [] := by
  rw [ByteArray.toList_eq]
  intro e; apply h
  cases x with
  | mk d => simp at e; subst e; rfl

/-- the ways through a test 'is a number' -/
theorem num_ways (x : It) : (numB x = false ∧ ¬ x.text.toList = []) ∨ (numB x = false ∧ x.text = ByteArray.empty ∧ x.den < 1) ∨ (numB x = false ∧ x.text = ByteArray.empty ∧ 1 ≤ x.den ∧ 999999999 < x.den) ∨
    (numB x = false ∧ x.text = ByteArray.empty ∧ 1 ≤ x.den ∧ x.den ≤ 999999999 ∧ x.num < -999999999) ∨ (numB x = false ∧ x.text = ByteArray.empty ∧ 1 ≤ x.den ∧ x.den ≤ 999999999 ∧ -999999999 ≤ x.num ∧ 999999999 < x.num) ∨
    (numB x = decide (((Int.gcd x.num x.den : Nat) : Int) = 1) ∧ x.text = ByteArray.empty ∧ 1 ≤ x.den ∧ x.den ≤ 999999999 ∧ -999999999 ≤ x.num ∧ x.num ≤ 999999999) := by
  by_cases h0 : x.text = ByteArray.empty
  · by_cases h1 : 1 ≤ x.den
    · by_cases h2 : x.den ≤ 999999999
      · by_cases h3 : -999999999 ≤ x.num
        · by_cases h4 : x.num ≤ 999999999
          · exact .inr (.inr (.inr (.inr (.inr ⟨numB_gcd h0 ⟨h1, h2⟩ ⟨h3, h4⟩, h0, h1, h2, h3, h4⟩))))
          · exact .inr (.inr (.inr (.inr (.inl ⟨numB_false_num (by omega), h0, h1, h2, h3, by omega⟩))))
        · exact .inr (.inr (.inr (.inl ⟨numB_false_num (by omega), h0, h1, h2, by omega⟩)))
      · exact .inr (.inr (.inl ⟨numB_false_den (by omega), h0, h1, by omega⟩))
    · exact .inr (.inl ⟨numB_false_den (by omega), h0, by omega⟩)
  · exact .inl ⟨numB_false_text h0, ba_nil h0⟩

theorem implIsNum_any (x : It) (w : World) :
    Calls Try.prog 92 #[itVal x] w fun e w' => e = .returned (.bool (numB x)) ∧ Below w.heap.size w w' := by
  rcases num_ways x with ⟨h, h0⟩ | ⟨h, h0, h1⟩ | ⟨h, h0, h1, h2⟩ | ⟨h, h0, h1, h2, h3⟩ | ⟨h, h0, h1, h2, h3, h4⟩ | ⟨h, h0, h1, h2, h3, h4⟩
  all_goals
    have H := Lib.hid h; clear h
    obtain ⟨num, den, text⟩ := x
    simp only at *
    try subst h0
  iterate 5
    · go_enter Try.func92, Try.ntmps92
      go_wp2
      go_ret
      exact ⟨by rw [H.out]; rfl, (Below.refl _ _).alloc (Nat.le_refl _) _⟩
  go_enter Try.func92, Try.ntmps92
  go_wp2_with fail
  refine (implGcd_any _ _ _ (by unfold lim; omega) (by unfold lim; omega)).mono ?_
  rintro e w' ⟨rfl, m, rfl⟩
  go_wp2
  go_ret
  exact ⟨by rw [H.out]; rfl, below_drewN ((Below.refl _ _).alloc (Nat.le_refl _) _) m⟩

theorem specIsNum_any (x : It) (w : World) :
    Calls Try.prog 89 #[itVal x] w fun e w' => e = .returned (.bool (numB x)) ∧ Below w.heap.size w w' := by
  rcases num_ways x with ⟨h, h0⟩ | ⟨h, h0, h1⟩ | ⟨h, h0, h1, h2⟩ | ⟨h, h0, h1, h2, h3⟩ | ⟨h, h0, h1, h2, h3, h4⟩ | ⟨h, h0, h1, h2, h3, h4⟩
  all_goals
    have H := Lib.hid h; clear h
    obtain ⟨num, den, text⟩ := x
    simp only at *
    try subst h0
  · go_enter Try.func89, Try.ntmps89
    go_wp2
    go_ret
    exact ⟨by rw [H.out]; rfl, (Below.refl _ _).alloc (Nat.le_refl _) _⟩
  iterate 2
    · go_enter Try.func89, Try.ntmps89
      go_wp2_with (go_at_call 63; refine (in_b _ _ _ false _ (by simp; omega)).mono ?_; rintro e w' ⟨rfl, rfl⟩)
      go_ret
      exact ⟨by rw [H.out]; rfl, (Below.refl _ _).alloc (Nat.le_refl _) _⟩
  iterate 2
    · go_enter Try.func89, Try.ntmps89
      go_wp2_with fail
      refine (in_b _ _ _ true _ (by simp; omega)).mono ?_
      rintro e w' ⟨rfl, rfl⟩
      go_wp2_with fail
      refine (in_b _ _ _ false _ (by simp; omega)).mono ?_
      rintro e w' ⟨rfl, rfl⟩
      go_wp2
      go_ret
      exact ⟨by rw [H.out]; rfl, (Below.refl _ _).alloc (Nat.le_refl _) _⟩
  go_enter Try.func89, Try.ntmps89
  go_wp2_with (go_at_call 63; refine (in_b _ _ _ true _ (by simp; omega)).mono ?_; rintro e w' ⟨rfl, rfl⟩)
  refine (specGcd_any _ _ _ (by unfold lim; omega) (by unfold lim; omega)).mono ?_
  rintro e w' ⟨rfl, m, rfl⟩
  go_wp2
  go_ret
  exact ⟨by rw [H.out]; rfl, below_drewN ((Below.refl _ _).alloc (Nat.le_refl _) _) m⟩
end Go.Proofs.Ytlcnokbhoekpkaa
