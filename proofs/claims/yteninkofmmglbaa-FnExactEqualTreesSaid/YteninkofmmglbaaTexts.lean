/- impl.sameTexts, spec.l4Strings and their like. -/
import Derived.Test.YteninkofmmglbaaProg
import Derived.Test.YteninkofmmglbaaLay
namespace Go.Proofs.Yteninkofmmglbaa
open Go.RowKit
set_option linter.unusedVariables false
set_option linter.unusedSimpArgs false

theorem list_ne_at {α : Type} {l m : List α} (hl : l.length = m.length) (h : ¬ l = m) : ∃ k, k < l.length ∧ l[k]? ≠ m[k]? := by
  apply Classical.byContradiction
  intro hn
  apply h
  apply List.ext_getElem?
  intro i
  by_cases hi : i < l.length
  · exact Classical.byContradiction fun h => hn ⟨i, hi, h⟩
  · rw [List.getElem?_eq_none (by omega), List.getElem?_eq_none (by omega)]

theorem ba_ne {x y : ByteArray} (h : ¬ x = y) : (x.toList == y.toList) = false := by
  rw [beq_eq_false_iff_ne, ByteArray.toList_eq, ByteArray.toList_eq]
  intro e; apply h
  cases x; cases y; simp at e; rw [e]

theorem take_succ_eq {α : Type} {l m : List α} {k : Nat} {x : α} (h : l.take k = m.take k) (hx : l[k]? = some x) (hy : m[k]? = some x) : l.take (k + 1) = m.take (k + 1) := by
  rw [List.take_add_one, List.take_add_one, h, hx, hy]
theorem ne_of_at {α : Type} [DecidableEq α] {l m : List α} {k : Nat} {x y : α} (hx : l[k]? = some x) (hy : m[k]? = some y) (h : ¬ x = y) : decide (l = m) = false := by
  rw [decide_eq_false_iff_not]; rintro rfl; rw [hx] at hy; exact h (Option.some.inj hy)
theorem eq_of_take {α : Type} {l m : List α} {k : Nat} (h : l.take k = m.take k) (h1 : l.length ≤ k) (h2 : m.length ≤ k) : l = m := by
  rwa [List.take_of_length_le h1, List.take_of_length_le h2] at h

theorem sameTexts_any (A B : Option Addr) (n m c d : Nat) (f g : List Nat) (l l' : List ByteArray) (w : World) (ha : SlR Lay.str w f l A n c) (hb : SlR Lay.str w g l' B m d) :
    Calls Try.prog 56 #[.slice A n c, .slice B m d] w fun e w' => e = .returned (.bool (decide (l = l'))) ∧ ∃ m, w' = w.drewN m := by
  have hm := ha.le
  have hm' := hb.le
  by_cases hnm : n = m
  · subst hnm
    have hl := Lib.hid ha.1
    have hl' := Lib.hid hb.1
    go_enter Try.func56, Try.ntmps56
    go_wp2
    go_loopw [5, 13] (fun _ i wr => ∃ k m : Nat, k ≤ n ∧ i = .int .i64 k ∧ wr = w.drewN m ∧ l.take k = l'.take k) (fun _ i _ => n - (intOf i).toNat)
    case atStart => exact ⟨0, 0, Nat.zero_le _, rfl, rfl, rfl⟩
    case round =>
      obtain ⟨k, m, hk, rfl, rfl, ht⟩ := hrel
      have HT := Lib.hid ht; clear ht
      by_cases hlt : k < n
      · obtain ⟨b1, o1, x, rfl, hx, hxs, -, c1⟩ := ha.strAt hlt
        obtain ⟨b2, o2, y, rfl, hy, hys, -, c2⟩ := hb.strAt hlt
        have HX := Lib.hid hx
        have HY := Lib.hid hy
        clear ha hb hx hy
        by_cases hxy : x = y
        · subst hxy
          go_wp2
          go_quiet (fail)
          go_wp2
          go_roundw
          case rel => exact ⟨k + 1, _, by omega, by go_num, rfl, take_succ_eq HT.out HX.out HY.out⟩
          case measure => simp [intOf]; omega
        · have hne := ba_ne hxy
          go_wp2
          go_quiet (fail)
          go_wp2
          go_ret
          exact ⟨by rw [ne_of_at HX.out HY.out hxy]; rfl, drewN2 _ _ _⟩
      · go_wp2
        go_ret
        exact ⟨by rw [eq_of_take HT.out (by rw [hl.out]; omega) (by rw [hl'.out]; omega)]; simp, m, rfl⟩
  · have hne : decide (l = l') = false := by
      rw [decide_eq_false_iff_not]; rintro rfl; exact hnm (by rw [← ha.1, ← hb.1])
    have HN := Lib.hid hne
    clear hne
    go_enter Try.func56, Try.ntmps56
    go_wp2
    go_ret
    exact ⟨by rw [HN.out]; rfl, 0, rfl⟩

theorem l4Strings_any (A B : Option Addr) (n m c d : Nat) (f g : List Nat) (l l' : List ByteArray) (w : World) (ha : SlR Lay.str w f l A n c) (hb : SlR Lay.str w g l' B m d) :
    Calls Try.prog 33 #[.slice A n c, .slice B m d] w fun e w' => e = .returned (.bool (decide (l = l'))) ∧ ∃ m, w' = w.drewN m := by
  have hm := ha.le
  have hm' := hb.le
  by_cases hnm : n = m
  · subst hnm
    have hl := Lib.hid ha.1
    have hl' := Lib.hid hb.1
    go_enter Try.func33, Try.ntmps33
    go_wp2
    go_loopw [5] (fun i wr => ∃ k m : Nat, k ≤ n ∧ i = .int .i64 k ∧ wr = w.drewN m ∧ l.take k = l'.take k) (fun i _ => n - (intOf i).toNat)
    case atStart => exact ⟨0, 0, Nat.zero_le _, rfl, rfl, rfl⟩
    case round =>
      obtain ⟨k, m, hk, rfl, rfl, ht⟩ := hrel
      have HT := Lib.hid ht; clear ht
      by_cases hlt : k < n
      · obtain ⟨b1, o1, x, rfl, hx, hxs, -, c1⟩ := ha.strAt hlt
        obtain ⟨b2, o2, y, rfl, hy, hys, -, c2⟩ := hb.strAt hlt
        have HX := Lib.hid hx
        have HY := Lib.hid hy
        clear ha hb hx hy
        by_cases hxy : x = y
        · subst hxy
          go_wp2
          go_quiet (fail)
          go_wp2
          go_roundw
          case rel => exact ⟨k + 1, _, by omega, by go_num, rfl, take_succ_eq HT.out HX.out HY.out⟩
          case measure => simp [intOf]; omega
        · have hne := ba_ne hxy
          go_wp2
          go_quiet (fail)
          go_wp2
          go_ret
          exact ⟨by rw [ne_of_at HX.out HY.out hxy]; rfl, drewN2 _ _ _⟩
      · go_wp2
        go_ret
        exact ⟨by rw [eq_of_take HT.out (by rw [hl.out]; omega) (by rw [hl'.out]; omega)]; simp, m, rfl⟩
  · have hne : decide (l = l') = false := by
      rw [decide_eq_false_iff_not]; rintro rfl; exact hnm (by rw [← ha.1, ← hb.1])
    have HN := Lib.hid hne
    clear hne
    go_enter Try.func33, Try.ntmps33
    go_wp2
    go_ret
    exact ⟨by rw [HN.out]; rfl, 0, rfl⟩

end Go.Proofs.Yteninkofmmglbaa
