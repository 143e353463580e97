/- spec.SkipState and impl.SkipState. -/
import Derived.Test.YtjfbmepjojnfiaaRndMath
namespace Go.Proofs.Ytjfbmepjojnfiaa
open Go.RowKit
set_option linter.unusedVariables false
set_option linter.unusedSimpArgs false

def skipS (s n : Int) : Int := if 0 ≤ s ∧ s ≤ 65535 ∧ 0 ≤ n then itS s n.toNat else 0

theorem skipS_pos {s n : Int} (h1 : 0 ≤ s) (h2 : s ≤ 65535) (h3 : 0 ≤ n) : skipS s n = itS s n.toNat := by
  unfold skipS; rw [if_pos ⟨h1, h2, h3⟩]
theorem skipS_neg {s n : Int} (h : ¬ (0 ≤ s ∧ s ≤ 65535 ∧ 0 ≤ n)) : skipS s n = 0 := by
  unfold skipS; rw [if_neg h]

def SkRel (A : Int) (v5 v6 v7 : Value) : Prop :=
  ∃ (p x : Int) (k : Nat), 0 ≤ p ∧ p ≤ 65536 ∧ 0 ≤ x ∧ x ≤ 65536 ∧ (k : Int) ≤ 9223372036854775807 ∧ v5 = .int .i64 p ∧ v6 = .int .i64 x ∧ v7 = .int .i64 k ∧ (x * p ^ k) % 65537 = A

theorem i64_and1 (n : Int) : bits .and .i64 n 1 = n % 2 := by
  have h1 : (BitVec.ofInt 64 1).toNat = 2 ^ 1 - 1 := by decide
  have key : (BitVec.ofInt 64 n &&& BitVec.ofInt 64 1).toNat = (n % ((2 ^ 64 : Nat) : Int)).toNat % 2 ^ 1 := by
    rw [BitVec.toNat_and, BitVec.toNat_ofInt, h1, Nat.and_two_pow_sub_one_eq_mod]
  show IntKind.i64.wrap ((BitVec.ofInt 64 n &&& BitVec.ofInt 64 1).toNat : Nat) = n % 2
  rw [key, IntKind.wrap_i64]
  omega

theorem mul_bd {x p : Int} (h1 : 0 ≤ x) (h2 : x ≤ 65536) (h3 : 0 ≤ p) (h4 : p ≤ 65536) : 0 ≤ x * p ∧ x * p ≤ 4294967296 :=
  ⟨Int.mul_nonneg h1 h3, Int.le_trans (Int.mul_le_mul h2 h4 h3 (by omega)) (by omega)⟩

theorem sk_odd {A p x : Int} {k : Nat} (hp1 : 0 ≤ p) (hp2 : p ≤ 65536) (hx1 : 0 ≤ x) (hx2 : x ≤ 65536) (hk : (k : Int) ≤ 9223372036854775807)
    (h : (x * p ^ k) % 65537 = A) (hb : (bits BinOp.and IntKind.i64 (k : Int) 1 == 1) = true) :
    SkRel A (.int .i64 (p * p % 65537)) (.int .i64 (x * p % 65537)) (.int .i64 ((k : Int) / 2)) := by
  rw [i64_and1, beq_iff_eq] at hb
  exact ⟨_, _, k / 2, by omega, by omega, by omega, by omega, by omega, rfl, rfl, by congr 1, skip_odd (by omega) h⟩

theorem sk_even {A p x : Int} {k : Nat} (hp1 : 0 ≤ p) (hp2 : p ≤ 65536) (hx1 : 0 ≤ x) (hx2 : x ≤ 65536) (hk : (k : Int) ≤ 9223372036854775807)
    (h : (x * p ^ k) % 65537 = A) (hb : (bits BinOp.and IntKind.i64 (k : Int) 1 == 1) = false) :
    SkRel A (.int .i64 (p * p % 65537)) (.int .i64 x) (.int .i64 ((k : Int) / 2)) := by
  rw [i64_and1, beq_eq_false_iff_ne] at hb
  exact ⟨_, _, k / 2, by omega, by omega, by omega, by omega, by omega, rfl, rfl, by congr 1, skip_even (by omega) h⟩

theorem specSkip_any (s n : Int) (w : World) (hn : n ≤ 9223372036854775807) :
    Calls Try.prog 12 #[.int .i64 s, .int .i64 n] w fun e w' => e = .returned (.int .i64 (skipS s n)) ∧ w = w' := by
  by_cases h : 0 ≤ s ∧ s ≤ 65535
  · by_cases h3 : n < 0
    · have H := Lib.hid (skipS_neg (s := s) (n := n) (by omega))
      go_enter Try.func12, Try.ntmps12
      go_wp2_with (go_at_call 21; refine (in_b _ _ _ true _ (by simp; omega)).mono ?_; rintro e w' ⟨rfl, rfl⟩)
      go_ret
      exact ⟨ret_int H.out.symm, rfl⟩
    · obtain ⟨h1, h2⟩ := h
      obtain ⟨m, rfl⟩ := Int.eq_ofNat_of_zero_le (by omega : 0 ≤ n)
      have H := Lib.hid (skipS_pos (s := s) (n := m) h1 h2 (by omega))
      have hd : decide ((m : Int) < 0) = false := by simp
      go_enter Try.func12, Try.ntmps12
      go_wp2_with (go_at_call 21; refine (in_b _ _ _ true _ (by simp; omega)).mono ?_; rintro e w' ⟨rfl, rfl⟩)
      go_loop [5, 6, 7] (SkRel (((s + 1) * 75 ^ m) % 65537)) (fun _ _ k => (intOf k).toNat)
      case atStart => exact ⟨75, s + 1, m, by omega, by omega, by omega, by omega, hn, rfl, rfl, rfl, rfl⟩
      case round =>
        obtain ⟨p, x, k, hp1, hp2, hx1, hx2, hk, rfl, rfl, rfl, hA⟩ := hrel
        have HA := Lib.hid hA; clear hA
        by_cases hk0 : 0 < k
        · have b1 := mul_bd hx1 hx2 hp1 hp2
          have b2 := mul_bd hp1 hp2 hp1 hp2
          go_wp2
          · have hb : (bits BinOp.and IntKind.i64 (k : Int) 1 == 1) = true := by assumption
            exact ⟨sk_odd hp1 hp2 hx1 hx2 hk HA.out hb, by simp [intOf]; omega⟩
          · have hb : (bits BinOp.and IntKind.i64 (k : Int) 1 == 1) = false := by assumption
            exact ⟨sk_even hp1 hp2 hx1 hx2 hk HA.out hb, by simp [intOf]; omega⟩
        · go_wp2
          go_ret
          obtain rfl : k = 0 := by omega
          have e1 := HA.out
          have e2 := itS_pow h1 h2 m
          rw [Int.pow_zero, Int.mul_one] at e1
          exact ⟨ret_int (by rw [H.out, Int.toNat_natCast]; omega), rfl⟩
  · have H := Lib.hid (skipS_neg (s := s) (n := n) (by omega))
    go_enter Try.func12, Try.ntmps12
    go_wp2_with (go_at_call 21; refine (in_b _ _ _ false _ (by simp; omega)).mono ?_; rintro e w' ⟨rfl, rfl⟩)
    go_ret
    exact ⟨ret_int H.out.symm, rfl⟩


/-- what the table of states seen holds after k steps -/
def SeenOk (s : Int) (k : Nat) (xs : List Value) : Prop :=
  xs.length = 65537 ∧ ∀ j : Nat, j < 65537 → ∃ c : Int, xs[j]? = some (.int .i64 c) ∧ (c = 0 ∨ (1 ≤ c ∧ c ≤ k ∧ itS s (c - 1).toNat = j))

theorem seen_start (s : Int) : SeenOk s 0 (List.replicate 65537 (.int .i64 0)) :=
  ⟨List.length_replicate .., fun j hj => ⟨0, by rw [List.getElem?_replicate, if_pos hj], .inl rfl⟩⟩

theorem seen_step {s : Int} {k j : Nat} {xs : List Value} (h : SeenOk s k xs) (hj : j < 65537) (hs : itS s k = j) : SeenOk s (k + 1) (xs.set j (.int .i64 ((k : Int) + 1))) := by
  refine ⟨by rw [List.length_set]; exact h.1, fun i hi => ?_⟩
  by_cases e : i = j
  · subst e
    exact ⟨(k : Int) + 1, by rw [List.getElem?_set_self (by rw [h.1]; exact hi)], .inr ⟨by omega, by omega, by rw [← hs]; congr 1; omega⟩⟩
  · obtain ⟨c, h1, h2⟩ := h.2 i hi
    refine ⟨c, by rw [List.getElem?_set_ne (Ne.symm e)]; exact h1, ?_⟩
    rcases h2 with h2 | ⟨h2, h3, h4⟩
    · exact .inl h2
    · exact .inr ⟨h2, by omega, h4⟩

theorem Try.infoInt : (Try.prog.info? 3).map (fun i => (i.zero, i.size, i.bytes)) = some (some (.int .i64 0), 1, 8) := by kernel_rfl

def SkipRel (s : Int) (m : Nat) (w : World) (v0 v1 v6 : Value) (wr : World) : Prop :=
  ∃ (k j : Nat) (xs : List Value), k ≤ m ∧ j ≤ 65535 ∧ itS s k = j ∧ v0 = .int .i64 j ∧ v1 = .int .i64 m ∧ v6 = .int .i64 k ∧
    wr.ownsRow w.heap.size 3 1 (.slice (some ⟨w.heap.size, 0, none⟩) 65537 65537) 65537 xs ∧ SeenOk s k xs ∧ Below w.heap.size w wr

def SkipRel2 (s : Int) (n : Nat) (v0 v6 : Value) : Prop :=
  ∃ (k j : Nat), k ≤ n ∧ j ≤ 65535 ∧ itS s k = j ∧ v0 = .int .i64 j ∧ v6 = .int .i64 k

theorem itS_nat {s : Int} (h1 : 0 ≤ s) (h2 : s ≤ 65535) {k j : Nat} (h : itS s k = j) : ∃ j' : Nat, nextS j = j' ∧ j' ≤ 65535 ∧ itS s (k + 1) = j' := by
  have := itS_in h1 h2 (k + 1)
  exact ⟨(itS s (k + 1)).toNat, by rw [← h]; show itS s (k + 1) = _; omega, by omega, by omega⟩

theorem skip_rel_step {s : Int} {m : Nat} {w wr : World} {k j j' : Nat} {xs : List Value} (hk : k < m) (hj : j ≤ 65535) (hs : itS s k = j) (hj' : j' ≤ 65535) (hs' : itS s (k + 1) = j')
    (hown : wr.ownsRow w.heap.size 3 1 (.slice (some ⟨w.heap.size, 0, none⟩) 65537 65537) 65537 xs) (hseen : SeenOk s k xs) (hb : Below w.heap.size w wr) :
    SkipRel s m w (.int .i64 j') (.int .i64 m) (.int .i64 ((k : Int) + 1)) (wr.setCell ⟨w.heap.size, j, none⟩ (.int .i64 ((k : Int) + 1))) := by
  have h := hown.stored j (.int .i64 ((k : Int) + 1))
  exact ⟨k + 1, j', _, hk, hj', hs', rfl, rfl, rfl, h.1, seen_step hseen (by omega) hs, hb.setCell (Nat.le_refl _) _⟩

theorem skip_target {s : Int} (h1 : 0 ≤ s) (h2 : s ≤ 65535) {k m j : Nat} {c : Int} (hk : k < m) (hs : itS s k = j) (hc1 : 1 ≤ c) (hc2 : c ≤ k) (hc : itS s (c - 1).toNat = j) :
    ∃ N : Nat, (k : Int) + ((m : Int) - k) % ((k : Int) + 1 - c) = N ∧ k ≤ N ∧ N ≤ m ∧ itS s N = itS s m := by
  have e := itS_wrap (s := s) (a := (c - 1).toNat) (b := k) (n := m) (by omega) (by omega) (by rw [hc, hs])
  have h3 : ((m : Int) - k) % ((k : Int) + 1 - c) = ((m - k) % (k - (c - 1).toNat) : Nat) := by
    rw [Int.natCast_emod]; congr 1 <;> omega
  refine ⟨k + (m - k) % (k - (c - 1).toNat), by rw [h3]; omega, by omega, ?_, e⟩
  have := Nat.mod_le (m - k) (k - (c - 1).toNat); omega

theorem implSkip_any (s n : Int) (w : World) (hn : n ≤ 9223372036854775807) :
    Calls Try.prog 13 #[.int .i64 s, .int .i64 n] w fun e w' => e = .returned (.int .i64 (skipS s n)) ∧ Below w.heap.size w w' := by
  by_cases h : 0 ≤ s ∧ s ≤ 65535
  · by_cases h3 : n < 0
    · have H := Lib.hid (skipS_neg (s := s) (n := n) (by omega))
      go_enter Try.func13, Try.ntmps13
      go_wp2_with (go_at_call 22; refine (isState_b _ true _ (by simp; omega)).mono ?_; rintro e w' ⟨rfl, rfl⟩)
      go_ret
      exact ⟨ret_int H.out.symm, Below.refl _ _⟩
    · obtain ⟨h1, h2⟩ := h
      obtain ⟨m, rfl⟩ := Int.eq_ofNat_of_zero_le (by omega : 0 ≤ n)
      have H := Lib.hid (skipS_pos (s := s) (n := m) h1 h2 (by omega))
      have hd : decide ((m : Int) < 0) = false := by simp
      obtain ⟨i0, hi, hz0, hz1, hz2⟩ := info_parts Try.infoInt
      go_enter Try.func13, Try.ntmps13
      go_wp2_with (first
        | (go_at_call 22; refine (isState_b _ true _ (by simp; omega)).mono ?_; rintro e w' ⟨rfl, rfl⟩)
        | (at_make; refine wpList_make_full _ rfl _ _ 28 rfl w.heap.size 3 i0 (.int .i64 0) 1 Try.underlying28 hi hz0 hz1 _ _ _ _ 65537 rfl rfl (by omega) (by omega) (by rw [hz2]; omega) (by unfold maxLen; omega) (Nat.le_refl _) ?_; intro w1 hown1 hgr1))
      have hb1 : Below w.heap.size w w1 := (Below.refl _ _).grown hgr1 (Nat.le_refl _) (by simp)
      rw [show (65537 * 1) = 65537 from rfl, show (Value.int IntKind.i64 0).cells = #[Value.int IntKind.i64 0] from rfl, toList_madeCells_one] at hown1
      clear hgr1 hi hz0 hz1 hz2
      go_loopw [0, 1, 6] (SkipRel s m w) (fun _ _ k _ => m - (intOf k).toNat)
      case atStart => exact ⟨0, s.toNat, _, by omega, by omega, by show s = _; omega, by rw [show ((s.toNat : Nat) : Int) = s from by omega], rfl, rfl, hown1, seen_start s, hb1⟩
      case round =>
        clear hown1 hb1
        obtain ⟨k, j, xs, hk, hj, hs, rfl, rfl, rfl, hown, hseen, hb⟩ := hrel
        obtain ⟨c, hc1, hc2⟩ := hseen.2 j (by omega)
        obtain ⟨j', hn1, hn2, hn3⟩ := itS_nat h1 h2 hs
        have hcell := (hown.cellAt j (by omega)).trans hc1
        have hfr := hown.frozenAt j
        by_cases hkm : k < m
        · rcases hc2 with rfl | ⟨hc3, hc4, hc5⟩
          · have R := skip_rel_step hkm hj hs hn2 hn3 hown hseen hb
            have HS := Lib.hid hs; have HN := Lib.hid hn1; have HN3 := Lib.hid hn3; have HC := Lib.hid hc1
            clear hs hn1 hn3 hc1 hown hseen hb
            go_wp2_with (go_at_call 9; refine (implNext_any _ _).mono ?_; rintro e w' ⟨rfl, rfl⟩; rw [HN.out])
            go_roundw
            case rel => exact R
            case measure => simp [intOf]; omega
          · obtain ⟨N, hN, hN1, hN2, hN3⟩ := skip_target h1 h2 (m := m) hkm hs hc3 hc4 hc5
            have HS := Lib.hid hs; have HN := Lib.hid hn1; have HN3 := Lib.hid hn3; have HC := Lib.hid hc1; have HC5 := Lib.hid hc5; have HNN := Lib.hid hN3
            clear hs hn1 hn3 hc1 hown hseen hc5 hN3
            have hd1 : decide (k < m) = true := by simp; omega
            have hd2 : decide (0 < c) = true := by simp; omega
            go_wp2
            go_outline
            go_loop [0, 6] (SkipRel2 s N) (fun _ k => N - (intOf k).toNat)
            case atStart => exact ⟨k, j, hN1, hj, HS.out, rfl, rfl⟩
            case round =>
              obtain ⟨k', j', hk', hj', hs', rfl, rfl⟩ := hrel
              by_cases hkn : k' < N
              · obtain ⟨j'', hn1', hn2', hn3'⟩ := itS_nat h1 h2 hs'
                have HS' := Lib.hid hs'; have HN' := Lib.hid hn1'; have HN3' := Lib.hid hn3'
                clear hs' hn1' hn3' hN
                go_wp2_with (go_at_call 9; refine (implNext_any _ _).mono ?_; rintro e w' ⟨rfl, rfl⟩; rw [HN'.out])
                go_round
                case rel => exact ⟨k' + 1, j'', by omega, hn2', HN3'.out, rfl, by go_num⟩
                case measure => simp [intOf]; omega
              · have HS' := Lib.hid hs'
                clear hs' hN
                go_wp2
                go_ret
                obtain rfl : k' = N := by omega
                exact ⟨ret_int (by rw [H.out, Int.toNat_natCast, ← HS'.out, HNN.out]), hb⟩
        · have HS := Lib.hid hs
          clear hs hn1 hn3 hc1 hown hseen hc2 hcell hfr
          go_wp2
          go_ret
          obtain rfl : k = m := by omega
          exact ⟨ret_int (by rw [H.out, Int.toNat_natCast, ← HS.out]), hb⟩
  · have H := Lib.hid (skipS_neg (s := s) (n := n) (by omega))
    go_enter Try.func13, Try.ntmps13
    go_wp2_with (go_at_call 22; refine (isState_b _ false _ (by simp; omega)).mono ?_; rintro e w' ⟨rfl, rfl⟩)
    go_ret
    exact ⟨ret_int H.out.symm, Below.refl _ _⟩
end Go.Proofs.Ytjfbmepjojnfiaa
