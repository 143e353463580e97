/- Terms numbered anew keep their order. Plain. -/
import Derived.Test.YtgmpajfhjnojiaaDrop2
namespace Go.Proofs.Ytgmpajfhjnojiaa
open Go.RowKit
set_option linter.unusedVariables false
set_option linter.unusedSimpArgs false
set_option maxRecDepth 100000

theorem bitN_step (n : Nat) : bitN n = n % 2 + bitN (n / 2) := by
  by_cases h : n = 0
  · subst h; rw [Nat.zero_div, Nat.zero_mod, bitN_zero]
  · exact bitN_pos h
theorem cntU_shift (n : Nat) : ∀ m, cntU n (m + 1) = n % 2 + cntU (n / 2) m
  | 0 => by simp [cntU]
  | m + 1 => by
    rw [cntU, cntU_shift n m, cntU, Nat.div_div_eq_div_mul, ← Nat.pow_succ', Nat.add_assoc]
theorem bitN_cnt : ∀ {m n : Nat}, n < 2 ^ m → bitN n = cntU n m
  | 0, n, h => by
    obtain rfl : n = 0 := by simpa using h
    rw [bitN_zero]; rfl
  | m + 1, n, h => by
    rw [bitN_step, cntU_shift, bitN_cnt (m := m) (n := n / 2) (by rw [Nat.pow_succ] at h; omega)]
theorem bit_low {c b m j : Nat} (h : j < m) : (c + b * 2 ^ m) / 2 ^ j % 2 = c / 2 ^ j % 2 := by
  obtain ⟨d, rfl⟩ : ∃ d, m = j + (d + 1) := ⟨m - j - 1, by omega⟩
  have e : c + b * 2 ^ (j + (d + 1)) = c + (b * 2 ^ d * 2) * 2 ^ j := by
    rw [Nat.pow_add, Nat.pow_succ]
    congr 1
    rw [Nat.mul_comm (2 ^ j), ← Nat.mul_assoc, ← Nat.mul_assoc]
  rw [e, Nat.add_mul_div_right _ _ (Nat.pow_pos (by decide))]
  omega
theorem cnt_low {c b m : Nat} : ∀ {j}, j ≤ m → cntU (c + b * 2 ^ m) j = cntU c j
  | 0, _ => rfl
  | j + 1, h => by rw [cntU, cntU, cnt_low (by omega), bit_low (by omega)]
theorem or_add {c b m : Nat} (h : c < 2 ^ m) : c ||| (b * 2 ^ m) = c + b * 2 ^ m := by
  have := Nat.two_pow_add_eq_or_of_lt h b
  rw [Nat.or_comm, Nat.mul_comm b, ← this, Nat.add_comm]
/-- x's bits are u's -/
def Sub (x u : Nat) : Prop := ∀ i, x / 2 ^ i % 2 = 1 → u / 2 ^ i % 2 = 1
theorem cnt_cmp {u x : Nat} (hs : Sub x u) : ∀ i, cntU (cmpS u x i) (cntU u i) = cntU x i
  | 0 => rfl
  | i + 1 => by
    have ih := cnt_cmp hs i
    have hlt := cmpS_lt u x i
    by_cases hb : u / 2 ^ i % 2 = 1
    · rw [cmpS_t hb, cntU_t hb, or_add hlt, cntU, cnt_low (Nat.le_refl _), ih, cntU, Nat.add_mul_div_right _ _ (Nat.pow_pos (by decide)), Nat.div_eq_of_lt hlt, Nat.zero_add, Nat.mod_mod]
    · have hx : ¬ x / 2 ^ i % 2 = 1 := fun h => hb (hs i h)
      rw [cmpS_f hb, cntU_f hb, ih, cntU_f hx]
theorem cmp_mono {u x y : Nat} (hx : Sub x u) (hy : Sub y u) : ∀ i, (x % 2 ^ i < y % 2 ^ i → cmpS u x i < cmpS u y i) ∧ (x % 2 ^ i = y % 2 ^ i → cmpS u x i = cmpS u y i)
  | 0 => ⟨fun h => by simp [Nat.mod_one] at h, fun _ => rfl⟩
  | i + 1 => by
    obtain ⟨h1, h2⟩ := cmp_mono hx hy i
    have p1 : x % 2 ^ i < 2 ^ i := Nat.mod_lt _ (Nat.pow_pos (by decide))
    have p2 : y % 2 ^ i < 2 ^ i := Nat.mod_lt _ (Nat.pow_pos (by decide))
    have q1 := cmpS_lt u x i
    have q2 := cmpS_lt u y i
    rw [Nat.mod_pow_succ, Nat.mod_pow_succ]
    by_cases hb : u / 2 ^ i % 2 = 1
    · rw [cmpS_t hb, cmpS_t hb, or_add q1, or_add q2]
      have r1 : x / 2 ^ i % 2 = 0 ∨ x / 2 ^ i % 2 = 1 := by omega
      have r2 : y / 2 ^ i % 2 = 0 ∨ y / 2 ^ i % 2 = 1 := by omega
      rcases r1 with r1 | r1 <;> rcases r2 with r2 | r2 <;> rw [r1, r2] <;> simp only [Nat.mul_zero, Nat.mul_one, Nat.zero_mul, Nat.one_mul, Nat.add_zero]
      · exact ⟨h1, h2⟩
      · exact ⟨fun _ => by omega, fun h => by omega⟩
      · exact ⟨fun h => by omega, fun h => by omega⟩
      · exact ⟨fun h => by have := h1 (by omega); omega, fun h => by have := h2 (by omega); omega⟩
    · have bx : x / 2 ^ i % 2 = 0 := (Nat.mod_two_eq_zero_or_one _).resolve_right fun h => hb (hx i h)
      have by' : y / 2 ^ i % 2 = 0 := (Nat.mod_two_eq_zero_or_one _).resolve_right fun h => hb (hy i h)
      rw [cmpS_f hb, cmpS_f hb, bx, by']
      simp only [Nat.mul_zero, Nat.add_zero]
      exact ⟨h1, h2⟩
theorem cmp_bits {u x n : Nat} (hs : Sub x u) (hx : x < 2 ^ n) : bitN (cmpS u x n) = bitN x := by
  rw [bitN_cnt hx, bitN_cnt (cmpS_lt u x n), cnt_cmp hs]
theorem tLess_iff {a b : Int} : tLess a b = true ↔ bitC a < bitC b ∨ (bitC a = bitC b ∧ a < b) := by
  unfold tLess
  rw [Bool.or_eq_true, Bool.and_eq_true, decide_eq_true_eq, decide_eq_true_eq, decide_eq_true_eq]
theorem tLess_tr {a b c : Int} (h1 : tLess a b = true) (h2 : tLess b c = true) : tLess a c = true := by
  rw [tLess_iff] at *; omega
theorem tLess_as {a b : Int} (h1 : tLess a b = true) : tLess b a = false := by
  rw [Bool.eq_false_iff]
  intro h2
  rw [tLess_iff] at *; omega
theorem tLess_ne {a b : Int} (h1 : tLess a b = true) : a ≠ b := by
  rintro rfl; rw [tLess_as h1] at h1; cases h1
theorem tLess_cmp {u n : Nat} {x y : Int} (hx : Sub x.toNat u) (hy : Sub y.toNat u) (h0 : 0 ≤ x) (h1 : 0 ≤ y) (hxn : x.toNat < 2 ^ n) (hyn : y.toNat < 2 ^ n) (h : tLess x y = true) : tLess (cmpZ u n x) (cmpZ u n y) = true := by
  have e1 : bitC (cmpZ u n x) = bitC x := by unfold bitC cmpZ; rw [Int.toNat_natCast, cmp_bits hx hxn]
  have e2 : bitC (cmpZ u n y) = bitC y := by unfold bitC cmpZ; rw [Int.toNat_natCast, cmp_bits hy hyn]
  rw [tLess_iff] at *
  rw [e1, e2]
  rcases h with h | h
  · exact .inl h
  · refine .inr ⟨h.1, ?_⟩
    have := (cmp_mono hx hy n).1 (by rw [Nat.mod_eq_of_lt hxn, Nat.mod_eq_of_lt hyn]; omega)
    unfold cmpZ; omega
/-! ### sorting in -/
theorem insI_end {l : List Int} {y : Int} (h : ∀ i, i + 1 = l.length → tLess y (l.getD i default) = false) : insI l y = l ++ [y] := by
  have hp : posI l y l.length = l.length := by
    cases hl : l.length with
    | zero => rfl
    | succ i => exact posI_f (h i hl.symm)
  unfold insI
  rw [hp, List.take_length, List.drop_length]
theorem insT_id {l : List Int} (h : ∀ i, i + 1 < l.length → tLess (l.getD (i + 1) default) (l.getD i default) = false) : insT l = l := by
  have key : ∀ i, i ≤ l.length → insT (l.take i) = l.take i := by
    intro i
    induction i with
    | zero => intro _; rfl
    | succ i ih =>
      intro hi
      have e := insT_take (f := id) (T := l) (i := i) (by omega)
      simp only [List.map_id] at e
      rw [e, ih (by omega), insI_end]
      · have e2 := map_take (f := id) (l := l) (i := i) (by omega)
        simp only [List.map_id] at e2
        rw [e2]
      · intro j hj
        rw [List.length_take] at hj
        have hj' : j + 1 = i := by omega
        subst hj'
        have e3 : (l.take (j + 1)).getD j default = l.getD j default := by
          rw [List.getD_eq_getElem?_getD, List.getElem?_take, if_pos (by omega), ← List.getD_eq_getElem?_getD]
        rw [e3]
        exact h j (by omega)
  have := key l.length (Nat.le_refl _)
  rwa [List.take_length] at this
/-- strictly ascending -/
def Asc (l : List Int) : Prop := ∀ i j, i < j → j < l.length → tLess (l.getD i default) (l.getD j default) = true
theorem asc_of {l : List Int} (h : ∀ i, i + 1 < l.length → tLess (l.getD i default) (l.getD (i + 1) default) = true) : Asc l := by
  intro i j hij
  induction j with
  | zero => omega
  | succ j ih =>
    intro hj
    by_cases e : i = j
    · subst e; exact h i hj
    · exact tLess_tr (ih (by omega) (by omega)) (h j hj)
theorem asc_id {l : List Int} (h : Asc l) : insT l = l := insT_id fun i hi => tLess_as (h i (i + 1) (by omega) hi)
theorem map_getD {f : Int → Int} {l : List Int} {i : Nat} (h : i < l.length) : (l.map f).getD i default = f (l.getD i default) := by
  rw [List.getD_eq_getElem?_getD, List.getElem?_map, List.getD_eq_getElem?_getD, List.getElem?_eq_getElem h]; rfl
theorem asc_cmp {l : List Int} {n : Nat} (h : Asc l) (hb : ∀ i, i < l.length → 0 ≤ l.getD i default ∧ (l.getD i default).toNat < 2 ^ n) : Asc (l.map (cmpZ (orT l) n)) := by
  intro i j hij hj
  rw [List.length_map] at hj
  rw [map_getD (by omega), map_getD hj]
  have b1 := hb i (by omega)
  have b2 := hb j hj
  exact tLess_cmp (fun k hk => orL_bit (by omega) hk) (fun k hk => orL_bit hj hk) b1.1 b2.1 b1.2 b2.2 (h i j hij hj)
theorem cut_getD {l : List Int} {k i : Nat} (hk : k < l.length) : (l.take k ++ l.drop (k + 1)).getD i default = l.getD (if i < k then i else i + 1) default := by
  rw [List.getD_eq_getElem?_getD, List.getElem?_append, List.length_take, Nat.min_eq_left (by omega), List.getD_eq_getElem?_getD]
  split
  · rw [List.getElem?_take, if_pos ‹_›]
  · rw [List.getElem?_drop]; congr 2; omega
theorem cut_len {l : List Int} {k : Nat} (hk : k < l.length) : (l.take k ++ l.drop (k + 1)).length + 1 = l.length := by simp; omega
theorem asc_cut {l : List Int} {k : Nat} (h : Asc l) (hk : k < l.length) : Asc (l.take k ++ l.drop (k + 1)) := by
  intro i j hij hj
  have := cut_len hk
  rw [cut_getD hk, cut_getD hk]
  refine h _ _ ?_ ?_
  · split <;> split <;> omega
  · split <;> omega
theorem without_cut {l : List Int} {k : Nat} (h : Asc l) (hk : k < l.length) : withoutZ l (l.getD k default) = l.take k ++ l.drop (k + 1) := by
  have e : l = l.take k ++ (l.getD k default :: l.drop (k + 1)) := by
    rw [List.getD_eq_getElem?_getD, List.getElem?_eq_getElem hk, Option.getD_some, List.getElem_cons_drop, List.take_append_drop]
  have hne : ∀ j, j < l.length → j ≠ k → l.getD j default ≠ l.getD k default := fun j hj hjk => by
    rcases Nat.lt_or_gt_of_ne hjk with hlt | hgt
    · exact tLess_ne (h j k hlt hk)
    · exact (tLess_ne (h k j hgt hj)).symm
  have key : ∀ x ∈ l.take k ++ l.drop (k + 1), x ≠ l.getD k default := fun x hx => by
    obtain ⟨j, hj, rfl⟩ := List.mem_iff_getElem.1 hx
    have hl := cut_len hk
    have := cut_getD (i := j) hk
    rw [List.getD_eq_getElem?_getD, List.getElem?_eq_getElem hj, Option.getD_some] at this
    rw [this]
    refine hne _ (by split <;> omega) (by split <;> omega)
  generalize l.getD k default = x at *
  unfold withoutZ
  conv => lhs; rw [e]
  rw [List.filter_append, List.filter_cons, if_neg (by simp), ← List.filter_append]
  exact List.filter_eq_self.2 fun y hy => by simpa using key y hy
end Go.Proofs.Ytgmpajfhjnojiaa
