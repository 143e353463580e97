/- Plain facts about lists of bytes, conditions at all places, first places. No program here. -/
import Derived.Test.YtgmpajfhjnojiaaGX
namespace Go.Proofs.Ytgmpajfhjnojiaa
open Go.RowKit
set_option linter.unusedVariables false
set_option linter.unusedSimpArgs false

section
variable {P : Program} {R : List (Bool × List DV) → Prop} {k : UP} {L : Lbl} {ρ : List DV}
/-- a join whose rest is run at each arrival -/
theorem jn_in {n : Nat} {rest : UP} (hk : V P R k (L ++ [fun vs => V P R rest L (psh vs ρ)]) ρ) : V P R (.join n rest k) L ρ := ⟨fun vs => V P R rest L (psh vs ρ), fun vs _ h => h, hk⟩
end
theorem ret_b {b c : Bool} (h : b = c) : isRes [(false, [.sc (.bool b)], true)] [(false, [.sc (.bool c)])] := by subst h; rfl
theorem ret_z {k : IntKind} {b c : Int} (h : b = c) : isRes [(false, [.sc (.int k b)], true)] [(false, [.sc (.int k c)])] := by subst h; rfl
theorem ret_s {b c : ByteArray} (h : b = c) : isRes [(false, [.sc (.string b)], true)] [(false, [.sc (.string c)])] := by subst h; rfl
/-- p holds at all places below n -/
def allB (p : Nat → Bool) (n : Nat) : Bool := (List.range n).all p
theorem allB_zero (p : Nat → Bool) : allB p 0 = true := rfl
theorem allB_succ (p : Nat → Bool) (n : Nat) : allB p (n + 1) = (allB p n && p n) := by simp [allB, List.range_succ]
theorem allB_iff {p : Nat → Bool} {n : Nat} : allB p n = true ↔ ∀ i, i < n → p i = true := by simp [allB]
theorem allB_no {p : Nat → Bool} {n i : Nat} (h : i < n) (hp : p i = false) : allB p n = false := by
  cases hb : allB p n
  · rfl
  · rw [allB_iff.1 hb i h] at hp; cases hp
theorem allB_step {p : Nat → Bool} {i : Nat} (h : allB p i = true) (hp : p i = true) : allB p (i + 1) = true := by rw [allB_succ, h, hp]; rfl
theorem allB_congr {p q : Nat → Bool} {n : Nat} (h : ∀ i, i < n → p i = q i) : allB p n = allB q n := by
  induction n with
  | zero => rfl
  | succ n ih => rw [allB_succ, allB_succ, ih (fun i hi => h i (by omega)), h n (by omega)]

/-- the first place of s in l, -1 if it is not there -/
def fIdx : List ByteArray → ByteArray → Nat → Int
  | [], _, _ => -1
  | x :: l, s, k => if x = s then (k : Int) else fIdx l s (k + 1)
def find1 (l : List ByteArray) (s : ByteArray) : Int := fIdx l s 0
def hasB (l : List ByteArray) (s : ByteArray) : Bool := decide (0 ≤ find1 l s)
theorem fIdx_at (s : ByteArray) : ∀ (l : List ByteArray) (k m : Nat), (∀ j, j < k → l[j]? ≠ some s) → l[k]? = some s → fIdx l s m = ((m + k : Nat) : Int) := by
  intro l
  induction l with
  | nil => intro k m _ hk; simp at hk
  | cons x l ih =>
    intro k m h hk
    unfold fIdx
    cases k with
    | zero => simp at hk; rw [if_pos hk]; simp
    | succ k =>
      rw [if_neg (fun e => h 0 (by omega) (by simp [e])), ih k (m + 1) (fun j hj => by have := h (j + 1) (by omega); simpa using this) (by simpa using hk)]
      omega
theorem fIdx_none (s : ByteArray) : ∀ (l : List ByteArray) (m : Nat), (∀ j, j < l.length → l[j]? ≠ some s) → fIdx l s m = -1 := by
  intro l
  induction l with
  | nil => intro m _; rfl
  | cons x l ih =>
    intro m h
    unfold fIdx
    rw [if_neg (fun e => h 0 (by simp) (by simp [e]))]
    exact ih _ (fun j hj => by have := h (j + 1) (by simpa using hj); simpa using this)
theorem fIdx_spec (s : ByteArray) : ∀ (l : List ByteArray) (m : Nat), (fIdx l s m = -1 ∧ s ∉ l) ∨ ∃ k : Nat, fIdx l s m = ((m + k : Nat) : Int) ∧ l[k]? = some s ∧ ∀ j, j < k → l[j]? ≠ some s := by
  intro l
  induction l with
  | nil => intro m; exact .inl ⟨rfl, by simp⟩
  | cons x l ih =>
    intro m
    unfold fIdx
    by_cases e : x = s
    · rw [if_pos e]; exact .inr ⟨0, by simp, by simp [e], fun j hj => by omega⟩
    · rw [if_neg e]
      rcases ih (m + 1) with ⟨h1, h2⟩ | ⟨k, h1, h2, h3⟩
      · exact .inl ⟨h1, by simp [h2]; exact fun h => e h.symm⟩
      · refine .inr ⟨k + 1, by rw [h1]; omega, by simpa using h2, fun j hj => ?_⟩
        cases j with
        | zero => simpa using e
        | succ j => simpa using h3 j (by omega)
theorem find1_spec (l : List ByteArray) (s : ByteArray) : (find1 l s = -1 ∧ s ∉ l) ∨ ∃ k : Nat, find1 l s = k ∧ l[k]? = some s ∧ ∀ j, j < k → l[j]? ≠ some s := by
  rcases fIdx_spec s l 0 with h | ⟨k, h1, h2⟩
  · exact .inl h
  · exact .inr ⟨k, by unfold find1; rw [h1]; simp, h2⟩
theorem find1_rng (l : List ByteArray) (s : ByteArray) : -1 ≤ find1 l s ∧ find1 l s < l.length ∨ find1 l s = -1 := by
  rcases find1_spec l s with ⟨h, _⟩ | ⟨k, h1, h2, _⟩
  · exact .inr h
  · have := (List.getElem?_eq_some_iff.1 h2).1; exact .inl (by omega)
theorem hasB_iff (l : List ByteArray) (s : ByteArray) : hasB l s = true ↔ s ∈ l := by
  unfold hasB
  rcases find1_spec l s with ⟨h, h2⟩ | ⟨k, h1, h2, _⟩
  · rw [h]; simp [h2]
  · rw [h1]; simp; exact List.mem_of_getElem? h2
theorem getD_some {α : Type} [Inhabited α] {l : List α} {i : Nat} (h : i < l.length) : l[i]? = some (l.getD i default) := by
  rw [List.getD_eq_getElem?_getD, List.getElem?_eq_getElem h]; rfl
/-- places below i have been seen without s -/
theorem find1_hit {l : List ByteArray} {s : ByteArray} {i : Nat} (h : allB (fun j => !decide (l.getD j default = s)) i = true) (hi : i < l.length) (he : l.getD i default = s) : find1 l s = i := by
  unfold find1
  rw [fIdx_at s l i 0 (fun j hj hx => ?_) (by rw [getD_some hi, he])]
  · simp
  · have := allB_iff.1 h j hj
    rw [List.getD_eq_getElem?_getD, hx] at this
    simp at this
theorem find1_miss {l : List ByteArray} {s : ByteArray} (h : allB (fun j => !decide (l.getD j default = s)) l.length = true) : find1 l s = -1 := by
  refine fIdx_none s l 0 fun j hj hx => ?_
  have := allB_iff.1 h j hj
  rw [List.getD_eq_getElem?_getD, hx] at this
  simp at this

theorem getD_le {l : List ByteArray} {m : Nat} (h : ∀ x ∈ l, x.size ≤ m) (i : Nat) : (l.getD i default).size ≤ m := by
  rw [List.getD_eq_getElem?_getD]
  cases hi : l[i]? with
  | none => exact Nat.zero_le _
  | some x => exact h x (List.mem_of_getElem? hi)
theorem getD_leZ {l : List Int} {m : Int} (h0 : 0 ≤ m) (h : ∀ x ∈ l, x ≤ m) (i : Nat) : l.getD i default ≤ m := by
  rw [List.getD_eq_getElem?_getD]
  cases hi : l[i]? with
  | none => exact h0
  | some x => exact h x (List.mem_of_getElem? hi)
theorem byteAt_lt (s : ByteArray) (i : Nat) : byteAt s i < 256 := by
  unfold byteAt
  cases h : s[i]? with
  | none => decide
  | some u => exact u.toNat_lt

/-! ### names -/
def nameC (s : ByteArray) (i : Nat) : Bool := decide (33 ≤ byteAt s i) && (decide (byteAt s i ≤ 126) && !decide (byteAt s i = 96))
def nameB (s : ByteArray) : Bool := allB (nameC s) s.size && decide (1 ≤ s.size ∧ s.size ≤ 20)
theorem nameB_no {s : ByteArray} {i : Nat} (h : i < s.size) (hp : nameC s i = false) : nameB s = false := by unfold nameB; rw [allB_no h hp]; rfl
theorem nameB_size {s : ByteArray} (h : nameB s = true) : 1 ≤ s.size ∧ s.size ≤ 20 := by
  unfold nameB at h; simp only [Bool.and_eq_true, decide_eq_true_eq] at h; exact h.2

/-! ### bits -/
theorem ofInt_nat (a : Nat) : BitVec.ofInt 64 (a : Int) = BitVec.ofNat 64 a := by simp
theorem bv_and {a b : Nat} (ha : a < 2 ^ 63) : IntKind.i64.wrap ((BitVec.ofInt 64 (a : Int) &&& BitVec.ofInt 64 (b : Int)).toNat : Nat) = ((a &&& b : Nat) : Int) := by
  have h1 : (BitVec.ofInt 64 (a : Int) &&& BitVec.ofInt 64 (b : Int)).toNat = a &&& b := by
    rw [ofInt_nat, ofInt_nat, BitVec.toNat_and, BitVec.toNat_ofNat, BitVec.toNat_ofNat, ← Nat.and_mod_two_pow]
    have : a &&& b ≤ a := Nat.and_le_left
    exact Nat.mod_eq_of_lt (by omega)
  rw [h1]
  have : a &&& b ≤ a := Nat.and_le_left
  exact wrap_id (by omega) (by omega)
theorem bv_or {a b : Nat} (ha : a < 2 ^ 63) (hb : b < 2 ^ 63) : IntKind.i64.wrap ((BitVec.ofInt 64 (a : Int) ||| BitVec.ofInt 64 (b : Int)).toNat : Nat) = ((a ||| b : Nat) : Int) := by
  have h0 : a ||| b < 2 ^ 63 := Nat.or_lt_two_pow ha hb
  have h1 : (BitVec.ofInt 64 (a : Int) ||| BitVec.ofInt 64 (b : Int)).toNat = a ||| b := by
    rw [ofInt_nat, ofInt_nat, BitVec.toNat_or, BitVec.toNat_ofNat, BitVec.toNat_ofNat, ← Nat.or_mod_two_pow]
    exact Nat.mod_eq_of_lt (by omega)
  rw [h1]
  exact wrap_id (by omega) (by omega)
theorem e_and {c : Bool} {a b : Nat} (ha : a < 2 ^ 63) : eBin .and c (some (.sc (.int .i64 (a : Int)))) (some (.sc (.int .i64 (b : Int)))) = some [.sc (.int .i64 ((a &&& b : Nat) : Int))] := by
  simp only [eBin, binG, intF, if_true, sc1]
  exact congrArg (fun z => some [DV.sc (.int .i64 z)]) (bv_and ha)
theorem e_or {c : Bool} {a b : Nat} (ha : a < 2 ^ 63) (hb : b < 2 ^ 63) : eBin .or c (some (.sc (.int .i64 (a : Int)))) (some (.sc (.int .i64 (b : Int)))) = some [.sc (.int .i64 ((a ||| b : Nat) : Int))] := by
  simp only [eBin, binG, intF, if_true, sc1]
  exact congrArg (fun z => some [DV.sc (.int .i64 z)]) (bv_or ha hb)
theorem e_shr {c : Bool} {k : IntKind} {a b : Nat} (hb : b ≤ 64) : eBin .shr c (some (.sc (.int .i64 (a : Int)))) (some (.sc (.int k (b : Int)))) = some [.sc (.int .i64 ((a / 2 ^ b : Nat) : Int))] := by
  have h1 : ¬ (b : Int) < 0 := by omega
  simp only [eBin, binG, intF, if_neg h1, sc1, IntKind.bits, Int.toNat_natCast, Nat.min_eq_left hb]
  have h2 : (2 : Int) ^ b = ((2 ^ b : Nat) : Int) := by simp
  rw [h2, Int.fdiv_eq_ediv_of_nonneg _ (Int.natCast_nonneg _)]; rfl
theorem e_shl {c : Bool} {k : IntKind} {a b : Nat} (hb : b ≤ 64) (h : a * 2 ^ b < 2 ^ 63) : eBin .shl c (some (.sc (.int .i64 (a : Int)))) (some (.sc (.int k (b : Int)))) = some [.sc (.int .i64 ((a * 2 ^ b : Nat) : Int))] := by
  have h1 : ¬ (b : Int) < 0 := by omega
  have h2 : (a : Int) * 2 ^ b = ((a * 2 ^ b : Nat) : Int) := by simp
  simp only [eBin, binG, intF, if_neg h1, sc1, IntKind.bits, Int.toNat_natCast, Nat.min_eq_left hb, h2]
  rw [wrap_id (by omega) (by omega)]
theorem e_shl1 {c : Bool} {k : IntKind} {b : Nat} (hb : b ≤ 62) : eBin .shl c (some (.sc (.int .i64 1))) (some (.sc (.int k (b : Int)))) = some [.sc (.int .i64 ((2 ^ b : Nat) : Int))] := by
  have hp : 2 ^ b ≤ 2 ^ 62 := Nat.pow_le_pow_right (by decide) hb
  have := @e_shl c k 1 b (by omega) (by omega)
  rwa [Nat.one_mul] at this
theorem e_orI {c : Bool} {a b : Int} (h0 : 0 ≤ a) (ha : a < 9223372036854775808) (h1 : 0 ≤ b) (hb : b < 9223372036854775808) : eBin .or c (some (.sc (.int .i64 a))) (some (.sc (.int .i64 b))) = some [.sc (.int .i64 ((a.toNat ||| b.toNat : Nat) : Int))] := by
  obtain ⟨m, rfl⟩ := Int.eq_ofNat_of_zero_le h0
  obtain ⟨n, rfl⟩ := Int.eq_ofNat_of_zero_le h1
  exact e_or (by omega) (by omega)
theorem e_andI {c : Bool} {a b : Int} (h0 : 0 ≤ a) (ha : a < 9223372036854775808) (h1 : 0 ≤ b) : eBin .and c (some (.sc (.int .i64 a))) (some (.sc (.int .i64 b))) = some [.sc (.int .i64 ((a.toNat &&& b.toNat : Nat) : Int))] := by
  obtain ⟨m, rfl⟩ := Int.eq_ofNat_of_zero_le h0
  obtain ⟨n, rfl⟩ := Int.eq_ofNat_of_zero_le h1
  exact e_and (by omega)
theorem wrapu {n : Nat} (h : n < 9223372036854775808) : IntKind.u64.wrap (n : Int) = n := by
  simp only [IntKind.wrap, IntKind.bits, IntKind.signed]
  simp; omega
theorem wrap8 {z : Int} (h : 0 ≤ z) (h2 : z < 256) : IntKind.u8.wrap z = z := by
  simp only [IntKind.wrap, IntKind.bits, IntKind.signed]
  simp; omega
theorem tn1 {i : Nat} : ((i : Int) - 1).toNat = i - 1 := by omega
theorem lt1 {i : Nat} (h : 1 ≤ i) : (i : Int) - 1 = ((i - 1 : Nat) : Int) := by omega
/-! ### numbers of bits -/
def bitN (n : Nat) : Nat := if h : n = 0 then 0 else n % 2 + bitN (n / 2)
termination_by n
decreasing_by omega
theorem bitN_zero : bitN 0 = 0 := by rw [bitN]; simp
theorem bitN_pos {n : Nat} (h : n ≠ 0) : bitN n = n % 2 + bitN (n / 2) := by rw [bitN, dif_neg h]
theorem bitN_le (n : Nat) : bitN n ≤ n := by
  induction n using Nat.strongRecOn with
  | _ n ih =>
    by_cases h : n = 0
    · subst h; rw [bitN_zero]; exact Nat.le_refl _
    · rw [bitN_pos h]
      have := ih (n / 2) (by omega)
      omega
theorem e_sle {c : Bool} {s t : ByteArray} : eBin .leq c (some (.sc (.string s))) (some (.sc (.string t))) = some [.sc (.bool (Op.bytesLess s.toList t.toList || decide (s = t)))] := by simp [eBin, binG, strF, sc1]
theorem e_sge {c : Bool} {s t : ByteArray} : eBin .geq c (some (.sc (.string s))) (some (.sc (.string t))) = some [.sc (.bool (!Op.bytesLess s.toList t.toList))] := by simp [eBin, binG, strF, sc1]
end Go.Proofs.Ytgmpajfhjnojiaa
