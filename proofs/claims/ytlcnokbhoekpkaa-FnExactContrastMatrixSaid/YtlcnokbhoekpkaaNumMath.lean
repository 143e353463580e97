/- Numbers: plain functions and facts. No program here. -/
import Derived.Test.YtlcnokbhoekpkaaLay
namespace Go.Proofs.Ytlcnokbhoekpkaa
set_option linter.unusedVariables false
set_option linter.unusedSimpArgs false

structure It where
  num : Int
  den : Int
  text : ByteArray
  deriving DecidableEq

/-- the missing value -/
def it0 : It := ⟨0, 0, ByteArray.empty⟩

def numB (x : It) : Bool := decide (x.text = ByteArray.empty) && (decide (1 ≤ x.den ∧ x.den ≤ 999999999) && (decide (-999999999 ≤ x.num ∧ x.num ≤ 999999999) && decide (Int.gcd x.num x.den = 1)))

def lim (n : Int) : Prop := -4000000000000000000 ≤ n ∧ n ≤ 4000000000000000000
instance (n : Int) : Decidable (lim n) := inferInstanceAs (Decidable (_ ∧ _))

/-- n / d in lowest terms, d not 0 -/
def redN (n d : Int) : It := ⟨(if d < 0 then -n else n) / (Int.gcd n d : Int), (if d < 0 then -d else d) / (Int.gcd n d : Int), ByteArray.empty⟩
def mkN (n d : Int) : It := if d = 0 ∨ ¬ lim n ∨ ¬ lim d then it0 else if numB (redN n d) = true then redN n d else it0

def addN (x y : It) : It := if (numB x && numB y) = true then mkN (x.num * y.den + y.num * x.den) (x.den * y.den) else it0
def negN (x : It) : It := if numB x = true then ⟨-x.num, x.den, ByteArray.empty⟩ else it0
def subN (x y : It) : It := addN x (negN y)
def mulN (x y : It) : It := if (numB x && numB y) = true then mkN (x.num * y.num) (x.den * y.den) else it0
def divN (x y : It) : It := if (numB x && numB y) = true then mkN (x.num * y.den) (x.den * y.num) else it0

theorem numB_it0 : numB it0 = false := by decide

theorem numB_iff {x : It} : numB x = true ↔ x.text = ByteArray.empty ∧ (1 ≤ x.den ∧ x.den ≤ 999999999) ∧ (-999999999 ≤ x.num ∧ x.num ≤ 999999999) ∧ Int.gcd x.num x.den = 1 := by
  simp [numB]

theorem mkN_zero (n : Int) : mkN n 0 = it0 := by simp [mkN]
theorem mkN_neg {n d : Int} (h : d = 0 ∨ ¬ lim n ∨ ¬ lim d) : mkN n d = it0 := by unfold mkN; rw [if_pos h]
theorem mkN_pos {n d : Int} (h0 : d ≠ 0) (h1 : lim n) (h2 : lim d) : mkN n d = if numB (redN n d) = true then redN n d else it0 := by
  unfold mkN; rw [if_neg (by simp [h0, h1, h2])]

theorem gcd_pos {n d : Int} (h : d ≠ 0) : 1 ≤ (Int.gcd n d : Int) ∧ (Int.gcd n d : Int) ∣ n ∧ (Int.gcd n d : Int) ∣ d := by
  refine ⟨?_, Int.gcd_dvd_left .., Int.gcd_dvd_right ..⟩
  have : 0 < Int.gcd n d := Nat.pos_of_ne_zero (fun e => h (Int.eq_zero_of_gcd_eq_zero_right e))
  omega

/-- the reduced fraction has no common divisor -/
theorem redN_gcd {n d : Int} (h : d ≠ 0) : Int.gcd (redN n d).num (redN n d).den = 1 := by
  obtain ⟨h1, h2, h3⟩ := gcd_pos (n := n) h
  have hg : 0 < Int.gcd n d := by omega
  have key : Int.gcd (n / (Int.gcd n d : Int)) (d / (Int.gcd n d : Int)) = 1 := by
    have := Int.gcd_ediv_gcd_ediv_gcd (i := n) (j := d) hg
    exact this
  unfold redN
  simp only
  split
  · rw [Int.neg_ediv_of_dvd h2, Int.neg_ediv_of_dvd h3, Int.neg_gcd, Int.gcd_neg]; exact key
  · exact key

theorem redN_den {n d : Int} (h : d ≠ 0) : 1 ≤ (redN n d).den := by
  obtain ⟨h1, h2, h3⟩ := gcd_pos (n := n) h
  unfold redN
  simp only
  have hd : (Int.gcd n d : Int) ∣ (if d < 0 then -d else d) := by
    split
    · exact (Int.dvd_neg).2 h3
    · exact h3
  have hp : 0 < (if d < 0 then -d else d) := by split <;> omega
  obtain ⟨q, hq⟩ := hd
  rw [hq, Int.mul_ediv_cancel_left _ (by omega)]
  rw [hq] at hp
  have := Int.pos_of_mul_pos_right hp (by omega)
  omega

/-- what is asked of a reduced fraction is its size alone -/
theorem numB_redN {n d : Int} (h : d ≠ 0) : numB (redN n d) = decide (-999999999 ≤ (redN n d).num ∧ (redN n d).num ≤ 999999999 ∧ (redN n d).den ≤ 999999999) := by
  have h1 := redN_gcd (n := n) h
  have h2 := redN_den (n := n) h
  rw [Bool.eq_iff_iff, numB_iff, decide_eq_true_iff]
  constructor
  · rintro ⟨_, ⟨_, a⟩, ⟨b, c⟩, _⟩; exact ⟨b, c, a⟩
  · rintro ⟨a, b, c⟩; exact ⟨rfl, ⟨h2, c⟩, ⟨a, b⟩, h1⟩

theorem tdiv_exact {n g : Int} (h : g ∣ n) : n.tdiv g = n / g := Int.tdiv_eq_ediv_of_dvd h

theorem mkN_numB (n d : Int) : mkN n d = it0 ∨ numB (mkN n d) = true := by
  unfold mkN
  split
  · exact .inl rfl
  · split
    · next h => exact .inr h
    · exact .inl rfl

theorem mul_lim {a b : Int} (h1 : -999999999 ≤ a ∧ a ≤ 999999999) (h2 : -999999999 ≤ b ∧ b ≤ 999999999) : -999999998000000001 ≤ a * b ∧ a * b ≤ 999999998000000001 := by
  have ha : a.natAbs ≤ 999999999 := by omega
  have hb : b.natAbs ≤ 999999999 := by omega
  have := Nat.mul_le_mul ha hb
  rw [← Int.natAbs_mul] at this
  omega

theorem nat_gcd_step (x y : Nat) : Nat.gcd y (x % y) = Nat.gcd x y := by
  rw [Nat.gcd_comm x y, Nat.gcd_rec y x, Nat.gcd_comm]
end Go.Proofs.Ytlcnokbhoekpkaa
