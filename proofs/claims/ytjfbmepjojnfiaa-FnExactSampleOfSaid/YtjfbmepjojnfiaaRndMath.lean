/- Plain facts on the generator's states: no program here. -/
import Derived.Test.YtjfbmepjojnfiaaRnd
namespace Go.Proofs.Ytjfbmepjojnfiaa

/-- the state k steps behind s -/
def itS (s : Int) : Nat → Int
  | 0 => s
  | k + 1 => nextS (itS s k)

theorem nextS_in {s : Int} (h1 : 0 ≤ s) (h2 : s ≤ 65535) : 0 ≤ nextS s ∧ nextS s ≤ 65535 := by
  rw [nextS_pos h1 h2]; omega

theorem itS_in {s : Int} (h1 : 0 ≤ s) (h2 : s ≤ 65535) (k : Nat) : 0 ≤ itS s k ∧ itS s k ≤ 65535 := by
  induction k with
  | zero => exact ⟨h1, h2⟩
  | succ k ih => exact nextS_in ih.1 ih.2

theorem nextS_mod {x A : Int} (h1 : 0 ≤ x) (h2 : x ≤ 65535) (h : x + 1 = A % 65537) : nextS x + 1 = (A * 75) % 65537 := by
  rw [nextS_pos h1 h2, Int.mul_emod, ← h]; omega

theorem itS_pow {s : Int} (h1 : 0 ≤ s) (h2 : s ≤ 65535) (k : Nat) : itS s k + 1 = ((s + 1) * 75 ^ k) % 65537 := by
  induction k with
  | zero => show s + 1 = _; rw [Int.pow_zero]; omega
  | succ k ih =>
    have hk := itS_in h1 h2 k
    show nextS _ + 1 = _
    rw [nextS_mod hk.1 hk.2 ih, Int.pow_succ, Int.mul_assoc]

theorem itS_add (s : Int) (a b : Nat) : itS s (a + b) = itS (itS s a) b := by
  induction b with
  | zero => rfl
  | succ b ih => show nextS _ = nextS _; rw [← ih]; rfl

theorem itS_cycle {s : Int} {a d : Nat} (h : itS s a = itS s (a + d)) (m : Nat) : itS s (a + d * m) = itS s a := by
  induction m with
  | zero => rfl
  | succ m ih => rw [Nat.mul_succ, ← Nat.add_assoc, Nat.add_right_comm, itS_add, ← h, ← itS_add]; exact ih

theorem itS_wrap {s : Int} {a b n : Nat} (hab : a < b) (hbn : b ≤ n) (h : itS s a = itS s b) :
    itS s (b + (n - b) % (b - a)) = itS s n := by
  have hd : b = a + (b - a) := by omega
  have hb : itS s b = itS s (b + (b - a)) := by
    rw [itS_add s b, ← h, ← itS_add, ← hd]; exact h
  have hn : n = b + (b - a) * ((n - b) / (b - a)) + (n - b) % (b - a) := by
    have := Nat.div_add_mod (n - b) (b - a); omega
  conv => rhs; rw [hn]
  rw [itS_add, itS_add s (b + _), itS_cycle hb]

theorem pow_mod (a M : Int) (q : Nat) : (a % M) ^ q % M = a ^ q % M := by
  induction q with
  | zero => simp
  | succ q ih => rw [Int.pow_succ, Int.pow_succ, Int.mul_emod, ih, Int.emod_emod, ← Int.mul_emod]

theorem pow_sq (p : Int) (q : Nat) : (p * p) ^ q = p ^ (2 * q) := by
  induction q with
  | zero => simp
  | succ q ih => rw [Int.pow_succ, ih, Nat.mul_succ, Int.pow_succ, Int.pow_succ, Int.mul_assoc]

theorem skip_even {x p A : Int} {k q : Nat} (hk : k = 2 * q) (h : (x * p ^ k) % 65537 = A) :
    (x * (p * p % 65537) ^ q) % 65537 = A := by
  subst hk
  rw [← h, Int.mul_emod, pow_mod, pow_sq, ← Int.mul_emod]

theorem skip_odd {x p A : Int} {k q : Nat} (hk : k = 2 * q + 1) (h : (x * p ^ k) % 65537 = A) :
    ((x * p % 65537) * (p * p % 65537) ^ q) % 65537 = A := by
  subst hk
  rw [← h, Int.mul_emod, Int.emod_emod, pow_mod, pow_sq, ← Int.mul_emod, Int.pow_succ, Int.mul_assoc, Int.mul_comm p]

end Go.Proofs.Ytjfbmepjojnfiaa
