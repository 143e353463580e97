/- Proved: for every input the law 'FnExactConstantOf' returns true and its arguments read behind the call as before: part 4 of its proof. No condition. -/
import Derived.WalkKit
import Derived.Lib.Hide
import Derived.WalkSpells
import Derived.Laws.OwnMore
import Derived.Deep.AppendLies
import Derived.Deep.Draws
import Derived.Maps.AppendAt
import Derived.RegionTactic
import Derived.OwnWalk
import Derived.Below
import Derived.Laws.AppendOwnNone
import Derived.Deep.QuietTactic
import Derived.BigQuiet
import Derived.StillTailTactics
import Derived.Laws.Cells
import Derived.Laws.IdiomCopy
import Derived.ChangeKeysEq
import Derived.Laws.BytesArg
import Derived.Laws.StructEq
import Derived.Laws.Tables
import Derived.Great.BuildSlice
import Derived.StillTail
import Derived.OrdersHeld
import Derived.Test.YtkcljmgjbjdccaaProg
import Derived.Deep.Slices
import Derived.Deep.Fields
import Derived.ChangeSame
import Derived.OpenShut
import Derived.Laws.ResultCell
import Derived.Deep.RegionWith
import Derived.Test.YtkcljmgjbjdccaaExConstantOfQ3
set_option linter.unusedVariables false
set_option linter.unusedSimpArgs false
namespace Go.Proofs.Ytkcljmgjbjdccaa
open Go.RowKit
end Go.Proofs.Ytkcljmgjbjdccaa
namespace Go.Proofs.Ytkcljmgjbjdccaa
structure It where
  num : Int
  den : Int
  text : ByteArray
  deriving DecidableEq
def it0 : It := ⟨0, 0, ByteArray.empty⟩
def numB (x : It) : Bool := decide (x.text = ByteArray.empty) && (decide (1 ≤ x.den ∧ x.den ≤ 999999999) && (decide (-999999999 ≤ x.num ∧ x.num ≤ 999999999) && decide (Int.gcd x.num x.den = 1)))
def lim (n : Int) : Prop := -4000000000000000000 ≤ n ∧ n ≤ 4000000000000000000
instance (n : Int) : Decidable (lim n) := inferInstanceAs (Decidable (_ ∧ _))
def redN (n d : Int) : It := ⟨(if d < 0 then -n else n) / (Int.gcd n d : Int), (if d < 0 then -d else d) / (Int.gcd n d : Int), ByteArray.empty⟩
def mkN (n d : Int) : It := if d = 0 ∨ ¬ lim n ∨ ¬ lim d then it0 else if numB (redN n d) = true then redN n d else it0
theorem numB_iff {x : It} : numB x = true ↔ x.text = ByteArray.empty ∧ (1 ≤ x.den ∧ x.den ≤ 999999999) ∧ (-999999999 ≤ x.num ∧ x.num ≤ 999999999) ∧ Int.gcd x.num x.den = 1 := by
  simp [numB]
theorem mkN_neg {n d : Int} (h : d = 0 ∨ ¬ lim n ∨ ¬ lim d) : mkN n d = it0 := by unfold mkN; rw [if_pos h]
theorem mkN_pos {n d : Int} (h0 : d ≠ 0) (h1 : lim n) (h2 : lim d) : mkN n d = if numB (redN n d) = true then redN n d else it0 := by
  unfold mkN; rw [if_neg (by simp [h0, h1, h2])]
theorem gcd_pos {n d : Int} (h : d ≠ 0) : 1 ≤ (Int.gcd n d : Int) ∧ (Int.gcd n d : Int) ∣ n ∧ (Int.gcd n d : Int) ∣ d := by
  refine ⟨?_, Int.gcd_dvd_left .., Int.gcd_dvd_right ..⟩
  have : 0 < Int.gcd n d := Nat.pos_of_ne_zero (fun e => h (Int.eq_zero_of_gcd_eq_zero_right e))
  omega
theorem redN_gcd {n d : Int} (h : d ≠ 0) : Int.gcd (redN n d).num (redN n d).den = 1 := by
  obtain ⟨h1, h2, h3⟩ := gcd_pos (n := n) h
  have hg : 0 < Int.gcd n d := by omega
  have key : Int.gcd (n / (Int.gcd n d : Int)) (d / (Int.gcd n d : Int)) = 1 := by
    have := Int.gcd_ediv_gcd_ediv_gcd (i := n) (j := d) hg
    exact this
  unfold redN
  simp only
  split
  · rw [Int.neg_ediv_of_dvd h2, Int.neg_ediv_of_dvd h3, Int.neg_gcd, Int.gcd_neg]; exact key
  · exact key
theorem redN_den {n d : Int} (h : d ≠ 0) : 1 ≤ (redN n d).den := by
  obtain ⟨h1, h2, h3⟩ := gcd_pos (n := n) h
  unfold redN
  simp only
  have hd : (Int.gcd n d : Int) ∣ (if d < 0 then -d else d) := by
    split
    · exact (Int.dvd_neg).2 h3
    · exact h3
  have hp : 0 < (if d < 0 then -d else d) := by split <;> omega
  obtain ⟨q, hq⟩ := hd
  rw [hq, Int.mul_ediv_cancel_left _ (by omega)]
  rw [hq] at hp
  have := Int.pos_of_mul_pos_right hp (by omega)
  omega
theorem numB_redN {n d : Int} (h : d ≠ 0) : numB (redN n d) = decide (-999999999 ≤ (redN n d).num ∧ (redN n d).num ≤ 999999999 ∧ (redN n d).den ≤ 999999999) := by
  have h1 := redN_gcd (n := n) h
  have h2 := redN_den (n := n) h
  rw [Bool.eq_iff_iff, numB_iff, decide_eq_true_iff]
  constructor
  · rintro ⟨_, ⟨_, a⟩, ⟨b, c⟩, _⟩; exact ⟨b, c, a⟩
  · rintro ⟨a, b, c⟩; exact ⟨rfl, ⟨h2, c⟩, ⟨a, b⟩, h1⟩
theorem tdiv_exact {n g : Int} (h : g ∣ n) : n.tdiv g = n / g := Int.tdiv_eq_ediv_of_dvd h
theorem nat_gcd_step (x y : Nat) : Nat.gcd y (x % y) = Nat.gcd x y := by
  rw [Nat.gcd_comm x y, Nat.gcd_rec y x, Nat.gcd_comm]
end Go.Proofs.Ytkcljmgjbjdccaa
namespace Go.Proofs.Ytkcljmgjbjdccaa
open Go.RowKit
abbrev itVal (x : It) : Value := .agg #[.int .i64 x.num, .int .i64 x.den, .string x.text]
def itCells (x : It) : List Value := [.int .i64 x.num, .int .i64 x.den, .string x.text]
def ItOk (x : It) : Prop := In64 x.num ∧ In64 x.den ∧ x.text.size ≤ maxLen
def Lay.item : Lay It where
  size := 3
  R := fun w f x c => f = [] ∧ c = itCells x ∧ ItOk x
  pos := by decide
  len := by rintro w f x c ⟨_, rfl, _⟩; rfl
  one := by rintro w f x c ⟨_, rfl, _⟩ u hu; simp [itCells] at hu; rcases hu with rfl | rfl | rfl <;> rfl
  keep := by rintro w w' f x c h hk; exact h
  lt := by rintro w f x c ⟨rfl, _⟩ b hb; cases hb
end Go.Proofs.Ytkcljmgjbjdccaa
namespace Go.Proofs.Ytkcljmgjbjdccaa
open Go.RowKit
def GcdRel (w : World) (G : Nat) (v0 v1 : Value) (wr : World) : Prop := ∃ x y m : Nat, (x : Int) ≤ 4000000000000000000 ∧ (y : Int) ≤ 4000000000000000000 ∧ v0 = .int .i64 x ∧ v1 = .int .i64 y ∧ Nat.gcd x y = G ∧ wr = w.drewN m
theorem gcd_start {a b : Int} {G : Nat} {p q : Int} {w : World} (h : Int.gcd a b = G) (h1 : p = a.natAbs) (h2 : q = b.natAbs) (hx : (a.natAbs : Int) ≤ 4000000000000000000) (hy : (b.natAbs : Int) ≤ 4000000000000000000) :
    GcdRel w G (.int .i64 p) (.int .i64 q) w :=
  ⟨a.natAbs, b.natAbs, 0, hx, hy, by rw [h1], by rw [h2], by rw [← h]; rfl, rfl⟩
theorem gcd_step {x y G : Nat} {w w' : World} (hx : (x : Int) ≤ 4000000000000000000) (hy : (y : Int) ≤ 4000000000000000000) (h0 : ¬ y = 0) (h : Nat.gcd x y = G) (hw : ∃ j, w' = w.drewN j) :
    GcdRel w G (.int .i64 y) (.int .i64 ((x : Int) % y)) w' := by
  obtain ⟨j, hj⟩ := hw
  have hr : x % y ≤ x := Nat.mod_le _ _
  exact ⟨y, x % y, j, hy, by omega, rfl, by rw [Int.natCast_emod], by rw [nat_gcd_step]; exact h, hj⟩
theorem abs_any (a : Int) (w : World) (ha : -9223372036854775807 ≤ a ∧ a ≤ 9223372036854775807) :
    Calls Try.prog 95 #[.int .i64 a] w fun e w' => e = .returned (.int .i64 (a.natAbs : Nat)) ∧ w = w' := by
  by_cases h : a < 0
  all_goals
    go_enter Try.func95, Try.ntmps95
    go_wp2
    go_ret
    exact ⟨ret_i (by omega), rfl⟩
theorem implGcd_any (a b : Int) (w : World) (ha : lim a) (hb : lim b) :
    Calls Try.prog 93 #[.int .i64 a, .int .i64 b] w fun e w' => e = .returned (.int .i64 (Int.gcd a b : Nat)) ∧ ∃ m, w' = w.drewN m := by
  unfold lim at ha hb
  generalize hG : Int.gcd a b = G
  have HG := Lib.hid hG; clear hG
  rcases (show (0 ≤ a ∧ 0 ≤ b) ∨ (0 ≤ a ∧ b < 0) ∨ (a < 0 ∧ 0 ≤ b) ∨ (a < 0 ∧ b < 0) from by omega) with ⟨h1, h2⟩ | ⟨h1, h2⟩ | ⟨h1, h2⟩ | ⟨h1, h2⟩
  all_goals
    go_enter Try.func93, Try.ntmps93
    go_wp2
    go_loopw [0, 1] (GcdRel w G) (fun _ b _ => (intOf b).toNat)
    case atStart => exact gcd_start HG.out (by omega) (by omega) (by omega) (by omega)
    case round =>
      obtain ⟨x, y, m, hx, hy, rfl, rfl, hg, rfl⟩ := hrel
      have HGG := Lib.hid hg; clear hg
      by_cases hy0 : y = 0
      · subst hy0
        have hb0 : (((0 : Nat) : Int) != 0) = false := by simp
        go_wp2
        go_ret
        exact ⟨ret_i (by have := HGG.out; rw [Nat.gcd_zero_right] at this; rw [this]), m, rfl⟩
      · have hb0 : ((y : Int) != 0) = true := by rw [bne_iff_ne]; omega
        have hr : x % y ≤ x := Nat.mod_le _ _
        have hr2 : x % y < y := Nat.mod_lt _ (by omega)
        go_wp2
        go_quiet (fail)
        go_wp2
        go_roundw
        case rel => exact gcd_step hx hy hy0 HGG.out (drewN2 _ _ _)
        case measure => simp [intOf]; omega
theorem specGcd_any (a b : Int) (w : World) (ha : lim a) (hb : lim b) :
    Calls Try.prog 89 #[.int .i64 a, .int .i64 b] w fun e w' => e = .returned (.int .i64 (Int.gcd a b : Nat)) ∧ ∃ m, w' = w.drewN m := by
  unfold lim at ha hb
  generalize hG : Int.gcd a b = G
  have HG := Lib.hid hG; clear hG
  rcases (show (0 ≤ a ∧ 0 ≤ b) ∨ (0 ≤ a ∧ b < 0) ∨ (a < 0 ∧ 0 ≤ b) ∨ (a < 0 ∧ b < 0) from by omega) with ⟨h1, h2⟩ | ⟨h1, h2⟩ | ⟨h1, h2⟩ | ⟨h1, h2⟩
  all_goals
    go_enter Try.func89, Try.ntmps89
    go_wp2_with fail
    refine (abs_any _ _ (by omega)).mono ?_
    rintro e w' ⟨rfl, rfl⟩
    go_wp2_with fail
    refine (abs_any _ _ (by omega)).mono ?_
    rintro e w' ⟨rfl, rfl⟩
    go_wp2_with fail
    go_loopw [5, 6] (GcdRel w G) (fun _ b _ => (intOf b).toNat)
    case atStart => exact gcd_start HG.out (by omega) (by omega) (by omega) (by omega)
    case round =>
      obtain ⟨x, y, m, hx, hy, rfl, rfl, hg, rfl⟩ := hrel
      have HGG := Lib.hid hg; clear hg
      by_cases hy0 : y = 0
      · subst hy0
        have hb0 : (((0 : Nat) : Int) != 0) = false := by simp
        go_wp2
        go_ret
        exact ⟨ret_i (by have := HGG.out; rw [Nat.gcd_zero_right] at this; rw [this]), m, rfl⟩
      · have hb0 : ((y : Int) != 0) = true := by rw [bne_iff_ne]; omega
        have hr : x % y ≤ x := Nat.mod_le _ _
        have hr2 : x % y < y := Nat.mod_lt _ (by omega)
        go_wp2
        go_roundw
        case rel => exact gcd_step hx hy hy0 HGG.out ⟨_, rfl⟩
        case measure => simp [intOf]; omega
theorem numB_false_text {x : It} (h : ¬ x.text = ByteArray.empty) : numB x = false := by simp [numB, h]
theorem numB_false_den {x : It} (h : ¬ (1 ≤ x.den ∧ x.den ≤ 999999999)) : numB x = false := by
  unfold numB; rw [decide_eq_false h]; simp
theorem numB_false_num {x : It} (h : ¬ (-999999999 ≤ x.num ∧ x.num ≤ 999999999)) : numB x = false := by
  unfold numB; rw [decide_eq_false h]; simp
theorem numB_gcd {x : It} (h0 : x.text = ByteArray.empty) (h1 : 1 ≤ x.den ∧ x.den ≤ 999999999) (h2 : -999999999 ≤ x.num ∧ x.num ≤ 999999999) : numB x = decide (((Int.gcd x.num x.den : Nat) : Int) = 1) := by
  unfold numB; rw [decide_eq_true h0, decide_eq_true h1, decide_eq_true h2]; simp; omega
theorem ba_nil {x : ByteArray} (h : ¬ x = ByteArray.empty) : ¬ x.toList = [] := by
  rw [ByteArray.toList_eq]
  intro e; apply h
  cases x with
  | mk d => simp at e; subst e; rfl
theorem num_ways (x : It) : (numB x = false ∧ ¬ x.text.toList = []) ∨ (numB x = false ∧ x.text = ByteArray.empty ∧ x.den < 1) ∨ (numB x = false ∧ x.text = ByteArray.empty ∧ 1 ≤ x.den ∧ 999999999 < x.den) ∨
    (numB x = false ∧ x.text = ByteArray.empty ∧ 1 ≤ x.den ∧ x.den ≤ 999999999 ∧ x.num < -999999999) ∨ (numB x = false ∧ x.text = ByteArray.empty ∧ 1 ≤ x.den ∧ x.den ≤ 999999999 ∧ -999999999 ≤ x.num ∧ 999999999 < x.num) ∨
    (numB x = decide (((Int.gcd x.num x.den : Nat) : Int) = 1) ∧ x.text = ByteArray.empty ∧ 1 ≤ x.den ∧ x.den ≤ 999999999 ∧ -999999999 ≤ x.num ∧ x.num ≤ 999999999) := by
  by_cases h0 : x.text = ByteArray.empty
  · by_cases h1 : 1 ≤ x.den
    · by_cases h2 : x.den ≤ 999999999
      · by_cases h3 : -999999999 ≤ x.num
        · by_cases h4 : x.num ≤ 999999999
          · exact .inr (.inr (.inr (.inr (.inr ⟨numB_gcd h0 ⟨h1, h2⟩ ⟨h3, h4⟩, h0, h1, h2, h3, h4⟩))))
          · exact .inr (.inr (.inr (.inr (.inl ⟨numB_false_num (by omega), h0, h1, h2, h3, by omega⟩))))
        · exact .inr (.inr (.inr (.inl ⟨numB_false_num (by omega), h0, h1, h2, by omega⟩)))
      · exact .inr (.inr (.inl ⟨numB_false_den (by omega), h0, h1, by omega⟩))
    · exact .inr (.inl ⟨numB_false_den (by omega), h0, by omega⟩)
  · exact .inl ⟨numB_false_text h0, ba_nil h0⟩
theorem implIsNum_any (x : It) (w : World) :
    Calls Try.prog 94 #[itVal x] w fun e w' => e = .returned (.bool (numB x)) ∧ Below w.heap.size w w' := by
  rcases num_ways x with ⟨h, h0⟩ | ⟨h, h0, h1⟩ | ⟨h, h0, h1, h2⟩ | ⟨h, h0, h1, h2, h3⟩ | ⟨h, h0, h1, h2, h3, h4⟩ | ⟨h, h0, h1, h2, h3, h4⟩
  all_goals
    have H := Lib.hid h; clear h
    obtain ⟨num, den, text⟩ := x
    simp only at *
    try subst h0
  iterate 5
    · go_enter Try.func94, Try.ntmps94
      go_wp2
      go_ret
      exact ⟨by rw [H.out]; rfl, (Below.refl _ _).alloc (Nat.le_refl _) _⟩
  go_enter Try.func94, Try.ntmps94
  go_wp2_with fail
  refine (implGcd_any _ _ _ (by unfold lim; omega) (by unfold lim; omega)).mono ?_
  rintro e w' ⟨rfl, m, rfl⟩
  go_wp2
  go_ret
  exact ⟨by rw [H.out]; rfl, below_drewN ((Below.refl _ _).alloc (Nat.le_refl _) _) m⟩
end Go.Proofs.Ytkcljmgjbjdccaa
namespace Go.Proofs.Ytkcljmgjbjdccaa
open Go.RowKit
def RetIt (x : It) (w : World) (e : Ending) (w' : World) : Prop := e = .returned (itVal x) ∧ Below w.heap.size w w'
theorem make_ways (n d : Int) : (mkN n d = it0 ∧ d = 0) ∨ (mkN n d = it0 ∧ d ≠ 0 ∧ n < -4000000000000000000) ∨ (mkN n d = it0 ∧ d ≠ 0 ∧ -4000000000000000000 ≤ n ∧ 4000000000000000000 < n) ∨
    (mkN n d = it0 ∧ d ≠ 0 ∧ -4000000000000000000 ≤ n ∧ n ≤ 4000000000000000000 ∧ d < -4000000000000000000) ∨ (mkN n d = it0 ∧ d ≠ 0 ∧ -4000000000000000000 ≤ n ∧ n ≤ 4000000000000000000 ∧ -4000000000000000000 ≤ d ∧ 4000000000000000000 < d) ∨
    (mkN n d = (if numB (redN n d) = true then redN n d else it0) ∧ d ≠ 0 ∧ -4000000000000000000 ≤ n ∧ n ≤ 4000000000000000000 ∧ -4000000000000000000 ≤ d ∧ d ≤ 4000000000000000000) := by
  by_cases h0 : d = 0
  · exact .inl ⟨mkN_neg (.inl h0), h0⟩
  · by_cases h1 : -4000000000000000000 ≤ n
    · by_cases h2 : n ≤ 4000000000000000000
      · by_cases h3 : -4000000000000000000 ≤ d
        · by_cases h4 : d ≤ 4000000000000000000
          · exact .inr (.inr (.inr (.inr (.inr ⟨mkN_pos h0 ⟨h1, h2⟩ ⟨h3, h4⟩, h0, h1, h2, h3, h4⟩))))
          · exact .inr (.inr (.inr (.inr (.inl ⟨mkN_neg (.inr (.inr (by unfold lim; omega))), h0, h1, h2, h3, by omega⟩))))
        · exact .inr (.inr (.inr (.inl ⟨mkN_neg (.inr (.inr (by unfold lim; omega))), h0, h1, h2, by omega⟩)))
      · exact .inr (.inr (.inl ⟨mkN_neg (.inr (.inl (by unfold lim; omega))), h0, h1, by omega⟩))
    · exact .inr (.inl ⟨mkN_neg (.inr (.inl (by unfold lim; omega))), h0, by omega⟩)
theorem tdiv_bd {n g : Int} (h1 : -4000000000000000000 ≤ n) (h2 : n ≤ 4000000000000000000) (hg : 1 ≤ g) : -4000000000000000000 ≤ n.tdiv g ∧ n.tdiv g ≤ 4000000000000000000 := by
  have h : (n.tdiv g).natAbs ≤ n.natAbs := by rw [Int.natAbs_tdiv]; exact Nat.div_le_self _ _
  omega
theorem red_neg {n d P Q : Int} (hd : d < 0) (h1 : -4000000000000000000 ≤ n) (h2 : n ≤ 4000000000000000000) (h3 : -4000000000000000000 ≤ d) (h4 : d ≤ 4000000000000000000)
    (hP : wrap64 (-n.tdiv (Int.gcd n d : Int)) = P) (hQ : wrap64 (-d.tdiv (Int.gcd n d : Int)) = Q) : redN n d = ⟨P, Q, ByteArray.empty⟩ := by
  obtain ⟨hg, hgn, hgd⟩ := gcd_pos (n := n) (d := d) (by omega)
  have b1 := tdiv_bd h1 h2 hg
  have b2 := tdiv_bd h3 h4 hg
  rw [IntWalk.wrap64_in _ ⟨by omega, by omega⟩] at hP hQ
  unfold redN
  rw [if_pos hd, if_pos hd, ← hP, ← hQ, tdiv_exact hgn, tdiv_exact hgd, Int.neg_ediv_of_dvd hgn, Int.neg_ediv_of_dvd hgd]
theorem red_pos {n d P Q : Int} (hd : 0 < d) (hP : n.tdiv (Int.gcd n d : Int) = P) (hQ : d / (Int.gcd n d : Int) = Q) : redN n d = ⟨P, Q, ByteArray.empty⟩ := by
  obtain ⟨hg, hgn, hgd⟩ := gcd_pos (n := n) (d := d) (by omega)
  unfold redN
  rw [if_neg (by omega), if_neg (by omega), ← hP, ← hQ, tdiv_exact hgn]
theorem implMake_any (n d : Int) (w : World) :
    Calls Try.prog 80 #[.int .i64 n, .int .i64 d] w (RetIt (mkN n d) w) := by
  rcases make_ways n d with ⟨h, h0⟩ | ⟨h, h0, h1⟩ | ⟨h, h0, h1, h2⟩ | ⟨h, h0, h1, h2, h3⟩ | ⟨h, h0, h1, h2, h3, h4⟩ | ⟨h, h0, h1, h2, h3, h4⟩
  · have H := Lib.hid h; clear h
    have b0 : (d == 0) = true := beq_iff_eq.2 h0
    clear h0
    go_enter Try.func80, Try.ntmps80
    go_wp2
    exact bodyPost_ret (v := itVal it0) (by simp [results, Try.results80, go_sem]; exact ⟨rfl, rfl, rfl⟩) rfl ⟨by rw [H.out], (Below.refl _ _).alloc (Nat.le_refl _) _⟩
  iterate 4
    · have H := Lib.hid h; clear h
      have b0 : (d == 0) = false := beq_eq_false_iff_ne.2 h0
      go_enter Try.func80, Try.ntmps80
      go_wp2
      exact bodyPost_ret (v := itVal it0) (by simp [results, Try.results80, go_sem]; exact ⟨rfl, rfl, rfl⟩) rfl ⟨by rw [H.out], (Below.refl _ _).alloc (Nat.le_refl _) _⟩
  have H := Lib.hid h; clear h
  have b0 : (d == 0) = false := beq_eq_false_iff_ne.2 h0
  obtain ⟨hg, hgn, hgd⟩ := gcd_pos (n := n) h0
  rcases (show d < 0 ∨ 0 < d from by omega) with hd | hd
  · have e1 := Lib.hid (show Int.gcd (-n) (-d) = Int.gcd n d from by rw [Int.neg_gcd, Int.gcd_neg])
    obtain ⟨P, hP⟩ : ∃ P, wrap64 (-n.tdiv (Int.gcd n d : Int)) = P := ⟨_, rfl⟩
    obtain ⟨Q, hQ⟩ : ∃ Q, wrap64 (-d.tdiv (Int.gcd n d : Int)) = Q := ⟨_, rfl⟩
    have e2 := Lib.hid (red_neg hd h1 h2 h3 h4 hP hQ)
    go_enter Try.func80, Try.ntmps80
    go_wp2_with fail
    refine (implGcd_any _ _ _ (by unfold lim; omega) (by unfold lim; omega)).mono ?_
    rw [e1.out]
    generalize hG : ((Int.gcd n d : Nat) : Int) = G at *
    clear hG
    rintro e w' ⟨rfl, m, rfl⟩
    go_wp2
    go_region
    go_wp2_with fail
    refine (implIsNum_any ⟨P, Q, ByteArray.empty⟩ _).mono ?_
    rintro e w1 ⟨rfl, hb⟩
    obtain ⟨hc, hf⟩ := bcell hb
    have hz : w.heap.size + 1 < w1.heap.size := by have := hb.size; simp at this; omega
    have g0 : w1.cell? ⟨w.heap.size, 0, none⟩ = some (.int .i64 0) := (hc _ _ (by simp <;> omega)).trans (by simp [go_sem])
    have g1 : w1.cell? ⟨w.heap.size, 1, none⟩ = some (.int .i64 0) := (hc _ _ (by simp <;> omega)).trans (by simp [go_sem])
    have g2 : w1.cell? ⟨w.heap.size, 2, none⟩ = some (.string ByteArray.empty) := (hc _ _ (by simp <;> omega)).trans (by simp [go_sem]; rfl)
    have HB := Lib.hid hb
    clear hb hP hQ hgn hgd
    by_cases hn : numB ⟨P, Q, ByteArray.empty⟩ = true
    · have HM := Lib.hid (show mkN n d = ⟨P, Q, ByteArray.empty⟩ from by rw [H.out, e2.out, if_pos hn])
      go_wp2
      refine bodyPost_ret (v := itVal ⟨P, Q, ByteArray.empty⟩) (by simp [results, Try.results80, go_sem, g0, g1, g2, hz]; rfl) rfl ⟨by rw [HM.out], ?_⟩
      repeat (refine Below.setCell ?_ (by simp <;> omega) _)
      exact ((below_drewN ((Below.refl _ _).alloc (Nat.le_refl _) _) _).alloc (by simp) _).trans (HB.out.mono (by simp; omega))
    · have hn : numB ⟨P, Q, ByteArray.empty⟩ = false := by simpa using hn
      have HM := Lib.hid (show mkN n d = it0 from by rw [H.out, e2.out, if_neg (by simp [hn])])
      go_wp2
      refine bodyPost_ret (v := itVal it0) (by simp [results, Try.results80, go_sem, g0, g1, g2, hz]; exact ⟨rfl, rfl, rfl⟩) rfl ⟨by rw [HM.out], ?_⟩
      repeat (refine Below.setCell ?_ (by simp <;> omega) _)
      exact ((below_drewN ((Below.refl _ _).alloc (Nat.le_refl _) _) _).alloc (by simp) _).trans (HB.out.mono (by simp; omega))
  · obtain ⟨P, hP⟩ : ∃ P, n.tdiv (Int.gcd n d : Int) = P := ⟨_, rfl⟩
    obtain ⟨Q, hQ⟩ : ∃ Q, d / (Int.gcd n d : Int) = Q := ⟨_, rfl⟩
    have e2 := Lib.hid (red_pos hd hP hQ)
    have hPb := tdiv_bd h1 h2 hg
    rw [hP] at hPb
    go_enter Try.func80, Try.ntmps80
    go_wp2_with fail
    refine (implGcd_any _ _ _ (by unfold lim; omega) (by unfold lim; omega)).mono ?_
    generalize hG : ((Int.gcd n d : Nat) : Int) = G at *
    clear hG
    rintro e w' ⟨rfl, m, rfl⟩
    go_wp2
    go_region
    go_wp2_with fail
    refine (implIsNum_any ⟨P, Q, ByteArray.empty⟩ _).mono ?_
    rintro e w1 ⟨rfl, hb⟩
    obtain ⟨hc, hf⟩ := bcell hb
    have hz : w.heap.size + 1 < w1.heap.size := by have := hb.size; simp at this; omega
    have g0 : w1.cell? ⟨w.heap.size, 0, none⟩ = some (.int .i64 0) := (hc _ _ (by simp <;> omega)).trans (by simp [go_sem])
    have g1 : w1.cell? ⟨w.heap.size, 1, none⟩ = some (.int .i64 0) := (hc _ _ (by simp <;> omega)).trans (by simp [go_sem])
    have g2 : w1.cell? ⟨w.heap.size, 2, none⟩ = some (.string ByteArray.empty) := (hc _ _ (by simp <;> omega)).trans (by simp [go_sem]; rfl)
    have HB := Lib.hid hb
    clear hb hP hQ hgn hgd
    by_cases hn : numB ⟨P, Q, ByteArray.empty⟩ = true
    · have HM := Lib.hid (show mkN n d = ⟨P, Q, ByteArray.empty⟩ from by rw [H.out, e2.out, if_pos hn])
      go_wp2
      refine bodyPost_ret (v := itVal ⟨P, Q, ByteArray.empty⟩) (by simp [results, Try.results80, go_sem, g0, g1, g2, hz]; rfl) rfl ⟨by rw [HM.out], ?_⟩
      repeat (refine Below.setCell ?_ (by simp <;> omega) _)
      exact ((below_drewN ((Below.refl _ _).alloc (Nat.le_refl _) _) _).alloc (by simp) _).trans (HB.out.mono (by simp; omega))
    · have hn : numB ⟨P, Q, ByteArray.empty⟩ = false := by simpa using hn
      have HM := Lib.hid (show mkN n d = it0 from by rw [H.out, e2.out, if_neg (by simp [hn])])
      go_wp2
      refine bodyPost_ret (v := itVal it0) (by simp [results, Try.results80, go_sem, g0, g1, g2, hz]; exact ⟨rfl, rfl, rfl⟩) rfl ⟨by rw [HM.out], ?_⟩
      repeat (refine Below.setCell ?_ (by simp <;> omega) _)
      exact ((below_drewN ((Below.refl _ _).alloc (Nat.le_refl _) _) _).alloc (by simp) _).trans (HB.out.mono (by simp; omega))
theorem gcd_le {n d : Int} (h0 : d ≠ 0) (h3 : -4000000000000000000 ≤ d) (h4 : d ≤ 4000000000000000000) : (Int.gcd n d : Int) ≤ 4000000000000000000 := by
  have h := Nat.le_of_dvd (by omega : 0 < d.natAbs) (Int.natAbs_dvd_natAbs.2 (Int.gcd_dvd_right (a := n) (b := d)))
  simp at h
  omega
set_option maxHeartbeats 1000000 in
theorem specMake_any (n d : Int) (w : World) :
    Calls Try.prog 73 #[.int .i64 n, .int .i64 d] w (RetIt (mkN n d) w) := by
  rcases make_ways n d with ⟨h, h0⟩ | ⟨h, h0, h1⟩ | ⟨h, h0, h1, h2⟩ | ⟨h, h0, h1, h2, h3⟩ | ⟨h, h0, h1, h2, h3, h4⟩ | ⟨h, h0, h1, h2, h3, h4⟩
  · have H := Lib.hid h; clear h
    have b0 : (d == 0) = true := beq_iff_eq.2 h0
    clear h0
    go_enter Try.func73, Try.ntmps73
    go_wp2_with fail
    exact bodyPost_ret (v := itVal it0) (by simp [results, Try.results73, go_sem]; exact ⟨rfl, rfl, rfl⟩) rfl ⟨by rw [H.out], (Below.refl _ _).alloc (Nat.le_refl _) _⟩
  iterate 2
    · have H := Lib.hid h; clear h
      have b0 : (d == 0) = false := beq_eq_false_iff_ne.2 h0
      go_enter Try.func73, Try.ntmps73
      go_wp2_with (go_at_call 54; refine (in_b _ _ _ false _ (by simp; omega)).mono ?_; rintro e w' ⟨rfl, rfl⟩)
      exact bodyPost_ret (v := itVal it0) (by simp [results, Try.results73, go_sem]; exact ⟨rfl, rfl, rfl⟩) rfl ⟨by rw [H.out], (Below.refl _ _).alloc (Nat.le_refl _) _⟩
  iterate 2
    · have H := Lib.hid h; clear h
      have b0 : (d == 0) = false := beq_eq_false_iff_ne.2 h0
      go_enter Try.func73, Try.ntmps73
      go_wp2_with fail
      refine (in_b _ _ _ true _ (by simp; omega)).mono ?_
      rintro e w' ⟨rfl, rfl⟩
      go_wp2_with fail
      refine (in_b _ _ _ false _ (by simp; omega)).mono ?_
      rintro e w' ⟨rfl, rfl⟩
      go_wp2
      exact bodyPost_ret (v := itVal it0) (by simp [results, Try.results73, go_sem]; exact ⟨rfl, rfl, rfl⟩) rfl ⟨by rw [H.out], (Below.refl _ _).alloc (Nat.le_refl _) _⟩
  have H := Lib.hid h; clear h
  have b0 : (d == 0) = false := beq_eq_false_iff_ne.2 h0
  obtain ⟨hg, hgn, hgd⟩ := gcd_pos (n := n) h0
  have N := Lib.hid (numB_redN (n := n) h0)
  have hgl := gcd_le (n := n) h0 h3 h4
  rcases (show d < 0 ∨ 0 < d from by omega) with hd | hd
  · obtain ⟨P, hP⟩ : ∃ P, wrap64 (-n.tdiv (Int.gcd n d : Int)) = P := ⟨_, rfl⟩
    obtain ⟨Q, hQ⟩ : ∃ Q, wrap64 (-d.tdiv (Int.gcd n d : Int)) = Q := ⟨_, rfl⟩
    have e2 := Lib.hid (red_neg hd h1 h2 h3 h4 hP hQ)
    go_enter Try.func73, Try.ntmps73
    go_wp2_with (go_at_call 54; refine (in_b _ _ _ true _ (by simp; omega)).mono ?_; rintro e w' ⟨rfl, rfl⟩)
    refine (specGcd_any _ _ _ (by unfold lim; omega) (by unfold lim; omega)).mono ?_
    generalize hG : ((Int.gcd n d : Nat) : Int) = G at *
    clear hG
    rintro e w' ⟨rfl, m, rfl⟩
    go_wp2
    go_region
    go_wp2_with fail
    by_cases c1 : -999999999 ≤ P ∧ P ≤ 999999999
    · refine (in_b _ _ _ true _ (by simp; omega)).mono ?_
      rintro e w' ⟨rfl, rfl⟩
      by_cases c2 : 999999999 < Q
      · have HM := Lib.hid (show mkN n d = it0 from by rw [H.out, if_neg (by rw [N.out, e2.out]; simp; omega)])
        clear hP hQ hgn hgd
        go_wp2
        refine bodyPost_ret (v := itVal it0) (by simp [results, Try.results73, go_sem]; exact ⟨rfl, rfl, rfl⟩) rfl ⟨by rw [HM.out], ?_⟩
        repeat (first | exact Below.refl _ _ | refine Below.setCell ?_ (by simp <;> omega) _ | refine Below.alloc ?_ (by simp <;> omega) _ | refine below_drewN ?_ _ | refine Below.drew ?_)
      · have HM := Lib.hid (show mkN n d = ⟨P, Q, ByteArray.empty⟩ from by rw [H.out, if_pos (by rw [N.out, e2.out]; simp; omega), e2.out])
        clear hP hQ hgn hgd
        go_wp2
        refine bodyPost_ret (v := itVal ⟨P, Q, ByteArray.empty⟩) (by simp [results, Try.results73, go_sem]; rfl) rfl ⟨by rw [HM.out], ?_⟩
        repeat (first | exact Below.refl _ _ | refine Below.setCell ?_ (by simp <;> omega) _ | refine Below.alloc ?_ (by simp <;> omega) _ | refine below_drewN ?_ _ | refine Below.drew ?_)
    · refine (in_b _ _ _ false _ (by simp; omega)).mono ?_
      rintro e w' ⟨rfl, rfl⟩
      have HM := Lib.hid (show mkN n d = it0 from by rw [H.out, if_neg (by rw [N.out, e2.out]; simp; omega)])
      clear hP hQ hgn hgd
      go_wp2
      refine bodyPost_ret (v := itVal it0) (by simp [results, Try.results73, go_sem]; exact ⟨rfl, rfl, rfl⟩) rfl ⟨by rw [HM.out], ?_⟩
      repeat (first | exact Below.refl _ _ | refine Below.setCell ?_ (by simp <;> omega) _ | refine Below.alloc ?_ (by simp <;> omega) _ | refine below_drewN ?_ _ | refine Below.drew ?_)
  · obtain ⟨P, hP⟩ : ∃ P, n.tdiv (Int.gcd n d : Int) = P := ⟨_, rfl⟩
    obtain ⟨Q, hQ⟩ : ∃ Q, d / (Int.gcd n d : Int) = Q := ⟨_, rfl⟩
    have e2 := Lib.hid (red_pos hd hP hQ)
    have hPb := tdiv_bd h1 h2 hg
    rw [hP] at hPb
    go_enter Try.func73, Try.ntmps73
    go_wp2_with (go_at_call 54; refine (in_b _ _ _ true _ (by simp; omega)).mono ?_; rintro e w' ⟨rfl, rfl⟩)
    refine (specGcd_any _ _ _ (by unfold lim; omega) (by unfold lim; omega)).mono ?_
    generalize hG : ((Int.gcd n d : Nat) : Int) = G at *
    clear hG
    rintro e w' ⟨rfl, m, rfl⟩
    go_wp2
    go_region
    go_wp2_with fail
    by_cases c1 : -999999999 ≤ P ∧ P ≤ 999999999
    · refine (in_b _ _ _ true _ (by simp; omega)).mono ?_
      rintro e w' ⟨rfl, rfl⟩
      by_cases c2 : 999999999 < Q
      · have HM := Lib.hid (show mkN n d = it0 from by rw [H.out, if_neg (by rw [N.out, e2.out]; simp; omega)])
        clear hP hQ hgn hgd
        go_wp2
        refine bodyPost_ret (v := itVal it0) (by simp [results, Try.results73, go_sem]; exact ⟨rfl, rfl, rfl⟩) rfl ⟨by rw [HM.out], ?_⟩
        repeat (first | exact Below.refl _ _ | refine Below.setCell ?_ (by simp <;> omega) _ | refine Below.alloc ?_ (by simp <;> omega) _ | refine below_drewN ?_ _ | refine Below.drew ?_)
      · have HM := Lib.hid (show mkN n d = ⟨P, Q, ByteArray.empty⟩ from by rw [H.out, if_pos (by rw [N.out, e2.out]; simp; omega), e2.out])
        clear hP hQ hgn hgd
        go_wp2
        refine bodyPost_ret (v := itVal ⟨P, Q, ByteArray.empty⟩) (by simp [results, Try.results73, go_sem]; rfl) rfl ⟨by rw [HM.out], ?_⟩
        repeat (first | exact Below.refl _ _ | refine Below.setCell ?_ (by simp <;> omega) _ | refine Below.alloc ?_ (by simp <;> omega) _ | refine below_drewN ?_ _ | refine Below.drew ?_)
    · refine (in_b _ _ _ false _ (by simp; omega)).mono ?_
      rintro e w' ⟨rfl, rfl⟩
      have HM := Lib.hid (show mkN n d = it0 from by rw [H.out, if_neg (by rw [N.out, e2.out]; simp; omega)])
      clear hP hQ hgn hgd
      go_wp2
      refine bodyPost_ret (v := itVal it0) (by simp [results, Try.results73, go_sem]; exact ⟨rfl, rfl, rfl⟩) rfl ⟨by rw [HM.out], ?_⟩
      repeat (first | exact Below.refl _ _ | refine Below.setCell ?_ (by simp <;> omega) _ | refine Below.alloc ?_ (by simp <;> omega) _ | refine below_drewN ?_ _ | refine Below.drew ?_)
end Go.Proofs.Ytkcljmgjbjdccaa
namespace Go.Proofs.Ytkcljmgjbjdccaa
open Go.RowKit
end Go.Proofs.Ytkcljmgjbjdccaa
namespace Go.Proofs.Ytkcljmgjbjdccaa
open Go.RowKit
def l2N (n : Int) : It := ⟨n, 1, ByteArray.empty⟩
theorem l2Num_any (n : Int) (w : World) : Calls Try.prog 75 #[.int .i64 n] w (RetIt (l2N n) w) := by
  go_enter Try.func75, Try.ntmps75
  go_wp2
  refine bodyPost_ret (v := itVal (l2N n)) (by simp [results, Try.results75, go_sem, l2N]; try rfl) rfl ⟨rfl, ?_⟩
  repeat (first | exact Below.refl _ _ | refine Below.setCell ?_ (by simp <;> omega) _ | refine Below.alloc ?_ (by simp <;> omega) _ | refine below_drewN ?_ _ | refine Below.drew ?_)
end Go.Proofs.Ytkcljmgjbjdccaa

namespace Go.Proofs.Ytkcljmgjbjdccaa
open Go.RowKit
instance : Inhabited It := ⟨⟨0, 0, ByteArray.empty⟩⟩
def encIt (x : It) : List DV := [.sc (.int .i64 x.num), .sc (.int .i64 x.den), .sc (.string x.text)]
theorem encIt_flat (x : It) : Flat (encIt x) := by intro d hd; simp [encIt] at hd; rcases hd with rfl | rfl | rfl <;> exact ⟨_, rfl⟩
theorem encIts_flat (l : List It) : Flat (l.map encIt).flatten := by
  intro d hd
  obtain ⟨e, he, hd⟩ := List.mem_flatten.1 hd
  obtain ⟨x, _, rfl⟩ := List.mem_map.1 he
  exact encIt_flat x d hd
def scs (vs : List Value) : List DV := vs.map .sc
theorem rep_scs {w : World} {A : Nat → Prop} {vals vs : List Value} (h : RepL w A vals (scs vs)) : vals = vs := by
  induction vs generalizing vals with
  | nil => cases h; rfl
  | cons v vs ih => cases h with | sc h1 h2 => rw [ih h2]
theorem own_scs {w : World} {base : Nat} {vs : List Value} (h : ∀ v ∈ vs, Sc v) : OwnL w base vs (scs vs) [] := by
  induction vs with
  | nil => exact .nil
  | cons v vs ih => exact .sc (h v (List.mem_cons_self ..)) (ih fun v hv => h v (List.mem_cons_of_mem _ hv))
def valOf (x : Bool × List Value) : Value := if x.1 then .agg x.2.toArray else x.2.headD undef
theorem meets_sc {P : Program} {f : FuncId} (args : List (Bool × List Value)) (res : Bool × List Value) (hc : callable P f = true) (ha : ∀ x ∈ args, x.1 = false → x.2.length = 1) (hr : ∀ v ∈ res.2, Sc v) (hr1 : res.1 = false → res.2.length = 1)
    (h : ∀ w, Calls P f (args.map valOf).toArray w fun e w' => e = .returned (valOf res) ∧ Below w.heap.size w w') : Meets P f (args.map fun x => (x.1, scs x.2)) [(res.1, scs res.2, true)] := by
  refine ⟨hc, fun w B vs hB har => ?_⟩
  have hvs : vs = args.map valOf := by
    apply List.ext_getElem?
    intro j
    by_cases hj : j < args.length
    · have hl := har.1
      simp at hl
      have h1 := har.2 j vs[j] _ (List.getElem?_eq_getElem (by omega)) (by rw [List.getElem?_map, List.getElem?_eq_getElem hj]; rfl)
      rw [List.getElem?_eq_getElem (by omega), List.getElem?_map, List.getElem?_eq_getElem hj]
      simp only [Option.map_some, Option.some.injEq]
      unfold ArgR at h1
      unfold valOf
      split at h1
      · rename_i hb
        obtain ⟨vals, e1, e2⟩ := h1
        rw [if_pos hb, e1, rep_scs e2]
      · rename_i hb
        have := rep_scs h1
        rw [if_neg hb]
        rw [← this]; rfl
    · have hl := har.1
      simp at hl
      rw [List.getElem?_eq_none (by omega), List.getElem?_eq_none (by simp; omega)]
  subst hvs
  refine (h w).mono ?_
  rintro e w' ⟨rfl, hb⟩
  refine ⟨_, rfl, ⟨[valOf res], [[]], by simp, rfl, rfl, by simp, fun j u r f' h1 h2 h3 => ?_⟩, hb⟩
  cases j with
  | zero =>
    simp at h1 h2 h3
    subst h1 h2 h3
    refine ⟨res.2, ?_, own_scs hr⟩
    unfold valOf
    simp only
    split
    · rfl
    · rename_i hb
      have := hr1 (by simpa using hb)
      match hx : res.2, this with
      | [v], _ => rfl
  | succ j => simp at h1
end Go.Proofs.Ytkcljmgjbjdccaa

namespace Go.Proofs.Ytkcljmgjbjdccaa
open Go.RowKit
def itc (x : It) : List Value := [.int .i64 x.num, .int .i64 x.den, .string x.text]
theorem itc_sc (x : It) : ∀ v ∈ itc x, Sc v := by simp [itc, Sc]
theorem mL2Num (n : Int) : Meets Try.prog 75 [(false, [.sc (.int .i64 n)])] [(true, encIt (l2N n), true)] := meets_sc [(false, [.int .i64 n])] (true, itc (l2N n)) (by kernel_rfl) (by simp) (itc_sc _) (by simp) (fun w => l2Num_any n w)
theorem mIn (x lo hi : Int) : Meets Try.prog 54 [(false, [.sc (.int .i64 x)]), (false, [.sc (.int .i64 lo)]), (false, [.sc (.int .i64 hi)])] [(false, [.sc (.bool (decide (lo ≤ x ∧ x ≤ hi)))], true)] :=
  meets_sc [(false, [.int .i64 x]), (false, [.int .i64 lo]), (false, [.int .i64 hi])] (false, [.bool (decide (lo ≤ x ∧ x ≤ hi))]) (by kernel_rfl) (by simp) (by simp [Sc]) (by simp) (fun w => (in_any x lo hi w).mono fun e w' ⟨h1, h2⟩ => ⟨h1, by subst h2; exact Below.refl _ _⟩)
end Go.Proofs.Ytkcljmgjbjdccaa

namespace Go.Proofs.Ytkcljmgjbjdccaa
open Go.RowKit
set_option maxRecDepth 100000
def encF (k : Int) (its : List It) : List DV := [.sc (.int .i64 k), .sl 54 3 (its.map encIt), .sl 34 8 [], .sl 9 1 [], .sl 9 1 [], .sl 9 1 [], .sc (.int .i64 0), .sc (.int .i64 0)]
theorem ix_it {t : Nat} {l : List It} {kd : IntKind} {z : Int} (h : 0 ≤ z) (h1 : z < l.length) : eIdx 3 (some (.sl t 3 (l.map encIt))) (some (.sc (.int kd z))) = some (encIt (l.getD z.toNat default)) := e_idx_map (fun _ => rfl) h h1
theorem fl_3 {t k : Nat} {k1 k2 : IntKind} {a b : Int} {s : ByteArray} : eFlat (some (.sl t k [[.sc (.int k1 a), .sc (.int k2 b), .sc (.string s)]])) = some [] := rfl
theorem map_it {l : List It} {x : It} : l.map encIt ++ [[.sc (.int .i64 x.num), .sc (.int .i64 x.den), .sc (.string x.text)]] = (l ++ [x]).map encIt := by rw [List.map_append]; rfl
theorem map_it3 {l : List It} {a b : Int} {s : ByteArray} : l.map encIt ++ [[.sc (.int .i64 a), .sc (.int .i64 b), .sc (.string s)]] = (l ++ [(⟨a, b, s⟩ : It)]).map encIt := by rw [List.map_append]; rfl
theorem mImplMake (n d : Int) : Meets Try.prog 80 [(false, [.sc (.int .i64 n)]), (false, [.sc (.int .i64 d)])] [(true, encIt (mkN n d), true)] :=
  meets_sc [(false, [.int .i64 n]), (false, [.int .i64 d])] (true, itc (mkN n d)) (by kernel_rfl) (by simp) (itc_sc _) (by simp) (fun w => implMake_any n d w)
theorem mSpecMake (n d : Int) : Meets Try.prog 73 [(false, [.sc (.int .i64 n)]), (false, [.sc (.int .i64 d)])] [(true, encIt (mkN n d), true)] :=
  meets_sc [(false, [.int .i64 n]), (false, [.int .i64 d])] (true, itc (mkN n d)) (by kernel_rfl) (by simp) (itc_sc _) (by simp) (fun w => specMake_any n d w)
theorem take_succD {α : Type} [Inhabited α] {l : List α} {i : Nat} (h : i < l.length) : l.take (i + 1) = l.take i ++ [l.getD i default] := by
  rw [List.take_succ_eq_append_getElem h, List.getD_eq_getElem?_getD, List.getElem?_eq_getElem h]; rfl
def numV (l : List Int) : Int × List It := if 40 < l.length then (0, []) else (2, l.map fun n => mkN n 1)
set_option maxHeartbeats 1000000 in
theorem implNumV_m (t : Nat) (l : List Int) (hl : l.length ≤ 100000) : Meets Try.prog 60 [(false, [.sl t 1 (l.map encZ)])] [(true, encF (numV l).1 (numV l).2, true)] := by
  refine meets_upf Try.func60 u_impl_NumberVector_g rfl ?_; simp only [u_impl_NumberVector_u]
  unfold numV encF
  simp (disch := first | omega | (simp only [List.length_take, List.length_drop, List.length_append, List.map_cons, List.map_nil, List.length_map, List.length_cons, List.length_nil, List.length_set, List.length_replicate]; omega) | (simp only [List.length_cons, List.length_nil, Nat.zero_add, Nat.reduceAdd])) only [go_sem, ↓reduceIte, Nat.reduceAdd, Int.reduceNeg, Int.reduceAdd, Int.reduceSub, Int.reduceMul, Int.reduceLT, Int.reduceLE, Int.reduceEq, Int.reduceToNat, Nat.reduceBEq, e_sle, e_sge, e_shl1, e_orI, e_andI, e_shr, wrapu, wrap8, tn1, nat1, ix_s, ix_z, st_s, st_z, fl_s, fl_z, fl1_s, fl1_z, map_s, map_z, true_and]
  refine br_if (fun hbr => ?_) (fun hbr => ?_)
  · rw [if_pos (by omega)]
    simp (disch := first | omega | (simp only [List.length_take, List.length_drop, List.length_append, List.map_cons, List.map_nil, List.length_map, List.length_cons, List.length_nil, List.length_set, List.length_replicate]; omega) | (simp only [List.length_cons, List.length_nil, Nat.zero_add, Nat.reduceAdd])) only [go_sem, ↓reduceIte, Nat.reduceAdd, Int.reduceNeg, Int.reduceAdd, Int.reduceSub, Int.reduceMul, Int.reduceLT, Int.reduceLE, Int.reduceEq, Int.reduceToNat, Nat.reduceBEq, e_sle, e_sge, e_shl1, e_orI, e_andI, e_shr, wrapu, wrap8, tn1, nat1, ix_s, ix_z, st_s, st_z, fl_s, fl_z, fl1_s, fl1_z, map_s, map_z, true_and]
    rfl
  rw [if_neg (by omega)]
  simp (disch := first | omega | (simp only [List.length_take, List.length_drop, List.length_append, List.map_cons, List.map_nil, List.length_map, List.length_cons, List.length_nil, List.length_set, List.length_replicate]; omega) | (simp only [List.length_cons, List.length_nil, Nat.zero_add, Nat.reduceAdd])) only [go_sem, ↓reduceIte, Nat.reduceAdd, Int.reduceNeg, Int.reduceAdd, Int.reduceSub, Int.reduceMul, Int.reduceLT, Int.reduceLE, Int.reduceEq, Int.reduceToNat, Nat.reduceBEq, e_sle, e_sge, e_shl1, e_orI, e_andI, e_shr, wrapu, wrap8, tn1, nat1, ix_s, ix_z, st_s, st_z, fl_s, fl_z, fl1_s, fl1_z, map_s, map_z, true_and]
  refine lp (fun i : Nat => [.sc (.int .i64 i), .sl 54 3 (((l.take i).map fun n => mkN n 1).map encIt)]) (fun i => i ≤ l.length) (fun i => l.length - i) 0 rfl (Nat.zero_le _) ?_
  intro i hi
  simp only [u_impl_NumberVector_l0]
  simp (disch := first | omega | (simp only [List.length_take, List.length_drop, List.length_append, List.map_cons, List.map_nil, List.length_map, List.length_cons, List.length_nil, List.length_set, List.length_replicate]; omega) | (simp only [List.length_cons, List.length_nil, Nat.zero_add, Nat.reduceAdd])) only [go_sem, ↓reduceIte, Nat.reduceAdd, Int.reduceNeg, Int.reduceAdd, Int.reduceSub, Int.reduceMul, Int.reduceLT, Int.reduceLE, Int.reduceEq, Int.reduceToNat, Nat.reduceBEq, e_sle, e_sge, e_shl1, e_orI, e_andI, e_shr, wrapu, wrap8, tn1, nat1, ix_s, ix_z, st_s, st_z, fl_s, fl_z, fl1_s, fl1_z, map_s, map_z, true_and]
  refine br_if (fun hlt => ?_) (fun hlt => ?_)
  · simp (disch := first | omega | (simp only [List.length_take, List.length_drop, List.length_append, List.map_cons, List.map_nil, List.length_map, List.length_cons, List.length_nil, List.length_set, List.length_replicate]; omega) | (simp only [List.length_cons, List.length_nil, Nat.zero_add, Nat.reduceAdd])) only [go_sem, ↓reduceIte, Nat.reduceAdd, Int.reduceNeg, Int.reduceAdd, Int.reduceSub, Int.reduceMul, Int.reduceLT, Int.reduceLE, Int.reduceEq, Int.reduceToNat, Nat.reduceBEq, e_sle, e_sge, e_shl1, e_orI, e_andI, e_shr, wrapu, wrap8, tn1, nat1, ix_s, ix_z, st_s, st_z, fl_s, fl_z, fl1_s, fl1_z, map_s, map_z, true_and]
    refine cl_ok (mImplMake _ _) rfl ?_
    simp (disch := first | omega | (simp only [List.length_take, List.length_drop, List.length_append, List.map_cons, List.map_nil, List.length_map, List.length_cons, List.length_nil, List.length_set, List.length_replicate]; omega) | (simp only [List.length_cons, List.length_nil, Nat.zero_add, Nat.reduceAdd])) only [go_sem, ↓reduceIte, Nat.reduceAdd, Int.reduceNeg, Int.reduceAdd, Int.reduceSub, Int.reduceMul, Int.reduceLT, Int.reduceLE, Int.reduceEq, Int.reduceToNat, Nat.reduceBEq, e_sle, e_sge, e_shl1, e_orI, e_andI, e_shr, wrapu, wrap8, tn1, nat1, ix_s, ix_z, st_s, st_z, fl_s, fl_z, fl1_s, fl1_z, map_s, map_z, encIt, fl_3, map_it, nat1]
    exact ⟨i + 1, by rw [take_succD (by omega)]; simp only [List.map_append, List.map_cons, List.map_nil], by omega, by omega⟩
  · obtain rfl : i = l.length := by omega
    rw [List.take_length]
    simp (disch := first | omega | (simp only [List.length_take, List.length_drop, List.length_append, List.map_cons, List.map_nil, List.length_map, List.length_cons, List.length_nil, List.length_set, List.length_replicate]; omega) | (simp only [List.length_cons, List.length_nil, Nat.zero_add, Nat.reduceAdd])) only [go_sem, ↓reduceIte, Nat.reduceAdd, Int.reduceNeg, Int.reduceAdd, Int.reduceSub, Int.reduceMul, Int.reduceLT, Int.reduceLE, Int.reduceEq, Int.reduceToNat, Nat.reduceBEq, e_sle, e_sge, e_shl1, e_orI, e_andI, e_shr, wrapu, wrap8, tn1, nat1, ix_s, ix_z, st_s, st_z, fl_s, fl_z, fl1_s, fl1_z, map_s, map_z, true_and]
    rfl
set_option maxHeartbeats 1000000 in
theorem specNumV_m (t : Nat) (l : List Int) (hl : l.length ≤ 100000) : Meets Try.prog 56 [(false, [.sl t 1 (l.map encZ)])] [(true, encF (numV l).1 (numV l).2, true)] := by
  refine meets_upf Try.func56 u_spec_NumberVector_g rfl ?_; simp only [u_spec_NumberVector_u]
  unfold numV encF
  simp (disch := first | omega | (simp only [List.length_take, List.length_drop, List.length_append, List.map_cons, List.map_nil, List.length_map, List.length_cons, List.length_nil, List.length_set, List.length_replicate]; omega) | (simp only [List.length_cons, List.length_nil, Nat.zero_add, Nat.reduceAdd])) only [go_sem, ↓reduceIte, Nat.reduceAdd, Int.reduceNeg, Int.reduceAdd, Int.reduceSub, Int.reduceMul, Int.reduceLT, Int.reduceLE, Int.reduceEq, Int.reduceToNat, Nat.reduceBEq, e_sle, e_sge, e_shl1, e_orI, e_andI, e_shr, wrapu, wrap8, tn1, nat1, ix_s, ix_z, st_s, st_z, fl_s, fl_z, fl1_s, fl1_z, map_s, map_z, true_and]
  refine lp (fun i : Nat => [.sc (.int .i64 i), .sl 54 3 (((l.take i).map fun n => mkN n 1).map encIt)]) (fun i => i ≤ l.length) (fun i => l.length - i) 0 rfl (Nat.zero_le _) ?_
  intro i hi
  simp only [u_spec_NumberVector_l0]
  simp (disch := first | omega | (simp only [List.length_take, List.length_drop, List.length_append, List.map_cons, List.map_nil, List.length_map, List.length_cons, List.length_nil, List.length_set, List.length_replicate]; omega) | (simp only [List.length_cons, List.length_nil, Nat.zero_add, Nat.reduceAdd])) only [go_sem, ↓reduceIte, Nat.reduceAdd, Int.reduceNeg, Int.reduceAdd, Int.reduceSub, Int.reduceMul, Int.reduceLT, Int.reduceLE, Int.reduceEq, Int.reduceToNat, Nat.reduceBEq, e_sle, e_sge, e_shl1, e_orI, e_andI, e_shr, wrapu, wrap8, tn1, nat1, ix_s, ix_z, st_s, st_z, fl_s, fl_z, fl1_s, fl1_z, map_s, map_z, true_and]
  refine br_if (fun hlt => ?_) (fun hlt => ?_)
  · simp (disch := first | omega | (simp only [List.length_take, List.length_drop, List.length_append, List.map_cons, List.map_nil, List.length_map, List.length_cons, List.length_nil, List.length_set, List.length_replicate]; omega) | (simp only [List.length_cons, List.length_nil, Nat.zero_add, Nat.reduceAdd])) only [go_sem, ↓reduceIte, Nat.reduceAdd, Int.reduceNeg, Int.reduceAdd, Int.reduceSub, Int.reduceMul, Int.reduceLT, Int.reduceLE, Int.reduceEq, Int.reduceToNat, Nat.reduceBEq, e_sle, e_sge, e_shl1, e_orI, e_andI, e_shr, wrapu, wrap8, tn1, nat1, ix_s, ix_z, st_s, st_z, fl_s, fl_z, fl1_s, fl1_z, map_s, map_z, true_and]
    refine br_if (fun h40 => ?_) (fun h40 => ?_)
    · simp (disch := first | omega | (simp only [List.length_take, List.length_drop, List.length_append, List.map_cons, List.map_nil, List.length_map, List.length_cons, List.length_nil, List.length_set, List.length_replicate]; omega) | (simp only [List.length_cons, List.length_nil, Nat.zero_add, Nat.reduceAdd])) only [go_sem, ↓reduceIte, Nat.reduceAdd, Int.reduceNeg, Int.reduceAdd, Int.reduceSub, Int.reduceMul, Int.reduceLT, Int.reduceLE, Int.reduceEq, Int.reduceToNat, Nat.reduceBEq, e_sle, e_sge, e_shl1, e_orI, e_andI, e_shr, wrapu, wrap8, tn1, nat1, ix_s, ix_z, st_s, st_z, fl_s, fl_z, fl1_s, fl1_z, map_s, map_z, true_and]
      refine cl_ok (mSpecMake _ _) rfl ?_
      simp (disch := first | omega | (simp only [List.length_take, List.length_drop, List.length_append, List.map_cons, List.map_nil, List.length_map, List.length_cons, List.length_nil, List.length_set, List.length_replicate]; omega) | (simp only [List.length_cons, List.length_nil, Nat.zero_add, Nat.reduceAdd])) only [go_sem, ↓reduceIte, Nat.reduceAdd, Int.reduceNeg, Int.reduceAdd, Int.reduceSub, Int.reduceMul, Int.reduceLT, Int.reduceLE, Int.reduceEq, Int.reduceToNat, Nat.reduceBEq, e_sle, e_sge, e_shl1, e_orI, e_andI, e_shr, wrapu, wrap8, tn1, nat1, ix_s, ix_z, st_s, st_z, fl_s, fl_z, fl1_s, fl1_z, map_s, map_z, encIt, fl_3, map_it, nat1]
      exact ⟨i + 1, by rw [take_succD (by omega)]; simp only [List.map_append, List.map_cons, List.map_nil], by omega, by omega⟩
    · simp (disch := first | omega | (simp only [List.length_take, List.length_drop, List.length_append, List.map_cons, List.map_nil, List.length_map, List.length_cons, List.length_nil, List.length_set, List.length_replicate]; omega) | (simp only [List.length_cons, List.length_nil, Nat.zero_add, Nat.reduceAdd])) only [go_sem, ↓reduceIte, Nat.reduceAdd, Int.reduceNeg, Int.reduceAdd, Int.reduceSub, Int.reduceMul, Int.reduceLT, Int.reduceLE, Int.reduceEq, Int.reduceToNat, Nat.reduceBEq, e_sle, e_sge, e_shl1, e_orI, e_andI, e_shr, wrapu, wrap8, tn1, nat1, ix_s, ix_z, st_s, st_z, fl_s, fl_z, fl1_s, fl1_z, map_s, map_z, true_and]
      refine br_if (fun h41 => ?_) (fun h41 => absurd h41 (by omega))
      rw [if_pos (by omega)]
      simp (disch := first | omega | (simp only [List.length_take, List.length_drop, List.length_append, List.map_cons, List.map_nil, List.length_map, List.length_cons, List.length_nil, List.length_set, List.length_replicate]; omega) | (simp only [List.length_cons, List.length_nil, Nat.zero_add, Nat.reduceAdd])) only [go_sem, ↓reduceIte, Nat.reduceAdd, Int.reduceNeg, Int.reduceAdd, Int.reduceSub, Int.reduceMul, Int.reduceLT, Int.reduceLE, Int.reduceEq, Int.reduceToNat, Nat.reduceBEq, e_sle, e_sge, e_shl1, e_orI, e_andI, e_shr, wrapu, wrap8, tn1, nat1, ix_s, ix_z, st_s, st_z, fl_s, fl_z, fl1_s, fl1_z, map_s, map_z, true_and]
      rfl
  · obtain rfl : i = l.length := by omega
    rw [List.take_length]
    simp (disch := first | omega | (simp only [List.length_take, List.length_drop, List.length_append, List.map_cons, List.map_nil, List.length_map, List.length_cons, List.length_nil, List.length_set, List.length_replicate]; omega) | (simp only [List.length_cons, List.length_nil, Nat.zero_add, Nat.reduceAdd])) only [go_sem, ↓reduceIte, Nat.reduceAdd, Int.reduceNeg, Int.reduceAdd, Int.reduceSub, Int.reduceMul, Int.reduceLT, Int.reduceLE, Int.reduceEq, Int.reduceToNat, Nat.reduceBEq, e_sle, e_sge, e_shl1, e_orI, e_andI, e_shr, wrapu, wrap8, tn1, nat1, ix_s, ix_z, st_s, st_z, fl_s, fl_z, fl1_s, fl1_z, map_s, map_z, true_and]
    refine br_if (fun h41 => ?_) (fun h41 => ?_)
    · rw [if_pos (by omega)]
      simp (disch := first | omega | (simp only [List.length_take, List.length_drop, List.length_append, List.map_cons, List.map_nil, List.length_map, List.length_cons, List.length_nil, List.length_set, List.length_replicate]; omega) | (simp only [List.length_cons, List.length_nil, Nat.zero_add, Nat.reduceAdd])) only [go_sem, ↓reduceIte, Nat.reduceAdd, Int.reduceNeg, Int.reduceAdd, Int.reduceSub, Int.reduceMul, Int.reduceLT, Int.reduceLE, Int.reduceEq, Int.reduceToNat, Nat.reduceBEq, e_sle, e_sge, e_shl1, e_orI, e_andI, e_shr, wrapu, wrap8, tn1, nat1, ix_s, ix_z, st_s, st_z, fl_s, fl_z, fl1_s, fl1_z, map_s, map_z, true_and]
      rfl
    · rw [if_neg (by omega)]
      simp (disch := first | omega | (simp only [List.length_take, List.length_drop, List.length_append, List.map_cons, List.map_nil, List.length_map, List.length_cons, List.length_nil, List.length_set, List.length_replicate]; omega) | (simp only [List.length_cons, List.length_nil, Nat.zero_add, Nat.reduceAdd])) only [go_sem, ↓reduceIte, Nat.reduceAdd, Int.reduceNeg, Int.reduceAdd, Int.reduceSub, Int.reduceMul, Int.reduceLT, Int.reduceLE, Int.reduceEq, Int.reduceToNat, Nat.reduceBEq, e_sle, e_sge, e_shl1, e_orI, e_andI, e_shr, wrapu, wrap8, tn1, nat1, ix_s, ix_z, st_s, st_z, fl_s, fl_z, fl1_s, fl1_z, map_s, map_z, true_and]
      rfl
end Go.Proofs.Ytkcljmgjbjdccaa

namespace Go.Proofs.Ytkcljmgjbjdccaa
open Go.RowKit
set_option maxRecDepth 100000
def loI (n : Int) : It := if n = 0 ∨ n = 1 then ⟨n, 1, ⟨#[]⟩⟩ else it0
def logV (l : List Int) : Int × List It := if 40 < l.length then (0, []) else (1, l.map loI)
theorem logItem_m (n : Int) : Meets Try.prog 82 [(false, [.sc (.int .i64 n)])] [(true, encIt (loI n), true)] := by
  refine meets_upf Try.func82 u_impl_logicalItem_g rfl ?_; simp only [u_impl_logicalItem_u]
  repeat' (first | (with_reducible refine jn_in ?_) | (with_reducible refine cl_ok (by assumption) rfl ?_) | (with_reducible refine cl_okP (by assumption) rfl ?_) | (with_reducible refine br_if (fun hbr => ?_) (fun hbr => ?_)) | (with_reducible refine br_ifn (fun hbr => ?_) (fun hbr => ?_)) | (with_reducible refine br_nb (fun hbr => ?_) (fun hbr => ?_)) | (with_reducible refine br_b (fun hbr => ?_) (fun hbr => ?_)) | simp (disch := first | omega | (simp only [List.length_take, List.length_drop, List.length_append, List.map_cons, List.map_nil, List.length_map, List.length_cons, List.length_nil, List.length_set, List.length_replicate]; omega) | (simp only [List.length_cons, List.length_nil, Nat.zero_add, Nat.reduceAdd])) only [go_sem, ↓reduceIte, Nat.reduceAdd, Int.reduceNeg, Int.reduceAdd, Int.reduceSub, Int.reduceMul, Int.reduceLT, Int.reduceLE, Int.reduceEq, Int.reduceToNat, Nat.reduceBEq, e_sle, e_sge, e_shl1, e_orI, e_andI, e_shr, wrapu, wrap8, tn1, nat1, ix_s, ix_z, st_s, st_z, fl_s, fl_z, fl1_s, fl1_z, map_s, map_z, true_and])
  · subst_vars; rfl
  · subst_vars; rfl
  · unfold loI; rw [if_neg (by omega)]; rfl
set_option maxHeartbeats 1000000 in
theorem implLogV_m (t : Nat) (l : List Int) (hl : l.length ≤ 100000) : Meets Try.prog 62 [(false, [.sl t 1 (l.map encZ)])] [(true, encF (logV l).1 (logV l).2, true)] := by
  refine meets_upf Try.func62 u_impl_LogicalVector_g rfl ?_; simp only [u_impl_LogicalVector_u]
  unfold logV encF
  simp (disch := first | omega | (simp only [List.length_take, List.length_drop, List.length_append, List.map_cons, List.map_nil, List.length_map, List.length_cons, List.length_nil, List.length_set, List.length_replicate]; omega) | (simp only [List.length_cons, List.length_nil, Nat.zero_add, Nat.reduceAdd])) only [go_sem, ↓reduceIte, Nat.reduceAdd, Int.reduceNeg, Int.reduceAdd, Int.reduceSub, Int.reduceMul, Int.reduceLT, Int.reduceLE, Int.reduceEq, Int.reduceToNat, Nat.reduceBEq, e_sle, e_sge, e_shl1, e_orI, e_andI, e_shr, wrapu, wrap8, tn1, nat1, ix_s, ix_z, st_s, st_z, fl_s, fl_z, fl1_s, fl1_z, map_s, map_z, true_and]
  refine br_if (fun hbr => ?_) (fun hbr => ?_)
  · rw [if_pos (by omega)]
    simp (disch := first | omega | (simp only [List.length_take, List.length_drop, List.length_append, List.map_cons, List.map_nil, List.length_map, List.length_cons, List.length_nil, List.length_set, List.length_replicate]; omega) | (simp only [List.length_cons, List.length_nil, Nat.zero_add, Nat.reduceAdd])) only [go_sem, ↓reduceIte, Nat.reduceAdd, Int.reduceNeg, Int.reduceAdd, Int.reduceSub, Int.reduceMul, Int.reduceLT, Int.reduceLE, Int.reduceEq, Int.reduceToNat, Nat.reduceBEq, e_sle, e_sge, e_shl1, e_orI, e_andI, e_shr, wrapu, wrap8, tn1, nat1, ix_s, ix_z, st_s, st_z, fl_s, fl_z, fl1_s, fl1_z, map_s, map_z, true_and]
    rfl
  rw [if_neg (by omega)]
  simp (disch := first | omega | (simp only [List.length_take, List.length_drop, List.length_append, List.map_cons, List.map_nil, List.length_map, List.length_cons, List.length_nil, List.length_set, List.length_replicate]; omega) | (simp only [List.length_cons, List.length_nil, Nat.zero_add, Nat.reduceAdd])) only [go_sem, ↓reduceIte, Nat.reduceAdd, Int.reduceNeg, Int.reduceAdd, Int.reduceSub, Int.reduceMul, Int.reduceLT, Int.reduceLE, Int.reduceEq, Int.reduceToNat, Nat.reduceBEq, e_sle, e_sge, e_shl1, e_orI, e_andI, e_shr, wrapu, wrap8, tn1, nat1, ix_s, ix_z, st_s, st_z, fl_s, fl_z, fl1_s, fl1_z, map_s, map_z, true_and]
  refine lp (fun i : Nat => [.sc (.int .i64 i), .sl 54 3 (((l.take i).map loI).map encIt)]) (fun i => i ≤ l.length) (fun i => l.length - i) 0 rfl (Nat.zero_le _) ?_
  intro i hi
  simp only [u_impl_LogicalVector_l0]
  simp (disch := first | omega | (simp only [List.length_take, List.length_drop, List.length_append, List.map_cons, List.map_nil, List.length_map, List.length_cons, List.length_nil, List.length_set, List.length_replicate]; omega) | (simp only [List.length_cons, List.length_nil, Nat.zero_add, Nat.reduceAdd])) only [go_sem, ↓reduceIte, Nat.reduceAdd, Int.reduceNeg, Int.reduceAdd, Int.reduceSub, Int.reduceMul, Int.reduceLT, Int.reduceLE, Int.reduceEq, Int.reduceToNat, Nat.reduceBEq, e_sle, e_sge, e_shl1, e_orI, e_andI, e_shr, wrapu, wrap8, tn1, nat1, ix_s, ix_z, st_s, st_z, fl_s, fl_z, fl1_s, fl1_z, map_s, map_z, true_and]
  refine br_if (fun hlt => ?_) (fun hlt => ?_)
  · simp (disch := first | omega | (simp only [List.length_take, List.length_drop, List.length_append, List.map_cons, List.map_nil, List.length_map, List.length_cons, List.length_nil, List.length_set, List.length_replicate]; omega) | (simp only [List.length_cons, List.length_nil, Nat.zero_add, Nat.reduceAdd])) only [go_sem, ↓reduceIte, Nat.reduceAdd, Int.reduceNeg, Int.reduceAdd, Int.reduceSub, Int.reduceMul, Int.reduceLT, Int.reduceLE, Int.reduceEq, Int.reduceToNat, Nat.reduceBEq, e_sle, e_sge, e_shl1, e_orI, e_andI, e_shr, wrapu, wrap8, tn1, nat1, ix_s, ix_z, st_s, st_z, fl_s, fl_z, fl1_s, fl1_z, map_s, map_z, true_and]
    refine cl_ok (logItem_m _) rfl ?_
    simp (disch := first | omega | (simp only [List.length_take, List.length_drop, List.length_append, List.map_cons, List.map_nil, List.length_map, List.length_cons, List.length_nil, List.length_set, List.length_replicate]; omega) | (simp only [List.length_cons, List.length_nil, Nat.zero_add, Nat.reduceAdd])) only [go_sem, ↓reduceIte, Nat.reduceAdd, Int.reduceNeg, Int.reduceAdd, Int.reduceSub, Int.reduceMul, Int.reduceLT, Int.reduceLE, Int.reduceEq, Int.reduceToNat, Nat.reduceBEq, e_sle, e_sge, e_shl1, e_orI, e_andI, e_shr, wrapu, wrap8, tn1, nat1, ix_s, ix_z, st_s, st_z, fl_s, fl_z, fl1_s, fl1_z, map_s, map_z, encIt, fl_3, map_it, nat1]
    exact ⟨i + 1, by rw [take_succD (by omega)]; simp only [List.map_append, List.map_cons, List.map_nil], by omega, by omega⟩
  · obtain rfl : i = l.length := by omega
    rw [List.take_length]
    simp (disch := first | omega | (simp only [List.length_take, List.length_drop, List.length_append, List.map_cons, List.map_nil, List.length_map, List.length_cons, List.length_nil, List.length_set, List.length_replicate]; omega) | (simp only [List.length_cons, List.length_nil, Nat.zero_add, Nat.reduceAdd])) only [go_sem, ↓reduceIte, Nat.reduceAdd, Int.reduceNeg, Int.reduceAdd, Int.reduceSub, Int.reduceMul, Int.reduceLT, Int.reduceLE, Int.reduceEq, Int.reduceToNat, Nat.reduceBEq, e_sle, e_sge, e_shl1, e_orI, e_andI, e_shr, wrapu, wrap8, tn1, nat1, ix_s, ix_z, st_s, st_z, fl_s, fl_z, fl1_s, fl1_z, map_s, map_z, true_and]
    rfl
set_option maxHeartbeats 2000000 in
theorem specLogV_m (t : Nat) (l : List Int) (hl : l.length ≤ 100000) : Meets Try.prog 58 [(false, [.sl t 1 (l.map encZ)])] [(true, encF (logV l).1 (logV l).2, true)] := by
  refine meets_upf Try.func58 u_spec_LogicalVector_g rfl ?_; simp only [u_spec_LogicalVector_u]
  unfold logV encF
  simp (disch := first | omega | (simp only [List.length_take, List.length_drop, List.length_append, List.map_cons, List.map_nil, List.length_map, List.length_cons, List.length_nil, List.length_set, List.length_replicate]; omega) | (simp only [List.length_cons, List.length_nil, Nat.zero_add, Nat.reduceAdd])) only [go_sem, ↓reduceIte, Nat.reduceAdd, Int.reduceNeg, Int.reduceAdd, Int.reduceSub, Int.reduceMul, Int.reduceLT, Int.reduceLE, Int.reduceEq, Int.reduceToNat, Nat.reduceBEq, e_sle, e_sge, e_shl1, e_orI, e_andI, e_shr, wrapu, wrap8, tn1, nat1, ix_s, ix_z, st_s, st_z, fl_s, fl_z, fl1_s, fl1_z, map_s, map_z, true_and]
  refine lp (fun i : Nat => [.sc (.int .i64 i), .sl 54 3 (((l.take i).map loI).map encIt)]) (fun i => i ≤ l.length) (fun i => l.length - i) 0 rfl (Nat.zero_le _) ?_
  intro i hi
  simp only [u_spec_LogicalVector_l1]
  simp (disch := first | omega | (simp only [List.length_take, List.length_drop, List.length_append, List.map_cons, List.map_nil, List.length_map, List.length_cons, List.length_nil, List.length_set, List.length_replicate]; omega) | (simp only [List.length_cons, List.length_nil, Nat.zero_add, Nat.reduceAdd])) only [go_sem, ↓reduceIte, Nat.reduceAdd, Int.reduceNeg, Int.reduceAdd, Int.reduceSub, Int.reduceMul, Int.reduceLT, Int.reduceLE, Int.reduceEq, Int.reduceToNat, Nat.reduceBEq, e_sle, e_sge, e_shl1, e_orI, e_andI, e_shr, wrapu, wrap8, tn1, nat1, ix_s, ix_z, st_s, st_z, fl_s, fl_z, fl1_s, fl1_z, map_s, map_z, true_and]
  refine br_if (fun hlt => ?_) (fun hlt => ?_)
  · simp (disch := first | omega | (simp only [List.length_take, List.length_drop, List.length_append, List.map_cons, List.map_nil, List.length_map, List.length_cons, List.length_nil, List.length_set, List.length_replicate]; omega) | (simp only [List.length_cons, List.length_nil, Nat.zero_add, Nat.reduceAdd])) only [go_sem, ↓reduceIte, Nat.reduceAdd, Int.reduceNeg, Int.reduceAdd, Int.reduceSub, Int.reduceMul, Int.reduceLT, Int.reduceLE, Int.reduceEq, Int.reduceToNat, Nat.reduceBEq, e_sle, e_sge, e_shl1, e_orI, e_andI, e_shr, wrapu, wrap8, tn1, nat1, ix_s, ix_z, st_s, st_z, fl_s, fl_z, fl1_s, fl1_z, map_s, map_z, true_and]
    have hin := mIn (l.getD i default) 0 1
    have hnum := mL2Num (l.getD i default)
    simp only [encIt] at hnum
    have e := take_succD (l := l) (i := i) (by omega)
    have done : ∀ x : It, x = loI (l.getD i default) → ∃ a' : Nat, ([.sc (.int .i64 ((i + 1 : Nat) : Int)), .sl 54 3 ((((l.take i).map loI) ++ [x]).map encIt)] : List DV) = [.sc (.int .i64 (a' : Int)), .sl 54 3 (((l.take a').map loI).map encIt)] ∧ a' ≤ l.length ∧ l.length - a' < l.length - i := by
      rintro x rfl
      exact ⟨i + 1, by rw [e]; simp only [List.map_append, List.map_cons, List.map_nil], by omega, by omega⟩
    refine br_if (fun h40 => ?_) (fun h40 => ?_)
    · simp (disch := first | omega | (simp only [List.length_take, List.length_drop, List.length_append, List.map_cons, List.map_nil, List.length_map, List.length_cons, List.length_nil, List.length_set, List.length_replicate]; omega) | (simp only [List.length_cons, List.length_nil, Nat.zero_add, Nat.reduceAdd])) only [go_sem, ↓reduceIte, Nat.reduceAdd, Int.reduceNeg, Int.reduceAdd, Int.reduceSub, Int.reduceMul, Int.reduceLT, Int.reduceLE, Int.reduceEq, Int.reduceToNat, Nat.reduceBEq, e_sle, e_sge, e_shl1, e_orI, e_andI, e_shr, wrapu, wrap8, tn1, nat1, ix_s, ix_z, st_s, st_z, fl_s, fl_z, fl1_s, fl1_z, map_s, map_z, true_and]
      refine jn_in ?_
      simp (disch := first | omega | (simp only [List.length_take, List.length_drop, List.length_append, List.map_cons, List.map_nil, List.length_map, List.length_cons, List.length_nil, List.length_set, List.length_replicate]; omega) | (simp only [List.length_cons, List.length_nil, Nat.zero_add, Nat.reduceAdd])) only [go_sem, ↓reduceIte, Nat.reduceAdd, Int.reduceNeg, Int.reduceAdd, Int.reduceSub, Int.reduceMul, Int.reduceLT, Int.reduceLE, Int.reduceEq, Int.reduceToNat, Nat.reduceBEq, e_sle, e_sge, e_shl1, e_orI, e_andI, e_shr, wrapu, wrap8, tn1, nat1, ix_s, ix_z, st_s, st_z, fl_s, fl_z, fl1_s, fl1_z, map_s, map_z, true_and]
      refine cl_ok hin rfl ?_
      simp (disch := first | omega | (simp only [List.length_take, List.length_drop, List.length_append, List.map_cons, List.map_nil, List.length_map, List.length_cons, List.length_nil, List.length_set, List.length_replicate]; omega) | (simp only [List.length_cons, List.length_nil, Nat.zero_add, Nat.reduceAdd])) only [go_sem, ↓reduceIte, Nat.reduceAdd, Int.reduceNeg, Int.reduceAdd, Int.reduceSub, Int.reduceMul, Int.reduceLT, Int.reduceLE, Int.reduceEq, Int.reduceToNat, Nat.reduceBEq, e_sle, e_sge, e_shl1, e_orI, e_andI, e_shr, wrapu, wrap8, tn1, nat1, ix_s, ix_z, st_s, st_z, fl_s, fl_z, fl1_s, fl1_z, map_s, map_z, true_and]
      refine br_if (fun h01 => ?_) (fun h01 => ?_)
      · simp (disch := first | omega | (simp only [List.length_take, List.length_drop, List.length_append, List.map_cons, List.map_nil, List.length_map, List.length_cons, List.length_nil, List.length_set, List.length_replicate]; omega) | (simp only [List.length_cons, List.length_nil, Nat.zero_add, Nat.reduceAdd])) only [go_sem, ↓reduceIte, Nat.reduceAdd, Int.reduceNeg, Int.reduceAdd, Int.reduceSub, Int.reduceMul, Int.reduceLT, Int.reduceLE, Int.reduceEq, Int.reduceToNat, Nat.reduceBEq, e_sle, e_sge, e_shl1, e_orI, e_andI, e_shr, wrapu, wrap8, tn1, nat1, ix_s, ix_z, st_s, st_z, fl_s, fl_z, fl1_s, fl1_z, map_s, map_z, true_and]
        refine cl_ok hnum rfl ?_
        simp (disch := first | omega | (simp only [List.length_take, List.length_drop, List.length_append, List.map_cons, List.map_nil, List.length_map, List.length_cons, List.length_nil, List.length_set, List.length_replicate]; omega) | (simp only [List.length_cons, List.length_nil, Nat.zero_add, Nat.reduceAdd])) only [go_sem, ↓reduceIte, Nat.reduceAdd, Int.reduceNeg, Int.reduceAdd, Int.reduceSub, Int.reduceMul, Int.reduceLT, Int.reduceLE, Int.reduceEq, Int.reduceToNat, Nat.reduceBEq, e_sle, e_sge, e_shl1, e_orI, e_andI, e_shr, wrapu, wrap8, tn1, nat1, ix_s, ix_z, st_s, st_z, fl_s, fl_z, fl1_s, fl1_z, map_s, map_z, fl_3, map_it, u_spec_LogicalVector_j0, nat1]
        exact done _ (by unfold loI; rw [if_pos (by omega)]; rfl)
      · simp (disch := first | omega | (simp only [List.length_take, List.length_drop, List.length_append, List.map_cons, List.map_nil, List.length_map, List.length_cons, List.length_nil, List.length_set, List.length_replicate]; omega) | (simp only [List.length_cons, List.length_nil, Nat.zero_add, Nat.reduceAdd])) only [go_sem, ↓reduceIte, Nat.reduceAdd, Int.reduceNeg, Int.reduceAdd, Int.reduceSub, Int.reduceMul, Int.reduceLT, Int.reduceLE, Int.reduceEq, Int.reduceToNat, Nat.reduceBEq, e_sle, e_sge, e_shl1, e_orI, e_andI, e_shr, wrapu, wrap8, tn1, nat1, ix_s, ix_z, st_s, st_z, fl_s, fl_z, fl1_s, fl1_z, map_s, map_z, fl_3, map_it3, u_spec_LogicalVector_j0, nat1]
        exact done _ (by unfold loI; rw [if_neg (by omega)]; rfl)
    · simp (disch := first | omega | (simp only [List.length_take, List.length_drop, List.length_append, List.map_cons, List.map_nil, List.length_map, List.length_cons, List.length_nil, List.length_set, List.length_replicate]; omega) | (simp only [List.length_cons, List.length_nil, Nat.zero_add, Nat.reduceAdd])) only [go_sem, ↓reduceIte, Nat.reduceAdd, Int.reduceNeg, Int.reduceAdd, Int.reduceSub, Int.reduceMul, Int.reduceLT, Int.reduceLE, Int.reduceEq, Int.reduceToNat, Nat.reduceBEq, e_sle, e_sge, e_shl1, e_orI, e_andI, e_shr, wrapu, wrap8, tn1, nat1, ix_s, ix_z, st_s, st_z, fl_s, fl_z, fl1_s, fl1_z, map_s, map_z, true_and]
      refine br_if (fun h41 => ?_) (fun h41 => absurd h41 (by omega))
      rw [if_pos (by omega)]
      simp (disch := first | omega | (simp only [List.length_take, List.length_drop, List.length_append, List.map_cons, List.map_nil, List.length_map, List.length_cons, List.length_nil, List.length_set, List.length_replicate]; omega) | (simp only [List.length_cons, List.length_nil, Nat.zero_add, Nat.reduceAdd])) only [go_sem, ↓reduceIte, Nat.reduceAdd, Int.reduceNeg, Int.reduceAdd, Int.reduceSub, Int.reduceMul, Int.reduceLT, Int.reduceLE, Int.reduceEq, Int.reduceToNat, Nat.reduceBEq, e_sle, e_sge, e_shl1, e_orI, e_andI, e_shr, wrapu, wrap8, tn1, nat1, ix_s, ix_z, st_s, st_z, fl_s, fl_z, fl1_s, fl1_z, map_s, map_z, true_and]
      rfl
  · obtain rfl : i = l.length := by omega
    rw [List.take_length]
    simp (disch := first | omega | (simp only [List.length_take, List.length_drop, List.length_append, List.map_cons, List.map_nil, List.length_map, List.length_cons, List.length_nil, List.length_set, List.length_replicate]; omega) | (simp only [List.length_cons, List.length_nil, Nat.zero_add, Nat.reduceAdd])) only [go_sem, ↓reduceIte, Nat.reduceAdd, Int.reduceNeg, Int.reduceAdd, Int.reduceSub, Int.reduceMul, Int.reduceLT, Int.reduceLE, Int.reduceEq, Int.reduceToNat, Nat.reduceBEq, e_sle, e_sge, e_shl1, e_orI, e_andI, e_shr, wrapu, wrap8, tn1, nat1, ix_s, ix_z, st_s, st_z, fl_s, fl_z, fl1_s, fl1_z, map_s, map_z, true_and]
    refine br_if (fun h41 => ?_) (fun h41 => ?_)
    · rw [if_pos (by omega)]
      simp (disch := first | omega | (simp only [List.length_take, List.length_drop, List.length_append, List.map_cons, List.map_nil, List.length_map, List.length_cons, List.length_nil, List.length_set, List.length_replicate]; omega) | (simp only [List.length_cons, List.length_nil, Nat.zero_add, Nat.reduceAdd])) only [go_sem, ↓reduceIte, Nat.reduceAdd, Int.reduceNeg, Int.reduceAdd, Int.reduceSub, Int.reduceMul, Int.reduceLT, Int.reduceLE, Int.reduceEq, Int.reduceToNat, Nat.reduceBEq, e_sle, e_sge, e_shl1, e_orI, e_andI, e_shr, wrapu, wrap8, tn1, nat1, ix_s, ix_z, st_s, st_z, fl_s, fl_z, fl1_s, fl1_z, map_s, map_z, true_and]
      rfl
    · rw [if_neg (by omega)]
      simp (disch := first | omega | (simp only [List.length_take, List.length_drop, List.length_append, List.map_cons, List.map_nil, List.length_map, List.length_cons, List.length_nil, List.length_set, List.length_replicate]; omega) | (simp only [List.length_cons, List.length_nil, Nat.zero_add, Nat.reduceAdd])) only [go_sem, ↓reduceIte, Nat.reduceAdd, Int.reduceNeg, Int.reduceAdd, Int.reduceSub, Int.reduceMul, Int.reduceLT, Int.reduceLE, Int.reduceEq, Int.reduceToNat, Nat.reduceBEq, e_sle, e_sge, e_shl1, e_orI, e_andI, e_shr, wrapu, wrap8, tn1, nat1, ix_s, ix_z, st_s, st_z, fl_s, fl_z, fl1_s, fl1_z, map_s, map_z, true_and]
      rfl
def txI (s : ByteArray) : It := ⟨0, 1, s⟩
def txtV (l : List ByteArray) : Int × List It := if 40 < l.length then (0, []) else if (l.all fun s => decide (s.size ≤ 60)) = true then (3, l.map txI) else (0, [])
theorem textItem_m (s : ByteArray) : Meets Try.prog 81 [(false, [.sc (.string s)])] [(true, encIt (txI s), true)] := by
  refine meets_upf Try.func81 u_impl_textItem_g rfl ?_; simp only [u_impl_textItem_u]
  repeat' (first | (with_reducible refine jn_in ?_) | (with_reducible refine cl_ok (by assumption) rfl ?_) | (with_reducible refine cl_okP (by assumption) rfl ?_) | (with_reducible refine br_if (fun hbr => ?_) (fun hbr => ?_)) | (with_reducible refine br_ifn (fun hbr => ?_) (fun hbr => ?_)) | (with_reducible refine br_nb (fun hbr => ?_) (fun hbr => ?_)) | (with_reducible refine br_b (fun hbr => ?_) (fun hbr => ?_)) | simp (disch := first | omega | (simp only [List.length_take, List.length_drop, List.length_append, List.map_cons, List.map_nil, List.length_map, List.length_cons, List.length_nil, List.length_set, List.length_replicate]; omega) | (simp only [List.length_cons, List.length_nil, Nat.zero_add, Nat.reduceAdd])) only [go_sem, ↓reduceIte, Nat.reduceAdd, Int.reduceNeg, Int.reduceAdd, Int.reduceSub, Int.reduceMul, Int.reduceLT, Int.reduceLE, Int.reduceEq, Int.reduceToNat, Nat.reduceBEq, e_sle, e_sge, e_shl1, e_orI, e_andI, e_shr, wrapu, wrap8, tn1, nat1, ix_s, ix_z, st_s, st_z, fl_s, fl_z, fl1_s, fl1_z, map_s, map_z, true_and])
  rfl
theorem l4Text_m (s : ByteArray) : Meets Try.prog 74 [(false, [.sc (.string s)])] [(true, encIt (txI s), true)] := by
  refine meets_upf Try.func74 u_spec_l4Text_g rfl ?_; simp only [u_spec_l4Text_u]
  repeat' (first | (with_reducible refine jn_in ?_) | (with_reducible refine cl_ok (by assumption) rfl ?_) | (with_reducible refine cl_okP (by assumption) rfl ?_) | (with_reducible refine br_if (fun hbr => ?_) (fun hbr => ?_)) | (with_reducible refine br_ifn (fun hbr => ?_) (fun hbr => ?_)) | (with_reducible refine br_nb (fun hbr => ?_) (fun hbr => ?_)) | (with_reducible refine br_b (fun hbr => ?_) (fun hbr => ?_)) | simp (disch := first | omega | (simp only [List.length_take, List.length_drop, List.length_append, List.map_cons, List.map_nil, List.length_map, List.length_cons, List.length_nil, List.length_set, List.length_replicate]; omega) | (simp only [List.length_cons, List.length_nil, Nat.zero_add, Nat.reduceAdd])) only [go_sem, ↓reduceIte, Nat.reduceAdd, Int.reduceNeg, Int.reduceAdd, Int.reduceSub, Int.reduceMul, Int.reduceLT, Int.reduceLE, Int.reduceEq, Int.reduceToNat, Nat.reduceBEq, e_sle, e_sge, e_shl1, e_orI, e_andI, e_shr, wrapu, wrap8, tn1, nat1, ix_s, ix_z, st_s, st_z, fl_s, fl_z, fl1_s, fl1_z, map_s, map_z, true_and])
  rfl
theorem all_take {l : List ByteArray} {i : Nat} (p : ByteArray → Bool) (h : i < l.length) : (l.take (i + 1)).all p = ((l.take i).all p && p (l.getD i default)) := by
  rw [take_succD h, List.all_append]; simp
set_option maxHeartbeats 1000000 in
theorem implTxtV_m (t : Nat) (l : List ByteArray) (hl : l.length ≤ 100000) : Meets Try.prog 61 [(false, [.sl t 1 (l.map encS)])] [(true, encF (txtV l).1 (txtV l).2, true)] := by
  refine meets_upf Try.func61 u_impl_TextVector_g rfl ?_; simp only [u_impl_TextVector_u]
  unfold txtV encF
  simp (disch := first | omega | (simp only [List.length_take, List.length_drop, List.length_append, List.map_cons, List.map_nil, List.length_map, List.length_cons, List.length_nil, List.length_set, List.length_replicate]; omega) | (simp only [List.length_cons, List.length_nil, Nat.zero_add, Nat.reduceAdd])) only [go_sem, ↓reduceIte, Nat.reduceAdd, Int.reduceNeg, Int.reduceAdd, Int.reduceSub, Int.reduceMul, Int.reduceLT, Int.reduceLE, Int.reduceEq, Int.reduceToNat, Nat.reduceBEq, e_sle, e_sge, e_shl1, e_orI, e_andI, e_shr, wrapu, wrap8, tn1, nat1, ix_s, ix_z, st_s, st_z, fl_s, fl_z, fl1_s, fl1_z, map_s, map_z, true_and]
  refine br_if (fun hbr => ?_) (fun hbr => ?_)
  · rw [if_pos (by omega)]
    simp (disch := first | omega | (simp only [List.length_take, List.length_drop, List.length_append, List.map_cons, List.map_nil, List.length_map, List.length_cons, List.length_nil, List.length_set, List.length_replicate]; omega) | (simp only [List.length_cons, List.length_nil, Nat.zero_add, Nat.reduceAdd])) only [go_sem, ↓reduceIte, Nat.reduceAdd, Int.reduceNeg, Int.reduceAdd, Int.reduceSub, Int.reduceMul, Int.reduceLT, Int.reduceLE, Int.reduceEq, Int.reduceToNat, Nat.reduceBEq, e_sle, e_sge, e_shl1, e_orI, e_andI, e_shr, wrapu, wrap8, tn1, nat1, ix_s, ix_z, st_s, st_z, fl_s, fl_z, fl1_s, fl1_z, map_s, map_z, true_and]
    rfl
  rw [if_neg (by omega)]
  simp (disch := first | omega | (simp only [List.length_take, List.length_drop, List.length_append, List.map_cons, List.map_nil, List.length_map, List.length_cons, List.length_nil, List.length_set, List.length_replicate]; omega) | (simp only [List.length_cons, List.length_nil, Nat.zero_add, Nat.reduceAdd])) only [go_sem, ↓reduceIte, Nat.reduceAdd, Int.reduceNeg, Int.reduceAdd, Int.reduceSub, Int.reduceMul, Int.reduceLT, Int.reduceLE, Int.reduceEq, Int.reduceToNat, Nat.reduceBEq, e_sle, e_sge, e_shl1, e_orI, e_andI, e_shr, wrapu, wrap8, tn1, nat1, ix_s, ix_z, st_s, st_z, fl_s, fl_z, fl1_s, fl1_z, map_s, map_z, true_and]
  refine lp (fun i : Nat => [.sc (.int .i64 i), .sl 54 3 (((l.take i).map txI).map encIt)]) (fun i => i ≤ l.length ∧ ((l.take i).all fun s => decide (s.size ≤ 60)) = true) (fun i => l.length - i) 0 rfl ⟨Nat.zero_le _, rfl⟩ ?_
  rintro i ⟨hi, ha⟩
  simp only [u_impl_TextVector_l0]
  simp (disch := first | omega | (simp only [List.length_take, List.length_drop, List.length_append, List.map_cons, List.map_nil, List.length_map, List.length_cons, List.length_nil, List.length_set, List.length_replicate]; omega) | (simp only [List.length_cons, List.length_nil, Nat.zero_add, Nat.reduceAdd])) only [go_sem, ↓reduceIte, Nat.reduceAdd, Int.reduceNeg, Int.reduceAdd, Int.reduceSub, Int.reduceMul, Int.reduceLT, Int.reduceLE, Int.reduceEq, Int.reduceToNat, Nat.reduceBEq, e_sle, e_sge, e_shl1, e_orI, e_andI, e_shr, wrapu, wrap8, tn1, nat1, ix_s, ix_z, st_s, st_z, fl_s, fl_z, fl1_s, fl1_z, map_s, map_z, true_and]
  refine br_if (fun hlt => ?_) (fun hlt => ?_)
  · simp (disch := first | omega | (simp only [List.length_take, List.length_drop, List.length_append, List.map_cons, List.map_nil, List.length_map, List.length_cons, List.length_nil, List.length_set, List.length_replicate]; omega) | (simp only [List.length_cons, List.length_nil, Nat.zero_add, Nat.reduceAdd])) only [go_sem, ↓reduceIte, Nat.reduceAdd, Int.reduceNeg, Int.reduceAdd, Int.reduceSub, Int.reduceMul, Int.reduceLT, Int.reduceLE, Int.reduceEq, Int.reduceToNat, Nat.reduceBEq, e_sle, e_sge, e_shl1, e_orI, e_andI, e_shr, wrapu, wrap8, tn1, nat1, ix_s, ix_z, st_s, st_z, fl_s, fl_z, fl1_s, fl1_z, map_s, map_z, true_and]
    refine br_if (fun h60 => ?_) (fun h60 => ?_)
    · have : (l.all fun s => decide (s.size ≤ 60)) = false := by
        rw [List.all_eq_false]
        exact ⟨l.getD i default, getD_mem (by omega), by rw [decide_eq_true_eq]; omega⟩
      rw [if_neg (by simp [this])]
      simp (disch := first | omega | (simp only [List.length_take, List.length_drop, List.length_append, List.map_cons, List.map_nil, List.length_map, List.length_cons, List.length_nil, List.length_set, List.length_replicate]; omega) | (simp only [List.length_cons, List.length_nil, Nat.zero_add, Nat.reduceAdd])) only [go_sem, ↓reduceIte, Nat.reduceAdd, Int.reduceNeg, Int.reduceAdd, Int.reduceSub, Int.reduceMul, Int.reduceLT, Int.reduceLE, Int.reduceEq, Int.reduceToNat, Nat.reduceBEq, e_sle, e_sge, e_shl1, e_orI, e_andI, e_shr, wrapu, wrap8, tn1, nat1, ix_s, ix_z, st_s, st_z, fl_s, fl_z, fl1_s, fl1_z, map_s, map_z, true_and]
      rfl
    · simp (disch := first | omega | (simp only [List.length_take, List.length_drop, List.length_append, List.map_cons, List.map_nil, List.length_map, List.length_cons, List.length_nil, List.length_set, List.length_replicate]; omega) | (simp only [List.length_cons, List.length_nil, Nat.zero_add, Nat.reduceAdd])) only [go_sem, ↓reduceIte, Nat.reduceAdd, Int.reduceNeg, Int.reduceAdd, Int.reduceSub, Int.reduceMul, Int.reduceLT, Int.reduceLE, Int.reduceEq, Int.reduceToNat, Nat.reduceBEq, e_sle, e_sge, e_shl1, e_orI, e_andI, e_shr, wrapu, wrap8, tn1, nat1, ix_s, ix_z, st_s, st_z, fl_s, fl_z, fl1_s, fl1_z, map_s, map_z, true_and]
      refine cl_ok (textItem_m _) rfl ?_
      simp (disch := first | omega | (simp only [List.length_take, List.length_drop, List.length_append, List.map_cons, List.map_nil, List.length_map, List.length_cons, List.length_nil, List.length_set, List.length_replicate]; omega) | (simp only [List.length_cons, List.length_nil, Nat.zero_add, Nat.reduceAdd])) only [go_sem, ↓reduceIte, Nat.reduceAdd, Int.reduceNeg, Int.reduceAdd, Int.reduceSub, Int.reduceMul, Int.reduceLT, Int.reduceLE, Int.reduceEq, Int.reduceToNat, Nat.reduceBEq, e_sle, e_sge, e_shl1, e_orI, e_andI, e_shr, wrapu, wrap8, tn1, nat1, ix_s, ix_z, st_s, st_z, fl_s, fl_z, fl1_s, fl1_z, map_s, map_z, encIt, fl_3, map_it, nat1]
      exact ⟨i + 1, by rw [take_succD (by omega)]; simp only [List.map_append, List.map_cons, List.map_nil], ⟨by omega, by rw [all_take _ (by omega), ha, Bool.true_and, decide_eq_true_eq]; omega⟩, by omega⟩
  · obtain rfl : i = l.length := by omega
    rw [List.take_length] at ha ⊢
    rw [if_pos ha]
    simp (disch := first | omega | (simp only [List.length_take, List.length_drop, List.length_append, List.map_cons, List.map_nil, List.length_map, List.length_cons, List.length_nil, List.length_set, List.length_replicate]; omega) | (simp only [List.length_cons, List.length_nil, Nat.zero_add, Nat.reduceAdd])) only [go_sem, ↓reduceIte, Nat.reduceAdd, Int.reduceNeg, Int.reduceAdd, Int.reduceSub, Int.reduceMul, Int.reduceLT, Int.reduceLE, Int.reduceEq, Int.reduceToNat, Nat.reduceBEq, e_sle, e_sge, e_shl1, e_orI, e_andI, e_shr, wrapu, wrap8, tn1, nat1, ix_s, ix_z, st_s, st_z, fl_s, fl_z, fl1_s, fl1_z, map_s, map_z, true_and]
    rfl
theorem l4Named0_m (t : Nat) : Meets Try.prog 64 [(false, [.sl t 1 []])] [(false, [.sc (.bool true)], true)] := by
  refine meets_upf Try.func64 u_spec_l4Named_g rfl ?_; simp only [u_spec_l4Named_u]
  simp (disch := first | omega | (simp only [List.length_take, List.length_drop, List.length_append, List.map_cons, List.map_nil, List.length_map, List.length_cons, List.length_nil, List.length_set, List.length_replicate]; omega) | (simp only [List.length_cons, List.length_nil, Nat.zero_add, Nat.reduceAdd])) only [go_sem, ↓reduceIte, Nat.reduceAdd, Int.reduceNeg, Int.reduceAdd, Int.reduceSub, Int.reduceMul, Int.reduceLT, Int.reduceLE, Int.reduceEq, Int.reduceToNat, Nat.reduceBEq, e_sle, e_sge, e_shl1, e_orI, e_andI, e_shr, wrapu, wrap8, tn1, nat1, ix_s, ix_z, st_s, st_z, fl_s, fl_z, fl1_s, fl1_z, map_s, map_z, true_and]
  refine lp_n 0 (fun _ => [.sc (.int .i64 0), .sc (.bool true)]) rfl fun i hi => ?_
  simp only [u_spec_l4Named_l1]
  repeat' (first | (with_reducible refine jn_in ?_) | (with_reducible refine cl_ok (by assumption) rfl ?_) | (with_reducible refine cl_okP (by assumption) rfl ?_) | (with_reducible refine br_if (fun hbr => ?_) (fun hbr => ?_)) | (with_reducible refine br_ifn (fun hbr => ?_) (fun hbr => ?_)) | (with_reducible refine br_nb (fun hbr => ?_) (fun hbr => ?_)) | (with_reducible refine br_b (fun hbr => ?_) (fun hbr => ?_)) | simp (disch := first | omega | (simp only [List.length_take, List.length_drop, List.length_append, List.map_cons, List.map_nil, List.length_map, List.length_cons, List.length_nil, List.length_set, List.length_replicate]; omega) | (simp only [List.length_cons, List.length_nil, Nat.zero_add, Nat.reduceAdd])) only [go_sem, ↓reduceIte, Nat.reduceAdd, Int.reduceNeg, Int.reduceAdd, Int.reduceSub, Int.reduceMul, Int.reduceLT, Int.reduceLE, Int.reduceEq, Int.reduceToNat, Nat.reduceBEq, e_sle, e_sge, e_shl1, e_orI, e_andI, e_shr, wrapu, wrap8, tn1, nat1, ix_s, ix_z, st_s, st_z, fl_s, fl_z, fl1_s, fl1_z, map_s, map_z, true_and])
  rfl
theorem l4Labels0_m (t : Nat) (n : Int) (hn : 0 ≤ n) : Meets Try.prog 65 [(false, [.sl t 1 []]), (false, [.sc (.int .i64 n)])] [(false, [.sc (.bool true)], true)] := by
  refine meets_upf Try.func65 u_spec_l4Labels_g rfl ?_; simp only [u_spec_l4Labels_u]
  simp (disch := first | omega | (simp only [List.length_take, List.length_drop, List.length_append, List.map_cons, List.map_nil, List.length_map, List.length_cons, List.length_nil, List.length_set, List.length_replicate]; omega) | (simp only [List.length_cons, List.length_nil, Nat.zero_add, Nat.reduceAdd])) only [go_sem, ↓reduceIte, Nat.reduceAdd, Int.reduceNeg, Int.reduceAdd, Int.reduceSub, Int.reduceMul, Int.reduceLT, Int.reduceLE, Int.reduceEq, Int.reduceToNat, Nat.reduceBEq, e_sle, e_sge, e_shl1, e_orI, e_andI, e_shr, wrapu, wrap8, tn1, nat1, ix_s, ix_z, st_s, st_z, fl_s, fl_z, fl1_s, fl1_z, map_s, map_z, true_and]
  refine lp_n 0 (fun _ => [.sc (.int .i64 0)]) rfl fun i hi => ?_
  simp only [u_spec_l4Labels_l0]
  repeat' (first | (with_reducible refine jn_in ?_) | (with_reducible refine cl_ok (by assumption) rfl ?_) | (with_reducible refine cl_okP (by assumption) rfl ?_) | (with_reducible refine br_if (fun hbr => ?_) (fun hbr => ?_)) | (with_reducible refine br_ifn (fun hbr => ?_) (fun hbr => ?_)) | (with_reducible refine br_nb (fun hbr => ?_) (fun hbr => ?_)) | (with_reducible refine br_b (fun hbr => ?_) (fun hbr => ?_)) | simp (disch := first | omega | (simp only [List.length_take, List.length_drop, List.length_append, List.map_cons, List.map_nil, List.length_map, List.length_cons, List.length_nil, List.length_set, List.length_replicate]; omega) | (simp only [List.length_cons, List.length_nil, Nat.zero_add, Nat.reduceAdd])) only [go_sem, ↓reduceIte, Nat.reduceAdd, Int.reduceNeg, Int.reduceAdd, Int.reduceSub, Int.reduceMul, Int.reduceLT, Int.reduceLE, Int.reduceEq, Int.reduceToNat, Nat.reduceBEq, e_sle, e_sge, e_shl1, e_orI, e_andI, e_shr, wrapu, wrap8, tn1, nat1, ix_s, ix_z, st_s, st_z, fl_s, fl_z, fl1_s, fl1_z, map_s, map_z, true_and])
  exact ret_b (decide_eq_true hn).symm
theorem l4LenF_m (k : Int) (its : List It) (hl : its.length ≤ 1000000) : Meets Try.prog 63 [(true, encF k its)] [(false, [.sc (.int .i64 (if k = 5 then 1 else its.length))], true)] := by
  refine meets_upf Try.func63 u_spec_l4Len_g rfl ?_; simp only [u_spec_l4Len_u]
  unfold encF
  repeat' (first | (with_reducible refine jn_in ?_) | (with_reducible refine cl_ok (by assumption) rfl ?_) | (with_reducible refine cl_okP (by assumption) rfl ?_) | (with_reducible refine br_if (fun hbr => ?_) (fun hbr => ?_)) | (with_reducible refine br_ifn (fun hbr => ?_) (fun hbr => ?_)) | (with_reducible refine br_nb (fun hbr => ?_) (fun hbr => ?_)) | (with_reducible refine br_b (fun hbr => ?_) (fun hbr => ?_)) | simp (disch := first | omega | (simp only [List.length_take, List.length_drop, List.length_append, List.map_cons, List.map_nil, List.length_map, List.length_cons, List.length_nil, List.length_set, List.length_replicate]; omega) | (simp only [List.length_cons, List.length_nil, Nat.zero_add, Nat.reduceAdd])) only [go_sem, ↓reduceIte, Nat.reduceAdd, Int.reduceNeg, Int.reduceAdd, Int.reduceSub, Int.reduceMul, Int.reduceLT, Int.reduceLE, Int.reduceEq, Int.reduceToNat, Nat.reduceBEq, e_sle, e_sge, e_shl1, e_orI, e_andI, e_shr, wrapu, wrap8, tn1, nat1, ix_s, ix_z, st_s, st_z, fl_s, fl_z, fl1_s, fl1_z, map_s, map_z, true_and])
  · rw [if_pos ‹_›]; rfl
  · rw [if_neg ‹_›]; rfl
def itT (x : It) : Bool := decide (x = it0) || (decide (x.num = 0) && (decide (x.den = 1) && decide ((x.text.size : Int) ≤ 60)))
theorem eq_it (x y : It) : eqKD [.i, .i, .s] (encIt x) (encIt y) = some (decide (x = y)) := by
  obtain ⟨a, b, c⟩ := x
  obtain ⟨a', b', c'⟩ := y
  simp only [encIt, eqKD, eqK, if_true, It.mk.injEq, Bool.and_true]
  congr 1
  rw [← Bool.decide_and, ← Bool.decide_and]
theorem eq0_it (x : It) : eEqS false [.i, .i, .s] (some [.sc (.int .i64 x.num), .sc (.int .i64 x.den), .sc (.string x.text)]) (some [.sc (.int .i64 0), .sc (.int .i64 0), .sc (.string ⟨#[]⟩)]) = some [.sc (.bool (decide (x = it0)))] := e_eqS (eq_it x it0)
theorem l4ItemT_m (x : It) : Meets Try.prog 66 [(false, [.sc (.int .i64 3)]), (true, encIt x)] [(false, [.sc (.bool (itT x))], true)] := by
  refine meets_upf Try.func66 u_spec_l4Item_g rfl ?_; simp only [u_spec_l4Item_u]
  unfold encIt itT
  repeat' (first | (with_reducible refine jn_in ?_) | (with_reducible refine cl_ok (by assumption) rfl ?_) | (with_reducible refine cl_okP (by assumption) rfl ?_) | (with_reducible refine br_if (fun hbr => ?_) (fun hbr => ?_)) | (with_reducible refine br_ifn (fun hbr => ?_) (fun hbr => ?_)) | (with_reducible refine br_nb (fun hbr => ?_) (fun hbr => ?_)) | (with_reducible refine br_b (fun hbr => ?_) (fun hbr => ?_)) | simp (disch := first | omega | (simp only [List.length_take, List.length_drop, List.length_append, List.map_cons, List.map_nil, List.length_map, List.length_cons, List.length_nil, List.length_set, List.length_replicate]; omega) | (simp only [List.length_cons, List.length_nil, Nat.zero_add, Nat.reduceAdd])) only [go_sem, ↓reduceIte, Nat.reduceAdd, Int.reduceNeg, Int.reduceAdd, Int.reduceSub, Int.reduceMul, Int.reduceLT, Int.reduceLE, Int.reduceEq, Int.reduceToNat, Nat.reduceBEq, e_sle, e_sge, e_shl1, e_orI, e_andI, e_shr, wrapu, wrap8, tn1, nat1, ix_s, ix_z, st_s, st_z, fl_s, fl_z, fl1_s, fl1_z, map_s, map_z, eq0_it])
  all_goals exact ret_b (by simp [*])
set_option maxHeartbeats 4000000 in
theorem l4IsT_m (its : List It) (n : Int) (hl : its.length ≤ 1000000) : Meets Try.prog 47 [(true, encF 3 its), (false, [.sc (.int .i64 n)])] [(false, [.sc (.bool (decide (its.length ≤ 40) && its.all itT))], true)] := by
  have h1 := l4LenF_m 3 its hl
  have h2 := l4Named0_m 9
  have h3 := l4Labels0_m 9 3 (by omega)
  have h4 := l4Labels0_m 9 20 (by omega)
  have h5 := mIn 3 0 5
  have h6 := fun i => l4ItemT_m (its.getD i default)
  simp only [encIt] at h6
  rw [if_neg (by omega)] at h1
  rw [decide_eq_true (by omega)] at h5
  refine meets_upf Try.func47 u_spec_l4Is_g rfl ?_; simp only [u_spec_l4Is_u]
  unfold encF at h1 ⊢
  simp (disch := first | omega | (simp only [List.length_take, List.length_drop, List.length_append, List.map_cons, List.map_nil, List.length_map, List.length_cons, List.length_nil, List.length_set, List.length_replicate]; omega) | (simp only [List.length_cons, List.length_nil, Nat.zero_add, Nat.reduceAdd])) only [go_sem, ↓reduceIte, Nat.reduceAdd, Int.reduceNeg, Int.reduceAdd, Int.reduceSub, Int.reduceMul, Int.reduceLT, Int.reduceLE, Int.reduceEq, Int.reduceToNat, Nat.reduceBEq, e_sle, e_sge, e_shl1, e_orI, e_andI, e_shr, wrapu, wrap8, tn1, nat1, ix_s, ix_z, st_s, st_z, fl_s, fl_z, fl1_s, fl1_z, map_s, map_z, true_and]
  refine cl_ok h1 rfl ?_
  simp (disch := first | omega | (simp only [List.length_take, List.length_drop, List.length_append, List.map_cons, List.map_nil, List.length_map, List.length_cons, List.length_nil, List.length_set, List.length_replicate]; omega) | (simp only [List.length_cons, List.length_nil, Nat.zero_add, Nat.reduceAdd])) only [go_sem, ↓reduceIte, Nat.reduceAdd, Int.reduceNeg, Int.reduceAdd, Int.reduceSub, Int.reduceMul, Int.reduceLT, Int.reduceLE, Int.reduceEq, Int.reduceToNat, Nat.reduceBEq, e_sle, e_sge, e_shl1, e_orI, e_andI, e_shr, wrapu, wrap8, tn1, nat1, ix_s, ix_z, st_s, st_z, fl_s, fl_z, fl1_s, fl1_z, map_s, map_z, true_and]
  refine jn_in ?_
  simp (disch := first | omega | (simp only [List.length_take, List.length_drop, List.length_append, List.map_cons, List.map_nil, List.length_map, List.length_cons, List.length_nil, List.length_set, List.length_replicate]; omega) | (simp only [List.length_cons, List.length_nil, Nat.zero_add, Nat.reduceAdd])) only [go_sem, ↓reduceIte, Nat.reduceAdd, Int.reduceNeg, Int.reduceAdd, Int.reduceSub, Int.reduceMul, Int.reduceLT, Int.reduceLE, Int.reduceEq, Int.reduceToNat, Nat.reduceBEq, e_sle, e_sge, e_shl1, e_orI, e_andI, e_shr, wrapu, wrap8, tn1, nat1, ix_s, ix_z, st_s, st_z, fl_s, fl_z, fl1_s, fl1_z, map_s, map_z, true_and]
  refine cl_ok h5 rfl ?_
  simp (disch := first | omega | (simp only [List.length_take, List.length_drop, List.length_append, List.map_cons, List.map_nil, List.length_map, List.length_cons, List.length_nil, List.length_set, List.length_replicate]; omega) | (simp only [List.length_cons, List.length_nil, Nat.zero_add, Nat.reduceAdd])) only [go_sem, ↓reduceIte, Nat.reduceAdd, Int.reduceNeg, Int.reduceAdd, Int.reduceSub, Int.reduceMul, Int.reduceLT, Int.reduceLE, Int.reduceEq, Int.reduceToNat, Nat.reduceBEq, e_sle, e_sge, e_shl1, e_orI, e_andI, e_shr, wrapu, wrap8, tn1, nat1, ix_s, ix_z, st_s, st_z, fl_s, fl_z, fl1_s, fl1_z, map_s, map_z, true_and]
  refine br_if (fun h40 => ?_) (fun h40 => ?_)
  · rw [decide_eq_false (by omega)]
    repeat' (first | (with_reducible refine jn_in ?_) | (with_reducible refine cl_ok (by assumption) rfl ?_) | (with_reducible refine cl_okP (by assumption) rfl ?_) | (with_reducible refine br_if (fun hbr => ?_) (fun hbr => ?_)) | (with_reducible refine br_ifn (fun hbr => ?_) (fun hbr => ?_)) | (with_reducible refine br_nb (fun hbr => ?_) (fun hbr => ?_)) | (with_reducible refine br_b (fun hbr => ?_) (fun hbr => ?_)) | simp (disch := first | omega | (simp only [List.length_take, List.length_drop, List.length_append, List.map_cons, List.map_nil, List.length_map, List.length_cons, List.length_nil, List.length_set, List.length_replicate]; omega) | (simp only [List.length_cons, List.length_nil, Nat.zero_add, Nat.reduceAdd])) only [go_sem, ↓reduceIte, Nat.reduceAdd, Int.reduceNeg, Int.reduceAdd, Int.reduceSub, Int.reduceMul, Int.reduceLT, Int.reduceLE, Int.reduceEq, Int.reduceToNat, Nat.reduceBEq, e_sle, e_sge, e_shl1, e_orI, e_andI, e_shr, wrapu, wrap8, tn1, nat1, ix_s, ix_z, st_s, st_z, fl_s, fl_z, fl1_s, fl1_z, map_s, map_z, u_spec_l4Is_j5])
    all_goals rfl
  rw [decide_eq_true (show its.length ≤ 40 by omega), Bool.true_and]
  repeat' (first | (with_reducible refine jn_in ?_) | (with_reducible refine cl_ok (by assumption) rfl ?_) | (with_reducible refine cl_okP (by assumption) rfl ?_) | (with_reducible refine br_if (fun hbr => ?_) (fun hbr => ?_)) | (with_reducible refine br_ifn (fun hbr => ?_) (fun hbr => ?_)) | (with_reducible refine br_nb (fun hbr => ?_) (fun hbr => ?_)) | (with_reducible refine br_b (fun hbr => ?_) (fun hbr => ?_)) | simp (disch := first | omega | (simp only [List.length_take, List.length_drop, List.length_append, List.map_cons, List.map_nil, List.length_map, List.length_cons, List.length_nil, List.length_set, List.length_replicate]; omega) | (simp only [List.length_cons, List.length_nil, Nat.zero_add, Nat.reduceAdd])) only [go_sem, ↓reduceIte, Nat.reduceAdd, Int.reduceNeg, Int.reduceAdd, Int.reduceSub, Int.reduceMul, Int.reduceLT, Int.reduceLE, Int.reduceEq, Int.reduceToNat, Nat.reduceBEq, e_sle, e_sge, e_shl1, e_orI, e_andI, e_shr, wrapu, wrap8, tn1, nat1, ix_s, ix_z, st_s, st_z, fl_s, fl_z, fl1_s, fl1_z, map_s, map_z, u_spec_l4Is_j5, u_spec_l4Is_j4, u_spec_l4Is_j3])
  refine lp (fun i : Nat => [.sc (.int .i64 i)]) (fun i => i ≤ its.length ∧ (its.take i).all itT = true) (fun i => its.length - i) 0 rfl ⟨Nat.zero_le _, rfl⟩ ?_
  rintro i ⟨hi, ha⟩
  simp only [u_spec_l4Is_l2]
  simp (disch := first | omega | (simp only [List.length_take, List.length_drop, List.length_append, List.map_cons, List.map_nil, List.length_map, List.length_cons, List.length_nil, List.length_set, List.length_replicate]; omega) | (simp only [List.length_cons, List.length_nil, Nat.zero_add, Nat.reduceAdd])) only [go_sem, ↓reduceIte, Nat.reduceAdd, Int.reduceNeg, Int.reduceAdd, Int.reduceSub, Int.reduceMul, Int.reduceLT, Int.reduceLE, Int.reduceEq, Int.reduceToNat, Nat.reduceBEq, e_sle, e_sge, e_shl1, e_orI, e_andI, e_shr, wrapu, wrap8, tn1, nat1, ix_s, ix_z, st_s, st_z, fl_s, fl_z, fl1_s, fl1_z, map_s, map_z, true_and]
  refine br_if (fun hlt => ?_) (fun hlt => ?_)
  · have e : (its.take (i + 1)).all itT = ((its.take i).all itT && itT (its.getD i default)) := by rw [take_succD (by omega), List.all_append]; simp
    refine jn_in ?_
    simp (disch := first | omega | (simp only [List.length_take, List.length_drop, List.length_append, List.map_cons, List.map_nil, List.length_map, List.length_cons, List.length_nil, List.length_set, List.length_replicate]; omega) | (simp only [List.length_cons, List.length_nil, Nat.zero_add, Nat.reduceAdd])) only [go_sem, ↓reduceIte, Nat.reduceAdd, Int.reduceNeg, Int.reduceAdd, Int.reduceSub, Int.reduceMul, Int.reduceLT, Int.reduceLE, Int.reduceEq, Int.reduceToNat, Nat.reduceBEq, e_sle, e_sge, e_shl1, e_orI, e_andI, e_shr, wrapu, wrap8, tn1, nat1, ix_s, ix_z, st_s, st_z, fl_s, fl_z, fl1_s, fl1_z, map_s, map_z, ix_it, encIt]
    refine cl_ok (h6 i) rfl ?_
    cases hb : itT (its.getD i default)
    · have : its.all itT = false := by rw [List.all_eq_false]; exact ⟨its.getD i default, getD_mem (by omega), by rw [hb]; decide⟩
      rw [this]
      repeat' (first | (with_reducible refine jn_in ?_) | (with_reducible refine cl_ok (by assumption) rfl ?_) | (with_reducible refine cl_okP (by assumption) rfl ?_) | (with_reducible refine br_if (fun hbr => ?_) (fun hbr => ?_)) | (with_reducible refine br_ifn (fun hbr => ?_) (fun hbr => ?_)) | (with_reducible refine br_nb (fun hbr => ?_) (fun hbr => ?_)) | (with_reducible refine br_b (fun hbr => ?_) (fun hbr => ?_)) | simp (disch := first | omega | (simp only [List.length_take, List.length_drop, List.length_append, List.map_cons, List.map_nil, List.length_map, List.length_cons, List.length_nil, List.length_set, List.length_replicate]; omega) | (simp only [List.length_cons, List.length_nil, Nat.zero_add, Nat.reduceAdd])) only [go_sem, ↓reduceIte, Nat.reduceAdd, Int.reduceNeg, Int.reduceAdd, Int.reduceSub, Int.reduceMul, Int.reduceLT, Int.reduceLE, Int.reduceEq, Int.reduceToNat, Nat.reduceBEq, e_sle, e_sge, e_shl1, e_orI, e_andI, e_shr, wrapu, wrap8, tn1, nat1, ix_s, ix_z, st_s, st_z, fl_s, fl_z, fl1_s, fl1_z, map_s, map_z, u_spec_l4Is_j0, nat1])
      all_goals rfl
    · repeat' (first | (with_reducible refine jn_in ?_) | (with_reducible refine cl_ok (by assumption) rfl ?_) | (with_reducible refine cl_okP (by assumption) rfl ?_) | (with_reducible refine br_if (fun hbr => ?_) (fun hbr => ?_)) | (with_reducible refine br_ifn (fun hbr => ?_) (fun hbr => ?_)) | (with_reducible refine br_nb (fun hbr => ?_) (fun hbr => ?_)) | (with_reducible refine br_b (fun hbr => ?_) (fun hbr => ?_)) | simp (disch := first | omega | (simp only [List.length_take, List.length_drop, List.length_append, List.map_cons, List.map_nil, List.length_map, List.length_cons, List.length_nil, List.length_set, List.length_replicate]; omega) | (simp only [List.length_cons, List.length_nil, Nat.zero_add, Nat.reduceAdd])) only [go_sem, ↓reduceIte, Nat.reduceAdd, Int.reduceNeg, Int.reduceAdd, Int.reduceSub, Int.reduceMul, Int.reduceLT, Int.reduceLE, Int.reduceEq, Int.reduceToNat, Nat.reduceBEq, e_sle, e_sge, e_shl1, e_orI, e_andI, e_shr, wrapu, wrap8, tn1, nat1, ix_s, ix_z, st_s, st_z, fl_s, fl_z, fl1_s, fl1_z, map_s, map_z, u_spec_l4Is_j0, nat1])
      all_goals exact ⟨i + 1, rfl, ⟨by omega, by rw [e, ha, hb]; rfl⟩, by omega⟩
  · obtain rfl : i = its.length := by omega
    rw [List.take_length] at ha
    rw [ha]
    simp (disch := first | omega | (simp only [List.length_take, List.length_drop, List.length_append, List.map_cons, List.map_nil, List.length_map, List.length_cons, List.length_nil, List.length_set, List.length_replicate]; omega) | (simp only [List.length_cons, List.length_nil, Nat.zero_add, Nat.reduceAdd])) only [go_sem, ↓reduceIte, Nat.reduceAdd, Int.reduceNeg, Int.reduceAdd, Int.reduceSub, Int.reduceMul, Int.reduceLT, Int.reduceLE, Int.reduceEq, Int.reduceToNat, Nat.reduceBEq, e_sle, e_sge, e_shl1, e_orI, e_andI, e_shr, wrapu, wrap8, tn1, nat1, ix_s, ix_z, st_s, st_z, fl_s, fl_z, fl1_s, fl1_z, map_s, map_z, true_and]
    refine lp_n 0 (fun _ => [.sc (.int .i64 0)]) rfl fun i hi => ?_
    simp only [u_spec_l4Is_l1]
    repeat' (first | (with_reducible refine jn_in ?_) | (with_reducible refine cl_ok (by assumption) rfl ?_) | (with_reducible refine cl_okP (by assumption) rfl ?_) | (with_reducible refine br_if (fun hbr => ?_) (fun hbr => ?_)) | (with_reducible refine br_ifn (fun hbr => ?_) (fun hbr => ?_)) | (with_reducible refine br_nb (fun hbr => ?_) (fun hbr => ?_)) | (with_reducible refine br_b (fun hbr => ?_) (fun hbr => ?_)) | simp (disch := first | omega | (simp only [List.length_take, List.length_drop, List.length_append, List.map_cons, List.map_nil, List.length_map, List.length_cons, List.length_nil, List.length_set, List.length_replicate]; omega) | (simp only [List.length_cons, List.length_nil, Nat.zero_add, Nat.reduceAdd])) only [go_sem, ↓reduceIte, Nat.reduceAdd, Int.reduceNeg, Int.reduceAdd, Int.reduceSub, Int.reduceMul, Int.reduceLT, Int.reduceLE, Int.reduceEq, Int.reduceToNat, Nat.reduceBEq, e_sle, e_sge, e_shl1, e_orI, e_andI, e_shr, wrapu, wrap8, tn1, nat1, ix_s, ix_z, st_s, st_z, fl_s, fl_z, fl1_s, fl1_z, map_s, map_z, true_and])
    rfl
theorem l4CellsT_m (its : List It) (hl : its.length ≤ 1000000) : Meets Try.prog 48 [(true, encF 3 its)] [(false, [.sc (.int .i64 its.length)], true)] := by
  have h1 := l4LenF_m 3 its hl
  rw [if_neg (by omega)] at h1
  refine meets_upf Try.func48 u_spec_l4Cells_g rfl ?_; simp only [u_spec_l4Cells_u]
  unfold encF at h1 ⊢
  simp (disch := first | omega | (simp only [List.length_take, List.length_drop, List.length_append, List.map_cons, List.map_nil, List.length_map, List.length_cons, List.length_nil, List.length_set, List.length_replicate]; omega) | (simp only [List.length_cons, List.length_nil, Nat.zero_add, Nat.reduceAdd])) only [go_sem, ↓reduceIte, Nat.reduceAdd, Int.reduceNeg, Int.reduceAdd, Int.reduceSub, Int.reduceMul, Int.reduceLT, Int.reduceLE, Int.reduceEq, Int.reduceToNat, Nat.reduceBEq, e_sle, e_sge, e_shl1, e_orI, e_andI, e_shr, wrapu, wrap8, tn1, nat1, ix_s, ix_z, st_s, st_z, fl_s, fl_z, fl1_s, fl1_z, map_s, map_z, true_and]
  refine cl_ok h1 rfl ?_
  simp (disch := first | omega | (simp only [List.length_take, List.length_drop, List.length_append, List.map_cons, List.map_nil, List.length_map, List.length_cons, List.length_nil, List.length_set, List.length_replicate]; omega) | (simp only [List.length_cons, List.length_nil, Nat.zero_add, Nat.reduceAdd])) only [go_sem, ↓reduceIte, Nat.reduceAdd, Int.reduceNeg, Int.reduceAdd, Int.reduceSub, Int.reduceMul, Int.reduceLT, Int.reduceLE, Int.reduceEq, Int.reduceToNat, Nat.reduceBEq, e_sle, e_sge, e_shl1, e_orI, e_andI, e_shr, wrapu, wrap8, tn1, nat1, ix_s, ix_z, st_s, st_z, fl_s, fl_z, fl1_s, fl1_z, map_s, map_z, true_and]
  refine lp_n 0 (fun _ => [.sc (.int .i64 0), .sc (.int .i64 its.length)]) rfl fun i hi => ?_
  simp only [u_spec_l4Cells_l0]
  repeat' (first | (with_reducible refine jn_in ?_) | (with_reducible refine cl_ok (by assumption) rfl ?_) | (with_reducible refine cl_okP (by assumption) rfl ?_) | (with_reducible refine br_if (fun hbr => ?_) (fun hbr => ?_)) | (with_reducible refine br_ifn (fun hbr => ?_) (fun hbr => ?_)) | (with_reducible refine br_nb (fun hbr => ?_) (fun hbr => ?_)) | (with_reducible refine br_b (fun hbr => ?_) (fun hbr => ?_)) | simp (disch := first | omega | (simp only [List.length_take, List.length_drop, List.length_append, List.map_cons, List.map_nil, List.length_map, List.length_cons, List.length_nil, List.length_set, List.length_replicate]; omega) | (simp only [List.length_cons, List.length_nil, Nat.zero_add, Nat.reduceAdd])) only [go_sem, ↓reduceIte, Nat.reduceAdd, Int.reduceNeg, Int.reduceAdd, Int.reduceSub, Int.reduceMul, Int.reduceLT, Int.reduceLE, Int.reduceEq, Int.reduceToNat, Nat.reduceBEq, e_sle, e_sge, e_shl1, e_orI, e_andI, e_shr, wrapu, wrap8, tn1, nat1, ix_s, ix_z, st_s, st_z, fl_s, fl_z, fl1_s, fl1_z, map_s, map_z, true_and])
  rfl
theorem isVecT_m (its : List It) (hl : its.length ≤ 1000000) : Meets Try.prog 22 [(true, encF 3 its)] [(false, [.sc (.bool (decide (its.length ≤ 40) && its.all itT))], true)] := by
  have h1 := l4IsT_m its 3 hl
  have h2 := l4CellsT_m its hl
  refine meets_upf Try.func22 u_spec_IsVector_g rfl ?_; simp only [u_spec_IsVector_u]
  unfold encF at h1 h2 ⊢
  simp (disch := first | omega | (simp only [List.length_take, List.length_drop, List.length_append, List.map_cons, List.map_nil, List.length_map, List.length_cons, List.length_nil, List.length_set, List.length_replicate]; omega) | (simp only [List.length_cons, List.length_nil, Nat.zero_add, Nat.reduceAdd])) only [go_sem, ↓reduceIte, Nat.reduceAdd, Int.reduceNeg, Int.reduceAdd, Int.reduceSub, Int.reduceMul, Int.reduceLT, Int.reduceLE, Int.reduceEq, Int.reduceToNat, Nat.reduceBEq, e_sle, e_sge, e_shl1, e_orI, e_andI, e_shr, wrapu, wrap8, tn1, nat1, ix_s, ix_z, st_s, st_z, fl_s, fl_z, fl1_s, fl1_z, map_s, map_z, true_and]
  refine cl_ok h1 rfl ?_
  cases hb : (decide (its.length ≤ 40) && its.all itT)
  · repeat' (first | (with_reducible refine jn_in ?_) | (with_reducible refine cl_ok (by assumption) rfl ?_) | (with_reducible refine cl_okP (by assumption) rfl ?_) | (with_reducible refine br_if (fun hbr => ?_) (fun hbr => ?_)) | (with_reducible refine br_ifn (fun hbr => ?_) (fun hbr => ?_)) | (with_reducible refine br_nb (fun hbr => ?_) (fun hbr => ?_)) | (with_reducible refine br_b (fun hbr => ?_) (fun hbr => ?_)) | simp (disch := first | omega | (simp only [List.length_take, List.length_drop, List.length_append, List.map_cons, List.map_nil, List.length_map, List.length_cons, List.length_nil, List.length_set, List.length_replicate]; omega) | (simp only [List.length_cons, List.length_nil, Nat.zero_add, Nat.reduceAdd])) only [go_sem, ↓reduceIte, Nat.reduceAdd, Int.reduceNeg, Int.reduceAdd, Int.reduceSub, Int.reduceMul, Int.reduceLT, Int.reduceLE, Int.reduceEq, Int.reduceToNat, Nat.reduceBEq, e_sle, e_sge, e_shl1, e_orI, e_andI, e_shr, wrapu, wrap8, tn1, nat1, ix_s, ix_z, st_s, st_z, fl_s, fl_z, fl1_s, fl1_z, map_s, map_z, true_and])
    rfl
  · simp (disch := first | omega | (simp only [List.length_take, List.length_drop, List.length_append, List.map_cons, List.map_nil, List.length_map, List.length_cons, List.length_nil, List.length_set, List.length_replicate]; omega) | (simp only [List.length_cons, List.length_nil, Nat.zero_add, Nat.reduceAdd])) only [go_sem, ↓reduceIte, Nat.reduceAdd, Int.reduceNeg, Int.reduceAdd, Int.reduceSub, Int.reduceMul, Int.reduceLT, Int.reduceLE, Int.reduceEq, Int.reduceToNat, Nat.reduceBEq, e_sle, e_sge, e_shl1, e_orI, e_andI, e_shr, wrapu, wrap8, tn1, nat1, ix_s, ix_z, st_s, st_z, fl_s, fl_z, fl1_s, fl1_z, map_s, map_z, true_and]
    refine cl_ok h2 rfl ?_
    simp (disch := first | omega | (simp only [List.length_take, List.length_drop, List.length_append, List.map_cons, List.map_nil, List.length_map, List.length_cons, List.length_nil, List.length_set, List.length_replicate]; omega) | (simp only [List.length_cons, List.length_nil, Nat.zero_add, Nat.reduceAdd])) only [go_sem, ↓reduceIte, Nat.reduceAdd, Int.reduceNeg, Int.reduceAdd, Int.reduceSub, Int.reduceMul, Int.reduceLT, Int.reduceLE, Int.reduceEq, Int.reduceToNat, Nat.reduceBEq, e_sle, e_sge, e_shl1, e_orI, e_andI, e_shr, wrapu, wrap8, tn1, nat1, ix_s, ix_z, st_s, st_z, fl_s, fl_z, fl1_s, fl1_z, map_s, map_z, true_and]
    rw [Bool.and_eq_true, decide_eq_true_eq] at hb
    exact ret_b (decide_eq_true (by omega)).symm
theorem all_txI {l : List ByteArray} : (l.map txI).all itT = l.all fun s => decide (s.size ≤ 60) := by
  rw [List.all_map]
  congr 1
  funext s
  show itT (txI s) = decide (s.size ≤ 60)
  unfold itT txI
  rw [decide_eq_false (by intro h; have := congrArg It.den h; simp [it0] at this)]
  simp
  omega
set_option maxHeartbeats 1000000 in
theorem specTxtV_m (t : Nat) (l : List ByteArray) (hl : l.length ≤ 100000) : Meets Try.prog 57 [(false, [.sl t 1 (l.map encS)])] [(true, encF (txtV l).1 (txtV l).2, true)] := by
  refine meets_upf Try.func57 u_spec_TextVector_g rfl ?_; simp only [u_spec_TextVector_u]
  unfold txtV encF at *
  simp (disch := first | omega | (simp only [List.length_take, List.length_drop, List.length_append, List.map_cons, List.map_nil, List.length_map, List.length_cons, List.length_nil, List.length_set, List.length_replicate]; omega) | (simp only [List.length_cons, List.length_nil, Nat.zero_add, Nat.reduceAdd])) only [go_sem, ↓reduceIte, Nat.reduceAdd, Int.reduceNeg, Int.reduceAdd, Int.reduceSub, Int.reduceMul, Int.reduceLT, Int.reduceLE, Int.reduceEq, Int.reduceToNat, Nat.reduceBEq, e_sle, e_sge, e_shl1, e_orI, e_andI, e_shr, wrapu, wrap8, tn1, nat1, ix_s, ix_z, st_s, st_z, fl_s, fl_z, fl1_s, fl1_z, map_s, map_z, true_and]
  refine jn (fun vs => ∃ (b : Bool) (i : Nat), i ≤ l.length ∧ (l.length ≤ 40 → i = l.length) ∧ vs = [.sc (.bool b), .sc (.int .i64 i), .sl 54 3 (((l.take i).map txI).map encIt)]) ?_ ?_
  · simp (disch := first | omega | (simp only [List.length_take, List.length_drop, List.length_append, List.map_cons, List.map_nil, List.length_map, List.length_cons, List.length_nil, List.length_set, List.length_replicate]; omega) | (simp only [List.length_cons, List.length_nil, Nat.zero_add, Nat.reduceAdd])) only [go_sem, ↓reduceIte, Nat.reduceAdd, Int.reduceNeg, Int.reduceAdd, Int.reduceSub, Int.reduceMul, Int.reduceLT, Int.reduceLE, Int.reduceEq, Int.reduceToNat, Nat.reduceBEq, e_sle, e_sge, e_shl1, e_orI, e_andI, e_shr, wrapu, wrap8, tn1, nat1, ix_s, ix_z, st_s, st_z, fl_s, fl_z, fl1_s, fl1_z, map_s, map_z, true_and]
    refine lp (fun i : Nat => [.sc (.int .i64 i), .sl 54 3 (((l.take i).map txI).map encIt)]) (fun i => i ≤ l.length) (fun i => l.length - i) 0 rfl (Nat.zero_le _) ?_
    intro i hi
    simp only [u_spec_TextVector_l0]
    simp (disch := first | omega | (simp only [List.length_take, List.length_drop, List.length_append, List.map_cons, List.map_nil, List.length_map, List.length_cons, List.length_nil, List.length_set, List.length_replicate]; omega) | (simp only [List.length_cons, List.length_nil, Nat.zero_add, Nat.reduceAdd])) only [go_sem, ↓reduceIte, Nat.reduceAdd, Int.reduceNeg, Int.reduceAdd, Int.reduceSub, Int.reduceMul, Int.reduceLT, Int.reduceLE, Int.reduceEq, Int.reduceToNat, Nat.reduceBEq, e_sle, e_sge, e_shl1, e_orI, e_andI, e_shr, wrapu, wrap8, tn1, nat1, ix_s, ix_z, st_s, st_z, fl_s, fl_z, fl1_s, fl1_z, map_s, map_z, true_and]
    refine br_if (fun hlt => ?_) (fun hlt => ?_)
    · simp (disch := first | omega | (simp only [List.length_take, List.length_drop, List.length_append, List.map_cons, List.map_nil, List.length_map, List.length_cons, List.length_nil, List.length_set, List.length_replicate]; omega) | (simp only [List.length_cons, List.length_nil, Nat.zero_add, Nat.reduceAdd])) only [go_sem, ↓reduceIte, Nat.reduceAdd, Int.reduceNeg, Int.reduceAdd, Int.reduceSub, Int.reduceMul, Int.reduceLT, Int.reduceLE, Int.reduceEq, Int.reduceToNat, Nat.reduceBEq, e_sle, e_sge, e_shl1, e_orI, e_andI, e_shr, wrapu, wrap8, tn1, nat1, ix_s, ix_z, st_s, st_z, fl_s, fl_z, fl1_s, fl1_z, map_s, map_z, true_and]
      refine br_if (fun h40 => ?_) (fun h40 => ?_)
      · simp (disch := first | omega | (simp only [List.length_take, List.length_drop, List.length_append, List.map_cons, List.map_nil, List.length_map, List.length_cons, List.length_nil, List.length_set, List.length_replicate]; omega) | (simp only [List.length_cons, List.length_nil, Nat.zero_add, Nat.reduceAdd])) only [go_sem, ↓reduceIte, Nat.reduceAdd, Int.reduceNeg, Int.reduceAdd, Int.reduceSub, Int.reduceMul, Int.reduceLT, Int.reduceLE, Int.reduceEq, Int.reduceToNat, Nat.reduceBEq, e_sle, e_sge, e_shl1, e_orI, e_andI, e_shr, wrapu, wrap8, tn1, nat1, ix_s, ix_z, st_s, st_z, fl_s, fl_z, fl1_s, fl1_z, map_s, map_z, true_and]
        refine cl_ok (l4Text_m _) rfl ?_
        simp (disch := first | omega | (simp only [List.length_take, List.length_drop, List.length_append, List.map_cons, List.map_nil, List.length_map, List.length_cons, List.length_nil, List.length_set, List.length_replicate]; omega) | (simp only [List.length_cons, List.length_nil, Nat.zero_add, Nat.reduceAdd])) only [go_sem, ↓reduceIte, Nat.reduceAdd, Int.reduceNeg, Int.reduceAdd, Int.reduceSub, Int.reduceMul, Int.reduceLT, Int.reduceLE, Int.reduceEq, Int.reduceToNat, Nat.reduceBEq, e_sle, e_sge, e_shl1, e_orI, e_andI, e_shr, wrapu, wrap8, tn1, nat1, ix_s, ix_z, st_s, st_z, fl_s, fl_z, fl1_s, fl1_z, map_s, map_z, encIt, fl_3, map_it, nat1]
        exact ⟨i + 1, by rw [take_succD (by omega)]; simp only [List.map_append, List.map_cons, List.map_nil], by omega, by omega⟩
      · simp (disch := first | omega | (simp only [List.length_take, List.length_drop, List.length_append, List.map_cons, List.map_nil, List.length_map, List.length_cons, List.length_nil, List.length_set, List.length_replicate]; omega) | (simp only [List.length_cons, List.length_nil, Nat.zero_add, Nat.reduceAdd])) only [go_sem, ↓reduceIte, Nat.reduceAdd, Int.reduceNeg, Int.reduceAdd, Int.reduceSub, Int.reduceMul, Int.reduceLT, Int.reduceLE, Int.reduceEq, Int.reduceToNat, Nat.reduceBEq, e_sle, e_sge, e_shl1, e_orI, e_andI, e_shr, wrapu, wrap8, tn1, nat1, ix_s, ix_z, st_s, st_z, fl_s, fl_z, fl1_s, fl1_z, map_s, map_z, true_and]
        exact ⟨_, i, hi, fun h => by omega, rfl⟩
    · simp (disch := first | omega | (simp only [List.length_take, List.length_drop, List.length_append, List.map_cons, List.map_nil, List.length_map, List.length_cons, List.length_nil, List.length_set, List.length_replicate]; omega) | (simp only [List.length_cons, List.length_nil, Nat.zero_add, Nat.reduceAdd])) only [go_sem, ↓reduceIte, Nat.reduceAdd, Int.reduceNeg, Int.reduceAdd, Int.reduceSub, Int.reduceMul, Int.reduceLT, Int.reduceLE, Int.reduceEq, Int.reduceToNat, Nat.reduceBEq, e_sle, e_sge, e_shl1, e_orI, e_andI, e_shr, wrapu, wrap8, tn1, nat1, ix_s, ix_z, st_s, st_z, fl_s, fl_z, fl1_s, fl1_z, map_s, map_z, true_and]
      exact ⟨_, i, hi, fun h => by omega, rfl⟩
  · rintro vs - ⟨b, i, hi, h40, rfl⟩
    have h1 := isVecT_m ((l.take i).map txI) (by simp; omega)
    unfold encF at h1
    simp only [u_spec_TextVector_j1]
    simp (disch := first | omega | (simp only [List.length_take, List.length_drop, List.length_append, List.map_cons, List.map_nil, List.length_map, List.length_cons, List.length_nil, List.length_set, List.length_replicate]; omega) | (simp only [List.length_cons, List.length_nil, Nat.zero_add, Nat.reduceAdd])) only [go_sem, ↓reduceIte, Nat.reduceAdd, Int.reduceNeg, Int.reduceAdd, Int.reduceSub, Int.reduceMul, Int.reduceLT, Int.reduceLE, Int.reduceEq, Int.reduceToNat, Nat.reduceBEq, e_sle, e_sge, e_shl1, e_orI, e_andI, e_shr, wrapu, wrap8, tn1, nat1, ix_s, ix_z, st_s, st_z, fl_s, fl_z, fl1_s, fl1_z, map_s, map_z, true_and]
    refine cl_ok h1 rfl ?_
    by_cases hc : 40 < l.length
    · rw [if_pos hc]
      cases hb : (decide (((l.take i).map txI).length ≤ 40) && ((l.take i).map txI).all itT)
      · repeat' (first | (with_reducible refine jn_in ?_) | (with_reducible refine cl_ok (by assumption) rfl ?_) | (with_reducible refine cl_okP (by assumption) rfl ?_) | (with_reducible refine br_if (fun hbr => ?_) (fun hbr => ?_)) | (with_reducible refine br_ifn (fun hbr => ?_) (fun hbr => ?_)) | (with_reducible refine br_nb (fun hbr => ?_) (fun hbr => ?_)) | (with_reducible refine br_b (fun hbr => ?_) (fun hbr => ?_)) | simp (disch := first | omega | (simp only [List.length_take, List.length_drop, List.length_append, List.map_cons, List.map_nil, List.length_map, List.length_cons, List.length_nil, List.length_set, List.length_replicate]; omega) | (simp only [List.length_cons, List.length_nil, Nat.zero_add, Nat.reduceAdd])) only [go_sem, ↓reduceIte, Nat.reduceAdd, Int.reduceNeg, Int.reduceAdd, Int.reduceSub, Int.reduceMul, Int.reduceLT, Int.reduceLE, Int.reduceEq, Int.reduceToNat, Nat.reduceBEq, e_sle, e_sge, e_shl1, e_orI, e_andI, e_shr, wrapu, wrap8, tn1, nat1, ix_s, ix_z, st_s, st_z, fl_s, fl_z, fl1_s, fl1_z, map_s, map_z, true_and])
        all_goals rfl
      · simp (disch := first | omega | (simp only [List.length_take, List.length_drop, List.length_append, List.map_cons, List.map_nil, List.length_map, List.length_cons, List.length_nil, List.length_set, List.length_replicate]; omega) | (simp only [List.length_cons, List.length_nil, Nat.zero_add, Nat.reduceAdd])) only [go_sem, ↓reduceIte, Nat.reduceAdd, Int.reduceNeg, Int.reduceAdd, Int.reduceSub, Int.reduceMul, Int.reduceLT, Int.reduceLE, Int.reduceEq, Int.reduceToNat, Nat.reduceBEq, e_sle, e_sge, e_shl1, e_orI, e_andI, e_shr, wrapu, wrap8, tn1, nat1, ix_s, ix_z, st_s, st_z, fl_s, fl_z, fl1_s, fl1_z, map_s, map_z, true_and]
        refine br_if (fun _ => ?_) (fun hx => absurd (by omega) hx)
        simp (disch := first | omega | (simp only [List.length_take, List.length_drop, List.length_append, List.map_cons, List.map_nil, List.length_map, List.length_cons, List.length_nil, List.length_set, List.length_replicate]; omega) | (simp only [List.length_cons, List.length_nil, Nat.zero_add, Nat.reduceAdd])) only [go_sem, ↓reduceIte, Nat.reduceAdd, Int.reduceNeg, Int.reduceAdd, Int.reduceSub, Int.reduceMul, Int.reduceLT, Int.reduceLE, Int.reduceEq, Int.reduceToNat, Nat.reduceBEq, e_sle, e_sge, e_shl1, e_orI, e_andI, e_shr, wrapu, wrap8, tn1, nat1, ix_s, ix_z, st_s, st_z, fl_s, fl_z, fl1_s, fl1_z, map_s, map_z, true_and]
        rfl
    · obtain rfl := h40 (by omega)
      rw [if_neg hc, List.take_length, all_txI, List.length_map, decide_eq_true (show l.length ≤ 40 by omega), Bool.true_and]
      cases hb : l.all fun s => decide (s.size ≤ 60)
      · repeat' (first | (with_reducible refine jn_in ?_) | (with_reducible refine cl_ok (by assumption) rfl ?_) | (with_reducible refine cl_okP (by assumption) rfl ?_) | (with_reducible refine br_if (fun hbr => ?_) (fun hbr => ?_)) | (with_reducible refine br_ifn (fun hbr => ?_) (fun hbr => ?_)) | (with_reducible refine br_nb (fun hbr => ?_) (fun hbr => ?_)) | (with_reducible refine br_b (fun hbr => ?_) (fun hbr => ?_)) | simp (disch := first | omega | (simp only [List.length_take, List.length_drop, List.length_append, List.map_cons, List.map_nil, List.length_map, List.length_cons, List.length_nil, List.length_set, List.length_replicate]; omega) | (simp only [List.length_cons, List.length_nil, Nat.zero_add, Nat.reduceAdd])) only [go_sem, ↓reduceIte, Nat.reduceAdd, Int.reduceNeg, Int.reduceAdd, Int.reduceSub, Int.reduceMul, Int.reduceLT, Int.reduceLE, Int.reduceEq, Int.reduceToNat, Nat.reduceBEq, e_sle, e_sge, e_shl1, e_orI, e_andI, e_shr, wrapu, wrap8, tn1, nat1, ix_s, ix_z, st_s, st_z, fl_s, fl_z, fl1_s, fl1_z, map_s, map_z, true_and])
        all_goals rfl
      · simp (disch := first | omega | (simp only [List.length_take, List.length_drop, List.length_append, List.map_cons, List.map_nil, List.length_map, List.length_cons, List.length_nil, List.length_set, List.length_replicate]; omega) | (simp only [List.length_cons, List.length_nil, Nat.zero_add, Nat.reduceAdd])) only [go_sem, ↓reduceIte, Nat.reduceAdd, Int.reduceNeg, Int.reduceAdd, Int.reduceSub, Int.reduceMul, Int.reduceLT, Int.reduceLE, Int.reduceEq, Int.reduceToNat, Nat.reduceBEq, e_sle, e_sge, e_shl1, e_orI, e_andI, e_shr, wrapu, wrap8, tn1, nat1, ix_s, ix_z, st_s, st_z, fl_s, fl_z, fl1_s, fl1_z, map_s, map_z, true_and]
        refine br_if (fun hx => absurd hx (by omega)) (fun hx => ?_)
        simp (disch := first | omega | (simp only [List.length_take, List.length_drop, List.length_append, List.map_cons, List.map_nil, List.length_map, List.length_cons, List.length_nil, List.length_set, List.length_replicate]; omega) | (simp only [List.length_cons, List.length_nil, Nat.zero_add, Nat.reduceAdd])) only [go_sem, ↓reduceIte, Nat.reduceAdd, Int.reduceNeg, Int.reduceAdd, Int.reduceSub, Int.reduceMul, Int.reduceLT, Int.reduceLE, Int.reduceEq, Int.reduceToNat, Nat.reduceBEq, e_sle, e_sge, e_shl1, e_orI, e_andI, e_shr, wrapu, wrap8, tn1, nat1, ix_s, ix_z, st_s, st_z, fl_s, fl_z, fl1_s, fl1_z, map_s, map_z, true_and]
        rfl
end Go.Proofs.Ytkcljmgjbjdccaa

namespace Go.Proofs.Ytkcljmgjbjdccaa
open Go.RowKit
set_option maxRecDepth 100000
def u_impl_IsTree_h : List Hint := [⟨2000003, 2, ⟨[(77, .p false [.d 31]), (8, .p false [.d 32]), (7, .p false [.d 29]), (56, .p false [.d 30]), (55, .p false [.d 29]), (54, .p false [.d 27]), (53, .p false [.sub 0 0 1 26 27]), (6, .p false [.sub 0 0 1 26 27]), (45, .p false [.d 23]), (4, .p false [.d 11]), (5, .p false [.ptr 1 1 0]), (20, .p false [.d 13]), (3, .p false [.own 0 0]), (19, .p false [.d 11]), (18, .p false [.d 8]), (17, .p false [.d 0]), (16, .p false [.d 7]), (2, .p false [.d 1]), (0, .p false [.d 0])], [(0, .row 0 3 1 12), (1, .var 1 52 [.d 14, .d 15, .d 16, .d 17, .d 18])], 2, 2, 33, [(30, true), (23, false), (13, true), (7, false), (4, false), (1, false)]⟩, []⟩, ⟨3000011, 1, ⟨[(55, .p false [.d 29]), (54, .p false [.d 27]), (53, .p false [.sub 0 0 1 26 27]), (6, .p false [.sub 0 0 1 26 27]), (45, .p false [.d 23]), (4, .p false [.d 11]), (5, .p false [.ptr 1 1 0]), (20, .p false [.d 13]), (3, .p false [.own 0 0]), (19, .p false [.d 11]), (18, .p false [.d 8]), (17, .p false [.d 0]), (16, .p false [.d 7]), (2, .p false [.d 1]), (0, .p false [.d 0])], [(0, .row 0 3 1 12), (1, .var 1 52 [.d 14, .d 15, .d 16, .d 17, .d 18])], 2, 2, 30, [(23, false), (13, true), (7, false), (4, false), (1, false)]⟩, []⟩, ⟨7, 1, ⟨[(45, .p false [.d 23]), (4, .p false [.d 11]), (5, .p false [.ptr 1 1 0]), (20, .p false [.d 13]), (3, .p false [.own 0 0]), (19, .p false [.d 11]), (18, .p false [.d 8]), (17, .p false [.d 0]), (16, .p false [.d 7]), (2, .p false [.d 1]), (0, .p false [.d 0])], [(0, .row 0 3 1 12), (1, .var 1 52 [.d 14, .d 15, .d 16, .d 17, .d 18])], 2, 2, 24, [(13, true), (7, false), (4, false), (1, false)]⟩, []⟩, ⟨3000005, 2, ⟨[(3, .p false [.own 0 0]), (19, .p false [.d 11]), (18, .p false [.d 8]), (17, .p false [.d 0]), (16, .p false [.d 7]), (2, .p false [.d 1]), (0, .p false [.d 0])], [(0, .row 0 3 1 12)], 1, 1, 13, [(7, false), (4, false), (1, false)]⟩, [⟨true, 3, 0, 3, 1⟩]⟩]
def u_impl_IsTree_d : List (Nat × Nat × Bool × List Nat) := []
def u_impl_IsTree_j0 : UP := .po (.k (.int .i64 1)) <| .po (.bin .add false 3 0) <| .jump 1 [0]
def u_impl_IsTree_l1 : UP := .po (.bin .lss false 0 2) <| .ite 0 (.sel [1, 3, 4, 6, 7, 9] <| .join 2 u_impl_IsTree_j0 <| .po (.isI 0) <| .po (.atJ 2 1 0) <| .po (.idx 1 5 0) <| .po (.isI 0) <| .po (.idx 5 7 0) <| .po (.k (.int .i64 1)) <| .po (.bin .eql false 5 0) <| .ite 0 (.po (.k (.int .i64 8)) <| .po (.bin .neq false 13 0) <| .ite 0 (.po (.k (.bool true)) <| .po (.k (.bool false)) <| .po (.sc 0) <| .ret [(false, [0])]) <| .po (.k (.int .i64 1)) <| .po (.bin .sub false 13 0) <| .po (.bin .eql false 13 0) <| .ite 0 (.po (.k (.bool false)) <| .po (.sc 0) <| .ret [(false, [0])]) <| .jump 2 [0, 12]) <| .po (.k (.bool false)) <| .jump 2 [0, 8]) <| .po (.lenL 7) <| .po (.bin .sub false 0 6) <| .po (.cutI 9 none (some 0)) <| .po (.sc 12) <| .po (.mk 3 1 [[12]]) <| .po (.cutP 12 2 1) <| .po (.flat 1) <| .po (.app 3 1 8 0 1) <| .po (.k (.int .i64 1)) <| .po (.bin .add false 16 0) <| .jump 0 [0, 2]
def u_impl_IsTree_j2 : UP := .ite 0 (.po (.k (.bool false)) <| .po (.sc 0) <| .ret [(false, [0])]) <| .po (.lenL 6) <| .po (.bin .sub false 0 2) <| .po (.cutI 8 (some 0) none) <| .po (.k (.int .i64 0)) <| .sel [0, 1, 2, 6, 10, 11, 12, 13] <| .loop [0] u_impl_IsTree_l1
def u_impl_IsTree_l3 : UP := .po (.bin .lss false 1 4) <| .ite 0 (.po (.isI 2) <| .po (.idx 5 6 2) <| .po (.k (.int .i64 0)) <| .po (.k (.int .i64 0)) <| .po (.k (.string ⟨#[]⟩)) <| .po (.k (.int .i64 0)) <| .sel [4, 5, 6, 7, 8, 10, 11, 15] <| .join 1 u_impl_IsTree_j2 <| .cl 59 [(true, [4, 3, 2, 1, 0])] [(false, [none], true)] <| .po (.un .not 0) <| .ite 0 (.po (.k (.bool true)) <| .po (.k (.bool true)) <| .jump 1 [0]) <| .po (.lenL 7) <| .po (.bin .gtr false 3 0) <| .ite 0 (.po (.k (.bool true)) <| .jump 1 [0]) <| .po (.k (.int .i64 0)) <| .po (.bin .eql false 9 0) <| .ite 0 (.po (.lenL 13) <| .po (.k (.int .i64 1)) <| .po (.bin .sub false 1 0) <| .po (.bin .lss false 15 0) <| .jump 1 [0]) <| .po (.k (.bool false)) <| .jump 1 [0]) <| .po (.lenL 1) <| .po (.k (.int .i64 1)) <| .po (.bin .eql false 1 0) <| .ite 0 (.po (.lenL 9) <| .po (.k (.int .i64 1)) <| .po (.bin .sub false 1 0) <| .po (.isI 0) <| .po (.idx 5 12 0) <| .po (.k (.int .i64 1)) <| .po (.bin .neq false 5 0) <| .po (.sc 0) <| .ret [(false, [0])]) <| .po (.k (.bool false)) <| .po (.sc 0) <| .ret [(false, [0])]
def u_impl_IsTree_u : UP := .po (.k (.bool false)) <| .po (.lenL 1) <| .po (.k (.int .i64 1)) <| .po (.bin .lss false 1 0) <| .ite 0 (.po (.k (.bool true)) <| .po (.k (.bool false)) <| .po (.sc 0) <| .ret [(false, [0])]) <| .po (.lenL 4) <| .po (.k (.int .i64 200)) <| .po (.bin .gtr false 1 0) <| .ite 0 (.po (.k (.bool false)) <| .po (.sc 0) <| .ret [(false, [0])]) <| .po (.lenL 7) <| .po (.k (.int .i64 0)) <| .po (.e 3 1) <| .sel [0, 1, 2, 10] <| .loop [1, 0] u_impl_IsTree_l3
theorem u_impl_IsTree_g : toUPf Try.prog 42 Try.f42 owA u_impl_IsTree_h u_impl_IsTree_d = some ([(false, 1)], u_impl_IsTree_u) := by kernel_rfl
end Go.Proofs.Ytkcljmgjbjdccaa

namespace Go.Proofs.Ytkcljmgjbjdccaa
open Go.RowKit
set_option maxRecDepth 100000
def u_spec_IsTree_h : List Hint := [⟨2000003, 1, ⟨[(75, .p false [.d 28]), (52, .p false [.d 27]), (6, .p false [.d 25]), (43, .p false [.d 22]), (5, .p false [.ptr 1 1 0]), (15, .p false [.d 12]), (4, .p false [.d 9]), (11, .p false [.d 7]), (3, .p false [.own 0 0]), (2, .p false [.d 1]), (0, .p false [.d 0])], [(0, .row 0 3 1 10), (1, .var 1 52 [.d 13, .d 14, .d 15, .d 16, .d 17])], 2, 2, 29, [(27, true), (22, false), (12, true), (7, false), (1, false)]⟩, []⟩, ⟨3000011, 1, ⟨[(6, .p false [.d 25]), (43, .p false [.d 22]), (5, .p false [.ptr 1 1 0]), (15, .p false [.d 12]), (4, .p false [.d 9]), (11, .p false [.d 7]), (3, .p false [.own 0 0]), (2, .p false [.d 1]), (0, .p false [.d 0])], [(0, .row 0 3 1 10), (1, .var 1 52 [.d 13, .d 14, .d 15, .d 16, .d 17])], 2, 2, 26, [(22, false), (12, true), (7, false), (1, false)]⟩, []⟩, ⟨8, 1, ⟨[(43, .p false [.d 22]), (5, .p false [.ptr 1 1 0]), (15, .p false [.d 12]), (4, .p false [.d 9]), (11, .p false [.d 7]), (3, .p false [.own 0 0]), (2, .p false [.d 1]), (0, .p false [.d 0])], [(0, .row 0 3 1 10), (1, .var 1 52 [.d 13, .d 14, .d 15, .d 16, .d 17])], 2, 2, 23, [(12, true), (7, false), (1, false)]⟩, []⟩, ⟨3000005, 2, ⟨[(4, .p false [.d 9]), (11, .p false [.d 7]), (3, .p false [.own 0 0]), (2, .p false [.d 1]), (0, .p false [.d 0])], [(0, .row 0 3 1 10)], 1, 1, 11, [(7, false), (1, false)]⟩, []⟩]
def u_spec_IsTree_d : List (Nat × Nat × Bool × List Nat) := []
def u_spec_IsTree_j0 : UP := .po (.k (.int .i64 1)) <| .po (.bin .add false 2 0) <| .jump 1 [0]
def u_spec_IsTree_l1 : UP := .po (.lenL 4) <| .po (.bin .lss false 1 0) <| .ite 0 (.sel [2, 5, 6, 8] <| .join 1 u_spec_IsTree_j0 <| .po (.isI 0) <| .po (.chk 1 2 0) <| .po (.idx 1 2 0) <| .po (.isI 0) <| .po (.idx 5 4 0) <| .po (.k (.int .i64 1)) <| .po (.bin .eql false 5 0) <| .ite 0 (.po (.k (.int .i64 8)) <| .po (.bin .neq false 10 0) <| .ite 0 (.po (.k (.bool true)) <| .po (.k (.bool false)) <| .po (.sc 0) <| .ret [(false, [0])]) <| .po (.lenL 12) <| .po (.k (.int .i64 1)) <| .po (.bin .sub false 1 0) <| .po (.bin .eql false 13 0) <| .ite 0 (.po (.k (.bool false)) <| .po (.sc 0) <| .ret [(false, [0])]) <| .jump 2 [0]) <| .po (.k (.bool false)) <| .jump 2 [0]) <| .po (.lenL 6) <| .po (.bin .sub false 0 5) <| .po (.cutI 8 none (some 0)) <| .po (.sc 11) <| .po (.mk 3 1 [[11]]) <| .po (.cutP 11 2 1) <| .po (.flat 1) <| .po (.app 3 1 8 0 1) <| .po (.k (.int .i64 1)) <| .po (.bin .add false 15 0) <| .jump 0 [0, 2]
def u_spec_IsTree_j2 : UP := .ite 0 (.po (.k (.bool false)) <| .po (.sc 0) <| .ret [(false, [0])]) <| .po (.lenL 6) <| .po (.bin .sub false 0 2) <| .sel [0, 3, 7, 8, 9, 10] <| .loop [0] u_spec_IsTree_l1
def u_spec_IsTree_l3 : UP := .po (.lenL 4) <| .po (.bin .lss false 2 0) <| .ite 0 (.po (.isI 3) <| .po (.idx 5 6 3) <| .po (.k (.int .i64 0)) <| .po (.k (.int .i64 0)) <| .po (.k (.string ⟨#[]⟩)) <| .po (.k (.int .i64 0)) <| .sel [4, 5, 6, 7, 8, 11, 12, 15] <| .join 1 u_spec_IsTree_j2 <| .cl 55 [(true, [4, 3, 2, 1, 0])] [(false, [none], true)] <| .po (.un .not 0) <| .ite 0 (.po (.k (.bool true)) <| .po (.k (.bool true)) <| .jump 1 [0]) <| .po (.lenL 7) <| .po (.bin .gtr false 3 0) <| .ite 0 (.po (.k (.bool true)) <| .jump 1 [0]) <| .po (.k (.int .i64 0)) <| .po (.bin .eql false 9 0) <| .ite 0 (.po (.lenL 13) <| .po (.k (.int .i64 1)) <| .po (.bin .sub false 1 0) <| .po (.bin .lss false 15 0) <| .jump 1 [0]) <| .po (.k (.bool false)) <| .jump 1 [0]) <| .po (.lenL 2) <| .po (.k (.int .i64 1)) <| .po (.bin .eql false 1 0) <| .ite 0 (.po (.lenL 9) <| .po (.k (.int .i64 1)) <| .po (.bin .sub false 1 0) <| .po (.isI 0) <| .po (.idx 5 12 0) <| .po (.k (.int .i64 1)) <| .po (.bin .neq false 5 0) <| .po (.sc 0) <| .ret [(false, [0])]) <| .po (.k (.bool false)) <| .po (.sc 0) <| .ret [(false, [0])]
def u_spec_IsTree_u : UP := .po (.k (.bool false)) <| .po (.mk 3 1 []) <| .po (.lenL 2) <| .po (.k (.int .i64 1)) <| .po (.k (.int .i64 200)) <| .cl 54 [(false, [2]), (false, [1]), (false, [0])] [(false, [none], true)] <| .po (.un .not 0) <| .ite 0 (.po (.k (.bool false)) <| .po (.sc 0) <| .ret [(false, [0])]) <| .po (.k (.int .i64 0)) <| .sel [0, 6, 8] <| .loop [0, 1] u_spec_IsTree_l3
theorem u_spec_IsTree_g : toUPf Try.prog 39 Try.f39 owA u_spec_IsTree_h u_spec_IsTree_d = some ([(false, 1)], u_spec_IsTree_u) := by kernel_rfl
end Go.Proofs.Ytkcljmgjbjdccaa

namespace Go.Proofs.Ytkcljmgjbjdccaa
open Go.RowKit
set_option maxRecDepth 100000
def u_spec_l16Shape_h : List Hint := [⟨3000023, 1, ⟨[(7, .p false [.d 17]), (91, .p false [.d 15]), (56, .p false [.d 13]), (55, .p false [.d 0]), (5, .p false [.d 11]), (50, .p false [.d 10]), (4, .p false [.d 9]), (3, .p false [.d 7]), (10, .p false [.d 8]), (9, .p false [.d 0]), (2, .p false [.d 5]), (1, .p false [.ptr 0 0 0]), (0, .p true [.d 0, .d 1, .d 2, .d 3, .d 4])], [(0, .var 0 52 [.d 0, .d 1, .d 2, .d 3, .d 4])], 1, 1, 18, [(15, true), (13, false), (10, false), (5, false)]⟩, []⟩, ⟨2000003, 1, ⟨[(85, .p false [.d 19]), (64, .p false [.d 18]), (6, .p false [.d 15]), (56, .p false [.d 13]), (55, .p false [.d 0]), (5, .p false [.d 11]), (50, .p false [.d 10]), (4, .p false [.d 9]), (3, .p false [.d 7]), (10, .p false [.d 8]), (9, .p false [.d 0]), (2, .p false [.d 5]), (1, .p false [.ptr 0 0 0]), (0, .p true [.d 0, .d 1, .d 2, .d 3, .d 4])], [(0, .var 0 52 [.d 0, .d 1, .d 2, .d 3, .d 4])], 1, 1, 20, [(18, true), (16, true), (13, true), (10, false), (5, false)]⟩, []⟩, ⟨3000016, 1, ⟨[(6, .p false [.d 15]), (56, .p false [.d 13]), (55, .p false [.d 0]), (5, .p false [.d 11]), (50, .p false [.d 10]), (4, .p false [.d 9]), (3, .p false [.d 7]), (10, .p false [.d 8]), (9, .p false [.d 0]), (2, .p false [.d 5]), (1, .p false [.ptr 0 0 0]), (0, .p true [.d 0, .d 1, .d 2, .d 3, .d 4])], [(0, .var 0 52 [.d 0, .d 1, .d 2, .d 3, .d 4])], 1, 1, 16, [(13, true), (10, false), (5, false)]⟩, []⟩, ⟨10, 1, ⟨[(50, .p false [.d 10]), (4, .p false [.d 9]), (3, .p false [.d 7]), (10, .p false [.d 8]), (9, .p false [.d 0]), (2, .p false [.d 5]), (1, .p false [.ptr 0 0 0]), (0, .p true [.d 0, .d 1, .d 2, .d 3, .d 4])], [(0, .var 0 52 [.d 0, .d 1, .d 2, .d 3, .d 4])], 1, 1, 11, [(5, false)]⟩, []⟩, ⟨2000000, 2, ⟨[(3, .p false [.d 7]), (10, .p false [.d 8]), (9, .p false [.d 0]), (2, .p false [.d 5]), (1, .p false [.ptr 0 0 0]), (0, .p true [.d 0, .d 1, .d 2, .d 3, .d 4])], [(0, .var 0 52 [.d 0, .d 1, .d 2, .d 3, .d 4])], 1, 1, 9, [(5, false)]⟩, []⟩]
def u_spec_l16Shape_d : List (Nat × Nat × Bool × List Nat) := [(18, 19, false, [])]
def u_spec_l16Shape_j0 : UP := .po (.k (.int .i64 1)) <| .po (.bin .add false 2 0) <| .jump 0 [0]
def u_spec_l16Shape_l1 : UP := .po (.bin .lss false 0 2) <| .ite 0 (.po (.k (.int .i64 200)) <| .po (.bin .leq false 4 0) <| .ite 0 (.sel [3, 7] <| .join 1 u_spec_l16Shape_j0 <| .po (.isI 0) <| .po (.idx 1 1 0) <| .po (.sc 0) <| .cl 71 [(false, [0])] [(false, [none], true)] <| .po (.un .not 0) <| .po (.sc 0) <| .ite 0 (.po (.k (.bool true)) <| .po (.sc 0) <| .ite 0 (.po (.k (.bool false)) <| .po (.sc 0) <| .ret [(false, [0])]) <| .jump 1 [0]) <| .po (.isI 3) <| .po (.idx 1 4 3) <| .po (.sc 0) <| .cl 72 [(false, [5]), (false, [0])] [(false, [none], true)] <| .po (.bin .lss false 0 5) <| .po (.sc 0) <| .po (.sc 0) <| .ite 0 (.po (.k (.bool false)) <| .po (.sc 0) <| .ret [(false, [0])]) <| .jump 1 [0]) <| .po (.k (.int .i64 1)) <| .po (.bin .add false 6 0) <| .po (.bin .eql false 8 0) <| .po (.sc 0) <| .ret [(false, [0])]) <| .po (.k (.bool false)) <| .po (.k (.int .i64 1)) <| .po (.bin .add false 5 0) <| .po (.bin .eql false 7 0) <| .po (.sc 0) <| .ret [(false, [0])]
def u_spec_l16Shape_l2 : UP := .po (.bin .lss false 0 2) <| .ite 0 (.po (.k (.int .i64 200)) <| .po (.bin .leq false 4 0) <| .ite 0 (.po (.isI 3) <| .po (.idx 1 7 3) <| .po (.lenS 0) <| .po (.k (.int .i64 60)) <| .po (.bin .gtr false 1 0) <| .ite 0 (.po (.k (.bool false)) <| .po (.sc 0) <| .ret [(false, [0])]) <| .po (.k (.int .i64 1)) <| .po (.bin .add false 8 0) <| .jump 0 [0]) <| .po (.k (.int .i64 1)) <| .po (.bin .add false 6 0) <| .po (.bin .eql false 8 0) <| .po (.sc 0) <| .ret [(false, [0])]) <| .po (.k (.bool false)) <| .po (.k (.int .i64 1)) <| .po (.bin .add false 5 0) <| .po (.bin .eql false 7 0) <| .po (.sc 0) <| .ret [(false, [0])]
def u_spec_l16Shape_j3 : UP := .ite 0 (.po (.k (.bool false)) <| .po (.sc 0) <| .ret [(false, [0])]) <| .po (.lenL 7) <| .po (.k (.int .i64 8)) <| .po (.bin .eql false 12 0) <| .ite 0 (.po (.k (.int .i64 0)) <| .sel [0, 3, 10, 11] <| .loop [0] u_spec_l16Shape_l1) <| .po (.k (.int .i64 9)) <| .po (.bin .eql false 14 0) <| .ite 0 (.po (.k (.int .i64 0)) <| .sel [0, 5, 12, 13] <| .loop [0] u_spec_l16Shape_l2) <| .po (.k (.int .i64 16)) <| .po (.bin .eql false 16 0) <| .ite 0 (.po (.k (.int .i64 0)) <| .po (.bin .eql false 7 0) <| .ite 0 (.po (.k (.int .i64 2)) <| .po (.k (.int .i64 3)) <| .sel [0, 1, 17] <| .cl 54 [(false, [2]), (false, [1]), (false, [0])] [(false, [none], true)] <| .po (.sc 0) <| .ret [(false, [0])]) <| .po (.k (.bool false)) <| .po (.sc 0) <| .ret [(false, [0])]) <| .po (.k (.int .i64 26)) <| .po (.bin .eql false 18 0) <| .ite 0 (.po (.k (.int .i64 1)) <| .po (.bin .eql false 9 0) <| .ite 0 (.po (.k (.int .i64 0)) <| .po (.isI 0) <| .po (.idx 1 19 0) <| .po (.lenS 0) <| .po (.k (.int .i64 1)) <| .po (.k (.int .i64 60)) <| .sel [0, 1, 2] <| .cl 54 [(false, [2]), (false, [1]), (false, [0])] [(false, [none], true)] <| .po (.sc 0) <| .ret [(false, [0])]) <| .po (.k (.bool false)) <| .po (.sc 0) <| .ret [(false, [0])]) <| .po (.k (.int .i64 27)) <| .po (.bin .eql false 20 0) <| .ite 0 (.po (.k (.int .i64 1)) <| .po (.bin .eql false 11 0) <| .ite 0 (.po (.k (.int .i64 0)) <| .po (.isI 0) <| .po (.idx 1 21 0) <| .sel [0, 22] <| .cl 71 [(false, [0])] [(false, [none], true)] <| .ite 0 (.po (.k (.int .i64 0)) <| .po (.isI 0) <| .po (.idx 1 3 0) <| .po (.k (.string ⟨#[60, 45]⟩)) <| .po (.bin .add false 1 0) <| .sel [0] <| .cl 71 [(false, [0])] [(false, [none], true)] <| .po (.sc 0) <| .ret [(false, [0])]) <| .po (.k (.bool false)) <| .po (.sc 0) <| .ret [(false, [0])]) <| .po (.k (.bool false)) <| .po (.k (.bool false)) <| .po (.sc 0) <| .ret [(false, [0])]) <| .po (.k (.int .i64 0)) <| .po (.bin .eql false 11 0) <| .po (.sc 0) <| .ret [(false, [0])]
def u_spec_l16Shape_j4 : UP := .cl 69 [(false, [8])] [(false, [none], true)] <| .join 1 u_spec_l16Shape_j3 <| .po (.k (.int .i64 0)) <| .po (.k (.int .i64 35)) <| .cl 54 [(false, [11]), (false, [1]), (false, [0])] [(false, [none], true)] <| .po (.un .not 0) <| .ite 0 (.po (.k (.bool true)) <| .po (.k (.bool true)) <| .po (.k (.bool true)) <| .po (.k (.bool true)) <| .jump 0 [0]) <| .po (.k (.int .i64 0)) <| .sel [0, 5, 7, 10, 11, 12, 13, 14] <| .cl 54 [(false, [6]), (false, [0]), (false, [2])] [(false, [none], true)] <| .po (.un .not 0) <| .ite 0 (.po (.k (.bool true)) <| .po (.k (.bool true)) <| .po (.k (.bool true)) <| .jump 0 [0]) <| .sel [3, 5, 6, 7, 8, 9] <| .cl 70 [(true, [5, 4, 3, 2, 1])] [(false, [none], true)] <| .po (.un .not 0) <| .ite 0 (.po (.k (.bool true)) <| .po (.k (.bool true)) <| .jump 0 [0]) <| .po (.k (.int .i64 0)) <| .po (.k (.int .i64 200)) <| .sel [0, 1, 4, 5] <| .cl 54 [(false, [3]), (false, [1]), (false, [0])] [(false, [none], true)] <| .po (.un .not 0) <| .ite 0 (.po (.k (.bool true)) <| .jump 0 [0]) <| .po (.k (.int .i64 0)) <| .po (.bin .geq false 5 0) <| .ite 0 (.po (.bin .neq false 7 6) <| .jump 0 [0]) <| .po (.k (.bool false)) <| .jump 0 [0]
def u_spec_l16Shape_u : UP := .po (.k (.bool false)) <| .po (.k (.int .i64 0)) <| .join 2 u_spec_l16Shape_j4 <| .po (.k (.int .i64 2)) <| .po (.bin .eql false 7 0) <| .ite 0 (.po (.k (.int .i64 999999999)) <| .jump 0 [0, 1]) <| .po (.k (.int .i64 4)) <| .po (.bin .eql false 9 0) <| .ite 0 (.po (.k (.int .i64 2)) <| .jump 0 [0, 3]) <| .po (.k (.int .i64 5)) <| .po (.bin .eql false 11 0) <| .ite 0 (.po (.k (.int .i64 1)) <| .jump 0 [0, 5]) <| .jump 0 [6, 4]
theorem u_spec_l16Shape_g : toUPf Try.prog 55 Try.f55 owA u_spec_l16Shape_h u_spec_l16Shape_d = some ([(true, 5)], u_spec_l16Shape_u) := by kernel_rfl
end Go.Proofs.Ytkcljmgjbjdccaa

namespace Go.Proofs.Ytkcljmgjbjdccaa
open Go.RowKit
set_option maxRecDepth 100000
def u_impl_labelsRight_h : List Hint := [⟨3000011, 1, ⟨[(36, .p false [.d 12]), (35, .p false [.d 10]), (34, .p false [.d 3]), (31, .p false [.d 9]), (9, .p false [.d 7]), (8, .p false [.d 0]), (2, .p false [.d 5]), (1, .p false [.ptr 0 0 0]), (0, .p true [.d 0, .d 1, .d 2, .d 3, .d 4])], [(0, .var 0 52 [.d 0, .d 1, .d 2, .d 3, .d 4])], 1, 1, 13, [(9, true), (7, false), (5, false)]⟩, []⟩, ⟨3000004, 1, ⟨[(14, .p false [.d 10]), (13, .p false [.d 8]), (12, .p false [.d 3]), (9, .p false [.d 7]), (8, .p false [.d 0]), (2, .p false [.d 5]), (1, .p false [.ptr 0 0 0]), (0, .p true [.d 0, .d 1, .d 2, .d 3, .d 4])], [(0, .var 0 52 [.d 0, .d 1, .d 2, .d 3, .d 4])], 1, 1, 11, [(7, true), (5, false)]⟩, []⟩]
def u_impl_labelsRight_d : List (Nat × Nat × Bool × List Nat) := []
def u_impl_labelsRight_l0 : UP := .po (.bin .lss false 0 2) <| .ite 0 (.po (.isI 1) <| .po (.idx 1 4 1) <| .cl 91 [(false, [0])] [(false, [none], true)] <| .po (.un .not 0) <| .ite 0 (.po (.k (.bool true)) <| .po (.k (.bool false)) <| .po (.sc 0) <| .ret [(false, [0])]) <| .po (.cutL 1 7 none (some 4)) <| .sel [0, 3, 5] <| .cl 92 [(false, [0]), (false, [1])] [(false, [none], true)] <| .ite 0 (.po (.k (.bool false)) <| .po (.sc 0) <| .ret [(false, [0])]) <| .po (.k (.int .i64 1)) <| .po (.bin .add false 4 0) <| .jump 0 [0]) <| .po (.k (.bool true)) <| .po (.sc 0) <| .ret [(false, [0])]
def u_impl_labelsRight_l1 : UP := .po (.bin .lss false 0 2) <| .ite 0 (.po (.isI 1) <| .po (.idx 1 4 1) <| .po (.lenS 0) <| .po (.k (.int .i64 60)) <| .po (.bin .gtr false 1 0) <| .ite 0 (.po (.k (.bool false)) <| .po (.sc 0) <| .ret [(false, [0])]) <| .po (.k (.int .i64 1)) <| .po (.bin .add false 6 0) <| .jump 0 [0]) <| .po (.k (.bool true)) <| .po (.sc 0) <| .ret [(false, [0])]
def u_impl_labelsRight_u : UP := .po (.k (.bool false)) <| .po (.k (.int .i64 8)) <| .po (.bin .eql false 6 0) <| .ite 0 (.po (.lenL 4) <| .po (.k (.int .i64 0)) <| .sel [0, 1, 6] <| .loop [0] u_impl_labelsRight_l0) <| .po (.k (.int .i64 9)) <| .po (.bin .eql false 8 0) <| .ite 0 (.po (.lenL 6) <| .po (.k (.int .i64 0)) <| .sel [0, 1, 8] <| .loop [0] u_impl_labelsRight_l1) <| .po (.k (.int .i64 26)) <| .po (.bin .eql false 10 0) <| .ite 0 (.po (.lenL 8) <| .po (.k (.int .i64 1)) <| .po (.bin .eql false 1 0) <| .ite 0 (.po (.k (.int .i64 0)) <| .po (.isI 0) <| .po (.idx 1 12 0) <| .po (.lenS 0) <| .po (.k (.int .i64 1)) <| .po (.bin .geq false 1 0) <| .ite 0 (.po (.k (.int .i64 0)) <| .po (.isI 0) <| .po (.idx 1 17 0) <| .po (.lenS 0) <| .po (.k (.int .i64 60)) <| .po (.bin .leq false 1 0) <| .po (.sc 0) <| .ret [(false, [0])]) <| .po (.k (.bool false)) <| .po (.sc 0) <| .ret [(false, [0])]) <| .po (.k (.bool false)) <| .po (.k (.bool false)) <| .po (.sc 0) <| .ret [(false, [0])]) <| .po (.k (.int .i64 27)) <| .po (.bin .eql false 12 0) <| .ite 0 (.po (.lenL 10) <| .po (.k (.int .i64 1)) <| .po (.bin .eql false 1 0) <| .ite 0 (.po (.k (.int .i64 0)) <| .po (.isI 0) <| .po (.idx 1 14 0) <| .sel [0, 15] <| .cl 91 [(false, [0])] [(false, [none], true)] <| .ite 0 (.po (.k (.int .i64 0)) <| .po (.isI 0) <| .po (.idx 1 3 0) <| .po (.k (.string ⟨#[60, 45]⟩)) <| .po (.bin .add false 1 0) <| .sel [0] <| .cl 91 [(false, [0])] [(false, [none], true)] <| .po (.sc 0) <| .ret [(false, [0])]) <| .po (.k (.bool false)) <| .po (.sc 0) <| .ret [(false, [0])]) <| .po (.k (.bool false)) <| .po (.k (.bool false)) <| .po (.sc 0) <| .ret [(false, [0])]) <| .po (.k (.bool true)) <| .po (.sc 0) <| .ret [(false, [0])]
theorem u_impl_labelsRight_g : toUPf Try.prog 79 Try.f79 owA u_impl_labelsRight_h u_impl_labelsRight_d = some ([(true, 5)], u_impl_labelsRight_u) := by kernel_rfl
def u_impl_nodeRight_h : List Hint := [⟨4, 1, ⟨[(51, .p false [.d 15]), (5, .p false [.d 14]), (4, .p false [.d 13]), (3, .p false [.d 12]), (18, .p false [.d 11]), (2, .p false [.d 5]), (1, .p false [.ptr 0 0 0]), (0, .p true [.d 0, .d 1, .d 2, .d 3, .d 4])], [(0, .var 0 52 [.d 0, .d 1, .d 2, .d 3, .d 4])], 1, 1, 16, [(11, false), (9, false), (7, false), (5, false)]⟩, []⟩]
def u_impl_nodeRight_d : List (Nat × Nat × Bool × List Nat) := []
def u_impl_nodeRight_j0 : UP := .ite 0 (.po (.k (.bool false)) <| .po (.sc 0) <| .ret [(false, [0])]) <| .po (.k (.int .i64 2)) <| .po (.bin .eql false 11 0) <| .ite 0 (.po (.k (.int .i64 0)) <| .po (.bin .geq false 12 0) <| .ite 0 (.po (.k (.int .i64 999999999)) <| .po (.bin .leq false 14 0) <| .po (.sc 0) <| .ret [(false, [0])]) <| .po (.k (.bool false)) <| .po (.sc 0) <| .ret [(false, [0])]) <| .po (.k (.int .i64 4)) <| .po (.bin .eql false 13 0) <| .ite 0 (.po (.k (.int .i64 0)) <| .po (.bin .geq false 14 0) <| .ite 0 (.po (.k (.int .i64 2)) <| .po (.bin .leq false 16 0) <| .po (.sc 0) <| .ret [(false, [0])]) <| .po (.k (.bool false)) <| .po (.sc 0) <| .ret [(false, [0])]) <| .po (.k (.int .i64 5)) <| .po (.bin .eql false 15 0) <| .ite 0 (.po (.k (.int .i64 0)) <| .po (.bin .geq false 16 0) <| .ite 0 (.po (.k (.int .i64 1)) <| .po (.bin .leq false 18 0) <| .po (.sc 0) <| .ret [(false, [0])]) <| .po (.k (.bool false)) <| .po (.sc 0) <| .ret [(false, [0])]) <| .po (.un .not 8) <| .ite 0 (.po (.k (.bool true)) <| .po (.un .not 9) <| .ite 0 (.po (.k (.bool true)) <| .po (.sc 0) <| .ret [(false, [0])]) <| .sel [15, 16, 17, 18, 19] <| .cl 79 [(true, [4, 3, 2, 1, 0])] [(false, [none], true)] <| .po (.sc 0) <| .ret [(false, [0])]) <| .sel [8, 13, 14, 15, 16, 17] <| .cl 78 [(true, [5, 4, 3, 2, 1])] [(false, [none], true)] <| .ite 0 (.po (.un .not 1) <| .ite 0 (.po (.k (.bool true)) <| .po (.sc 0) <| .ret [(false, [0])]) <| .cl 79 [(true, [7, 6, 5, 4, 3])] [(false, [none], true)] <| .po (.sc 0) <| .ret [(false, [0])]) <| .po (.k (.bool false)) <| .po (.sc 0) <| .ret [(false, [0])]
def u_impl_nodeRight_u : UP := .po (.k (.bool false)) <| .po (.k (.int .i64 0)) <| .po (.bin .lss false 6 0) <| .ite 0 (.po (.k (.bool true)) <| .po (.k (.bool true)) <| .po (.k (.bool false)) <| .po (.sc 0) <| .ret [(false, [0])]) <| .po (.k (.int .i64 35)) <| .po (.bin .gtr false 8 0) <| .ite 0 (.po (.k (.bool true)) <| .po (.k (.bool false)) <| .po (.sc 0) <| .ret [(false, [0])]) <| .sel [5, 6, 7, 8, 9] <| .cl 76 [(true, [4, 3, 2, 1, 0])] [(false, [none], true)] <| .po (.un .not 0) <| .ite 0 (.po (.k (.bool false)) <| .po (.sc 0) <| .ret [(false, [0])]) <| .cl 77 [(false, [6])] [(false, [none], true), (false, [none], true), (false, [none], true)] <| .join 1 u_impl_nodeRight_j0 <| .po (.un .not 2) <| .ite 0 (.po (.k (.int .i64 0)) <| .po (.bin .neq false 10 0) <| .ite 0 (.po (.k (.bool true)) <| .po (.k (.bool true)) <| .jump 0 [0]) <| .po (.un .not 4) <| .ite 0 (.po (.k (.string ⟨#[]⟩)) <| .po (.bin .neq false 12 0) <| .ite 0 (.po (.k (.bool true)) <| .jump 0 [0]) <| .po (.un .not 6) <| .ite 0 (.po (.lenL 13) <| .po (.k (.int .i64 0)) <| .po (.bin .gtr false 1 0) <| .jump 0 [0]) <| .po (.k (.bool false)) <| .jump 0 [0]) <| .po (.k (.bool false)) <| .po (.un .not 5) <| .ite 0 (.po (.lenL 12) <| .po (.k (.int .i64 0)) <| .po (.bin .gtr false 1 0) <| .jump 0 [0]) <| .po (.k (.bool false)) <| .jump 0 [0]) <| .po (.k (.bool false)) <| .po (.un .not 3) <| .ite 0 (.po (.k (.string ⟨#[]⟩)) <| .po (.bin .neq false 11 0) <| .ite 0 (.po (.k (.bool true)) <| .jump 0 [0]) <| .po (.un .not 5) <| .ite 0 (.po (.lenL 12) <| .po (.k (.int .i64 0)) <| .po (.bin .gtr false 1 0) <| .jump 0 [0]) <| .po (.k (.bool false)) <| .jump 0 [0]) <| .po (.k (.bool false)) <| .po (.un .not 4) <| .ite 0 (.po (.lenL 11) <| .po (.k (.int .i64 0)) <| .po (.bin .gtr false 1 0) <| .jump 0 [0]) <| .po (.k (.bool false)) <| .jump 0 [0]
theorem u_impl_nodeRight_g : toUPf Try.prog 59 Try.f59 owA u_impl_nodeRight_h u_impl_nodeRight_d = some ([(true, 5)], u_impl_nodeRight_u) := by kernel_rfl
end Go.Proofs.Ytkcljmgjbjdccaa

namespace Go.Proofs.Ytkcljmgjbjdccaa
open Go.RowKit
set_option maxRecDepth 100000
def u_impl_kidsRight_h : List Hint := [⟨1000022, 1, ⟨[(37, .p false [.d 19]), (27, .p false [.d 16]), (11, .p false [.d 12]), (5, .p false [.d 9]), (4, .p false [.d 0]), (2, .p false [.d 5]), (1, .p false [.ptr 0 0 0]), (0, .p true [.d 0, .d 1, .d 2, .d 3, .d 4])], [(0, .var 0 52 [.d 0, .d 1, .d 2, .d 3, .d 4])], 1, 1, 20, [(16, false), (14, false), (12, false), (9, false), (7, false), (5, false)]⟩, []⟩, ⟨1000006, 1, ⟨[(11, .p false [.d 12]), (5, .p false [.d 9]), (4, .p false [.d 0]), (2, .p false [.d 5]), (1, .p false [.ptr 0 0 0]), (0, .p true [.d 0, .d 1, .d 2, .d 3, .d 4])], [(0, .var 0 52 [.d 0, .d 1, .d 2, .d 3, .d 4])], 1, 1, 13, [(9, false), (7, false), (5, false)]⟩, []⟩]
def u_impl_kidsRight_d : List (Nat × Nat × Bool × List Nat) := []
def u_impl_kidsRight_j0 : UP := .ite 0 (.po (.k (.int .i64 1)) <| .po (.bin .eql false 3 0) <| .po (.sc 0) <| .ret [(false, [0])]) <| .po (.k (.int .i64 16)) <| .po (.bin .eql false 4 0) <| .ite 0 (.po (.k (.int .i64 2)) <| .po (.bin .eql false 5 0) <| .ite 0 (.po (.k (.bool true)) <| .po (.sc 0) <| .ret [(false, [0])]) <| .po (.k (.int .i64 3)) <| .po (.bin .eql false 7 0) <| .po (.sc 0) <| .ret [(false, [0])]) <| .po (.k (.int .i64 2)) <| .po (.bin .eql false 5 0) <| .po (.sc 0) <| .ret [(false, [0])]
def u_impl_kidsRight_j1 : UP := .ite 0 (.po (.k (.int .i64 0)) <| .po (.bin .eql false 3 0) <| .po (.sc 0) <| .ret [(false, [0])]) <| .po (.k (.int .i64 8)) <| .po (.bin .eql false 5 0) <| .ite 0 (.po (.lenL 5) <| .po (.k (.int .i64 1)) <| .po (.bin .add false 1 0) <| .po (.bin .eql false 7 0) <| .po (.sc 0) <| .ret [(false, [0])]) <| .po (.k (.int .i64 9)) <| .po (.bin .eql false 7 0) <| .ite 0 (.po (.lenL 7) <| .po (.k (.int .i64 1)) <| .po (.bin .add false 1 0) <| .po (.bin .eql false 9 0) <| .po (.sc 0) <| .ret [(false, [0])]) <| .po (.k (.int .i64 10)) <| .po (.bin .eql false 9 0) <| .sel [0, 8, 10] <| .join 1 u_impl_kidsRight_j0 <| .ite 0 (.jump 0 [0]) <| .po (.k (.int .i64 14)) <| .po (.bin .eql false 3 0) <| .ite 0 (.jump 0 [0]) <| .po (.k (.int .i64 21)) <| .po (.bin .eql false 5 0) <| .ite 0 (.jump 0 [0]) <| .po (.k (.int .i64 33)) <| .po (.bin .eql false 7 0) <| .ite 0 (.jump 0 [0]) <| .po (.k (.int .i64 22)) <| .po (.bin .eql false 9 0) <| .ite 0 (.jump 0 [0]) <| .po (.k (.int .i64 23)) <| .po (.bin .eql false 11 0) <| .ite 0 (.jump 0 [0]) <| .po (.k (.int .i64 26)) <| .po (.bin .eql false 13 0) <| .ite 0 (.jump 0 [0]) <| .po (.k (.int .i64 27)) <| .po (.bin .eql false 15 0) <| .ite 0 (.jump 0 [0]) <| .po (.k (.int .i64 31)) <| .po (.bin .eql false 17 0) <| .jump 0 [0]
def u_impl_kidsRight_u : UP := .po (.k (.bool false)) <| .po (.k (.int .i64 0)) <| .po (.bin .eql false 6 0) <| .ite 0 (.po (.k (.int .i64 0)) <| .po (.bin .geq false 4 0) <| .po (.sc 0) <| .ret [(false, [0])]) <| .po (.k (.int .i64 15)) <| .po (.bin .eql false 8 0) <| .ite 0 (.po (.k (.int .i64 0)) <| .po (.bin .geq false 6 0) <| .po (.sc 0) <| .ret [(false, [0])]) <| .po (.k (.int .i64 1)) <| .po (.bin .eql false 10 0) <| .sel [0, 7, 8, 11] <| .join 1 u_impl_kidsRight_j1 <| .ite 0 (.jump 0 [0]) <| .po (.k (.int .i64 2)) <| .po (.bin .eql false 4 0) <| .ite 0 (.jump 0 [0]) <| .po (.k (.int .i64 3)) <| .po (.bin .eql false 6 0) <| .ite 0 (.jump 0 [0]) <| .po (.k (.int .i64 4)) <| .po (.bin .eql false 8 0) <| .ite 0 (.jump 0 [0]) <| .po (.k (.int .i64 5)) <| .po (.bin .eql false 10 0) <| .ite 0 (.jump 0 [0]) <| .po (.k (.int .i64 6)) <| .po (.bin .eql false 12 0) <| .ite 0 (.jump 0 [0]) <| .po (.k (.int .i64 19)) <| .po (.bin .eql false 14 0) <| .ite 0 (.jump 0 [0]) <| .po (.k (.int .i64 20)) <| .po (.bin .eql false 16 0) <| .ite 0 (.jump 0 [0]) <| .po (.k (.int .i64 35)) <| .po (.bin .eql false 18 0) <| .ite 0 (.jump 0 [0]) <| .po (.k (.int .i64 7)) <| .po (.bin .eql false 20 0) <| .ite 0 (.jump 0 [0]) <| .po (.k (.int .i64 32)) <| .po (.bin .eql false 22 0) <| .ite 0 (.jump 0 [0]) <| .po (.k (.int .i64 34)) <| .po (.bin .eql false 24 0) <| .jump 0 [0]
theorem u_impl_kidsRight_g : toUPf Try.prog 76 Try.f76 owA u_impl_kidsRight_h u_impl_kidsRight_d = some ([(true, 5)], u_impl_kidsRight_u) := by kernel_rfl
def u_impl_uses_h : List Hint := [⟨1000007, 1, ⟨[(10, .p false [.d 12]), (6, .p false [.d 9]), (5, .p false [.d 0]), (4, .p false [.d 3]), (3, .p false [.d 2]), (2, .p false [.d 1]), (0, .p false [.d 0])], [], 0, 0, 13, [(9, false), (7, false), (5, false), (3, false), (2, false), (1, false)]⟩, []⟩]
def u_impl_uses_d : List (Nat × Nat × Bool × List Nat) := []
def u_impl_uses_j0 : UP := .ite 0 (.po (.k (.bool false)) <| .po (.k (.bool true)) <| .po (.k (.bool false)) <| .po (.sc 2) <| .po (.sc 1) <| .po (.sc 0) <| .ret [(false, [2]), (false, [1]), (false, [0])]) <| .po (.k (.int .i64 8)) <| .po (.bin .eql false 3 0) <| .ite 0 (.po (.k (.bool false)) <| .po (.k (.bool false)) <| .po (.k (.bool true)) <| .po (.sc 2) <| .po (.sc 1) <| .po (.sc 0) <| .ret [(false, [2]), (false, [1]), (false, [0])]) <| .po (.k (.int .i64 9)) <| .po (.bin .eql false 5 0) <| .ite 0 (.po (.k (.bool false)) <| .po (.k (.bool false)) <| .po (.k (.bool true)) <| .po (.sc 2) <| .po (.sc 1) <| .po (.sc 0) <| .ret [(false, [2]), (false, [1]), (false, [0])]) <| .po (.k (.int .i64 26)) <| .po (.bin .eql false 7 0) <| .ite 0 (.po (.k (.bool false)) <| .po (.k (.bool true)) <| .po (.k (.bool true)) <| .po (.sc 2) <| .po (.sc 1) <| .po (.sc 0) <| .ret [(false, [2]), (false, [1]), (false, [0])]) <| .po (.k (.int .i64 27)) <| .po (.bin .eql false 9 0) <| .ite 0 (.po (.k (.bool false)) <| .po (.k (.bool true)) <| .po (.k (.bool true)) <| .po (.sc 2) <| .po (.sc 1) <| .po (.sc 0) <| .ret [(false, [2]), (false, [1]), (false, [0])]) <| .po (.k (.bool false)) <| .po (.k (.bool false)) <| .po (.k (.bool false)) <| .po (.sc 2) <| .po (.sc 1) <| .po (.sc 0) <| .ret [(false, [2]), (false, [1]), (false, [0])]
def u_impl_uses_u : UP := .po (.k (.bool false)) <| .po (.k (.bool false)) <| .po (.k (.bool false)) <| .po (.k (.int .i64 2)) <| .po (.bin .eql false 4 0) <| .ite 0 (.po (.k (.bool true)) <| .po (.k (.bool false)) <| .po (.k (.bool false)) <| .po (.sc 2) <| .po (.sc 1) <| .po (.sc 0) <| .ret [(false, [2]), (false, [1]), (false, [0])]) <| .po (.k (.int .i64 4)) <| .po (.bin .eql false 6 0) <| .ite 0 (.po (.k (.bool true)) <| .po (.k (.bool false)) <| .po (.k (.bool false)) <| .po (.sc 2) <| .po (.sc 1) <| .po (.sc 0) <| .ret [(false, [2]), (false, [1]), (false, [0])]) <| .po (.k (.int .i64 5)) <| .po (.bin .eql false 8 0) <| .ite 0 (.po (.k (.bool true)) <| .po (.k (.bool false)) <| .po (.k (.bool false)) <| .po (.sc 2) <| .po (.sc 1) <| .po (.sc 0) <| .ret [(false, [2]), (false, [1]), (false, [0])]) <| .po (.k (.int .i64 3)) <| .po (.bin .eql false 10 0) <| .sel [0, 11] <| .join 1 u_impl_uses_j0 <| .ite 0 (.jump 0 [0]) <| .po (.k (.int .i64 7)) <| .po (.bin .eql false 2 0) <| .ite 0 (.jump 0 [0]) <| .po (.k (.int .i64 10)) <| .po (.bin .eql false 4 0) <| .ite 0 (.jump 0 [0]) <| .po (.k (.int .i64 11)) <| .po (.bin .eql false 6 0) <| .ite 0 (.jump 0 [0]) <| .po (.k (.int .i64 14)) <| .po (.bin .eql false 8 0) <| .ite 0 (.jump 0 [0]) <| .po (.k (.int .i64 18)) <| .po (.bin .eql false 10 0) <| .ite 0 (.jump 0 [0]) <| .po (.k (.int .i64 22)) <| .po (.bin .eql false 12 0) <| .ite 0 (.jump 0 [0]) <| .po (.k (.int .i64 23)) <| .po (.bin .eql false 14 0) <| .ite 0 (.jump 0 [0]) <| .po (.k (.int .i64 24)) <| .po (.bin .eql false 16 0) <| .ite 0 (.jump 0 [0]) <| .po (.k (.int .i64 25)) <| .po (.bin .eql false 18 0) <| .ite 0 (.jump 0 [0]) <| .po (.k (.int .i64 28)) <| .po (.bin .eql false 20 0) <| .ite 0 (.jump 0 [0]) <| .po (.k (.int .i64 29)) <| .po (.bin .eql false 22 0) <| .ite 0 (.jump 0 [0]) <| .po (.k (.int .i64 30)) <| .po (.bin .eql false 24 0) <| .ite 0 (.jump 0 [0]) <| .po (.k (.int .i64 31)) <| .po (.bin .eql false 26 0) <| .ite 0 (.jump 0 [0]) <| .po (.k (.int .i64 32)) <| .po (.bin .eql false 28 0) <| .ite 0 (.jump 0 [0]) <| .po (.k (.int .i64 34)) <| .po (.bin .eql false 30 0) <| .jump 0 [0]
theorem u_impl_uses_g : toUPf Try.prog 77 Try.f77 owA u_impl_uses_h u_impl_uses_d = some ([(false, 1)], u_impl_uses_u) := by kernel_rfl
end Go.Proofs.Ytkcljmgjbjdccaa

namespace Go.Proofs.Ytkcljmgjbjdccaa
open Go.RowKit
set_option maxRecDepth 100000
def u_impl_isBinary_h : List Hint := []
def u_impl_isBinary_d : List (Nat × Nat × Bool × List Nat) := []
def u_impl_isBinary_u : UP := .po (.k (.bool false)) <| .po (.k (.string ⟨#[43]⟩)) <| .po (.k (.string ⟨#[45]⟩)) <| .po (.k (.string ⟨#[42]⟩)) <| .po (.k (.string ⟨#[47]⟩)) <| .po (.k (.string ⟨#[94]⟩)) <| .po (.k (.string ⟨#[37, 37]⟩)) <| .po (.k (.string ⟨#[37, 47, 37]⟩)) <| .po (.k (.string ⟨#[61, 61]⟩)) <| .po (.k (.string ⟨#[33, 61]⟩)) <| .po (.k (.string ⟨#[60]⟩)) <| .po (.k (.string ⟨#[60, 61]⟩)) <| .po (.k (.string ⟨#[62]⟩)) <| .po (.k (.string ⟨#[62, 61]⟩)) <| .po (.k (.string ⟨#[38]⟩)) <| .po (.k (.string ⟨#[124]⟩)) <| .po (.k (.string ⟨#[38, 38]⟩)) <| .po (.k (.string ⟨#[124, 124]⟩)) <| .po (.k (.string ⟨#[58]⟩)) <| .po (.k (.string ⟨#[126]⟩)) <| .po (.sc 18) <| .po (.sc 17) <| .po (.sc 16) <| .po (.sc 15) <| .po (.sc 14) <| .po (.sc 13) <| .po (.sc 12) <| .po (.sc 11) <| .po (.sc 10) <| .po (.sc 9) <| .po (.sc 8) <| .po (.sc 7) <| .po (.sc 6) <| .po (.sc 5) <| .po (.sc 4) <| .po (.sc 3) <| .po (.sc 2) <| .po (.sc 1) <| .po (.sc 0) <| .po (.mk 9 1 [[18], [17], [16], [15], [14], [13], [12], [11], [10], [9], [8], [7], [6], [5], [4], [3], [2], [1], [0]]) <| .sel [0, 21] <| .cl 92 [(false, [0]), (false, [1])] [(false, [none], true)] <| .po (.sc 0) <| .ret [(false, [0])]
theorem u_impl_isBinary_g : toUPf Try.prog 90 Try.f90 owA u_impl_isBinary_h u_impl_isBinary_d = some ([(false, 1)], u_impl_isBinary_u) := by kernel_rfl
def u_impl_textRight_h : List Hint := []
def u_impl_textRight_d : List (Nat × Nat × Bool × List Nat) := []
def u_impl_textRight_u : UP := .po (.k (.bool false)) <| .po (.k (.int .i64 3)) <| .po (.bin .eql false 6 0) <| .ite 0 (.po (.lenS 5) <| .po (.k (.int .i64 60)) <| .po (.bin .leq false 1 0) <| .po (.sc 0) <| .ret [(false, [0])]) <| .po (.k (.int .i64 10)) <| .po (.bin .eql false 8 0) <| .ite 0 (.po (.k (.string ⟨#[45]⟩)) <| .po (.bin .eql false 8 0) <| .ite 0 (.po (.k (.bool true)) <| .po (.k (.bool true)) <| .po (.sc 0) <| .ret [(false, [0])]) <| .po (.k (.string ⟨#[33]⟩)) <| .po (.bin .eql false 10 0) <| .ite 0 (.po (.k (.bool true)) <| .po (.sc 0) <| .ret [(false, [0])]) <| .po (.k (.string ⟨#[126]⟩)) <| .po (.bin .eql false 12 0) <| .po (.sc 0) <| .ret [(false, [0])]) <| .po (.k (.int .i64 11)) <| .po (.bin .eql false 10 0) <| .ite 0 (.sel [9] <| .cl 90 [(false, [0])] [(false, [none], true)] <| .po (.sc 0) <| .ret [(false, [0])]) <| .po (.k (.int .i64 14)) <| .po (.bin .eql false 12 0) <| .ite 0 (.po (.lenS 11) <| .po (.k (.int .i64 1)) <| .po (.bin .geq false 1 0) <| .ite 0 (.po (.lenS 14) <| .po (.k (.int .i64 60)) <| .po (.bin .leq false 1 0) <| .po (.sc 0) <| .ret [(false, [0])]) <| .po (.k (.bool false)) <| .po (.sc 0) <| .ret [(false, [0])]) <| .sel [11] <| .cl 91 [(false, [0])] [(false, [none], true)] <| .po (.sc 0) <| .ret [(false, [0])]
theorem u_impl_textRight_g : toUPf Try.prog 78 Try.f78 owA u_impl_textRight_h u_impl_textRight_d = some ([(true, 5)], u_impl_textRight_u) := by kernel_rfl
def u_spec_l16Binary_h : List Hint := []
def u_spec_l16Binary_d : List (Nat × Nat × Bool × List Nat) := []
def u_spec_l16Binary_u : UP := .po (.k (.string ⟨#[43]⟩)) <| .po (.k (.string ⟨#[45]⟩)) <| .po (.k (.string ⟨#[42]⟩)) <| .po (.k (.string ⟨#[47]⟩)) <| .po (.k (.string ⟨#[94]⟩)) <| .po (.k (.string ⟨#[37, 37]⟩)) <| .po (.k (.string ⟨#[37, 47, 37]⟩)) <| .po (.k (.string ⟨#[61, 61]⟩)) <| .po (.k (.string ⟨#[33, 61]⟩)) <| .po (.k (.string ⟨#[60]⟩)) <| .po (.k (.string ⟨#[60, 61]⟩)) <| .po (.k (.string ⟨#[62]⟩)) <| .po (.k (.string ⟨#[62, 61]⟩)) <| .po (.k (.string ⟨#[38]⟩)) <| .po (.k (.string ⟨#[124]⟩)) <| .po (.k (.string ⟨#[38, 38]⟩)) <| .po (.k (.string ⟨#[124, 124]⟩)) <| .po (.k (.string ⟨#[58]⟩)) <| .po (.k (.string ⟨#[126]⟩)) <| .po (.sc 18) <| .po (.sc 17) <| .po (.sc 16) <| .po (.sc 15) <| .po (.sc 14) <| .po (.sc 13) <| .po (.sc 12) <| .po (.sc 11) <| .po (.sc 10) <| .po (.sc 9) <| .po (.sc 8) <| .po (.sc 7) <| .po (.sc 6) <| .po (.sc 5) <| .po (.sc 4) <| .po (.sc 3) <| .po (.sc 2) <| .po (.sc 1) <| .po (.sc 0) <| .po (.mk 9 1 [[18], [17], [16], [15], [14], [13], [12], [11], [10], [9], [8], [7], [6], [5], [4], [3], [2], [1], [0]]) <| .ret [(false, [0])]
theorem u_spec_l16Binary_g : toUPf Try.prog 88 Try.f88 owA u_spec_l16Binary_h u_spec_l16Binary_d = some ([], u_spec_l16Binary_u) := by kernel_rfl
def u_spec_l16Count_h : List Hint := []
def u_spec_l16Count_d : List (Nat × Nat × Bool × List Nat) := []
def u_spec_l16Count_u : UP := .po (.k (.int .i64 0)) <| .po (.k (.int .i64 0)) <| .po (.bin .eql false 2 0) <| .ite 0 (.po (.k (.int .i64 (-1))) <| .po (.sc 0) <| .ret [(false, [0])]) <| .po (.k (.int .i64 8)) <| .po (.bin .eql false 4 0) <| .ite 0 (.po (.k (.int .i64 (-1))) <| .po (.sc 0) <| .ret [(false, [0])]) <| .po (.k (.int .i64 9)) <| .po (.bin .eql false 6 0) <| .ite 0 (.po (.k (.int .i64 (-1))) <| .po (.sc 0) <| .ret [(false, [0])]) <| .po (.k (.int .i64 15)) <| .po (.bin .eql false 8 0) <| .ite 0 (.po (.k (.int .i64 (-1))) <| .po (.sc 0) <| .ret [(false, [0])]) <| .po (.k (.int .i64 16)) <| .po (.bin .eql false 10 0) <| .ite 0 (.po (.k (.int .i64 (-1))) <| .po (.sc 0) <| .ret [(false, [0])]) <| .po (.k (.int .i64 10)) <| .po (.bin .eql false 12 0) <| .ite 0 (.po (.k (.int .i64 1)) <| .po (.sc 0) <| .ret [(false, [0])]) <| .po (.k (.int .i64 14)) <| .po (.bin .eql false 14 0) <| .ite 0 (.po (.k (.int .i64 1)) <| .po (.sc 0) <| .ret [(false, [0])]) <| .po (.k (.int .i64 21)) <| .po (.bin .eql false 16 0) <| .ite 0 (.po (.k (.int .i64 1)) <| .po (.sc 0) <| .ret [(false, [0])]) <| .po (.k (.int .i64 22)) <| .po (.bin .eql false 18 0) <| .ite 0 (.po (.k (.int .i64 1)) <| .po (.sc 0) <| .ret [(false, [0])]) <| .po (.k (.int .i64 23)) <| .po (.bin .eql false 20 0) <| .ite 0 (.po (.k (.int .i64 1)) <| .po (.sc 0) <| .ret [(false, [0])]) <| .po (.k (.int .i64 26)) <| .po (.bin .eql false 22 0) <| .ite 0 (.po (.k (.int .i64 1)) <| .po (.sc 0) <| .ret [(false, [0])]) <| .po (.k (.int .i64 27)) <| .po (.bin .eql false 24 0) <| .ite 0 (.po (.k (.int .i64 1)) <| .po (.sc 0) <| .ret [(false, [0])]) <| .po (.k (.int .i64 31)) <| .po (.bin .eql false 26 0) <| .ite 0 (.po (.k (.int .i64 1)) <| .po (.sc 0) <| .ret [(false, [0])]) <| .po (.k (.int .i64 33)) <| .po (.bin .eql false 28 0) <| .ite 0 (.po (.k (.int .i64 1)) <| .po (.sc 0) <| .ret [(false, [0])]) <| .po (.k (.int .i64 11)) <| .po (.bin .eql false 30 0) <| .ite 0 (.po (.k (.int .i64 2)) <| .po (.sc 0) <| .ret [(false, [0])]) <| .po (.k (.int .i64 12)) <| .po (.bin .eql false 32 0) <| .ite 0 (.po (.k (.int .i64 2)) <| .po (.sc 0) <| .ret [(false, [0])]) <| .po (.k (.int .i64 13)) <| .po (.bin .eql false 34 0) <| .ite 0 (.po (.k (.int .i64 2)) <| .po (.sc 0) <| .ret [(false, [0])]) <| .po (.k (.int .i64 17)) <| .po (.bin .eql false 36 0) <| .ite 0 (.po (.k (.int .i64 2)) <| .po (.sc 0) <| .ret [(false, [0])]) <| .po (.k (.int .i64 18)) <| .po (.bin .eql false 38 0) <| .ite 0 (.po (.k (.int .i64 2)) <| .po (.sc 0) <| .ret [(false, [0])]) <| .po (.k (.int .i64 24)) <| .po (.bin .eql false 40 0) <| .ite 0 (.po (.k (.int .i64 2)) <| .po (.sc 0) <| .ret [(false, [0])]) <| .po (.k (.int .i64 25)) <| .po (.bin .eql false 42 0) <| .ite 0 (.po (.k (.int .i64 2)) <| .po (.sc 0) <| .ret [(false, [0])]) <| .po (.k (.int .i64 28)) <| .po (.bin .eql false 44 0) <| .ite 0 (.po (.k (.int .i64 2)) <| .po (.sc 0) <| .ret [(false, [0])]) <| .po (.k (.int .i64 29)) <| .po (.bin .eql false 46 0) <| .ite 0 (.po (.k (.int .i64 2)) <| .po (.sc 0) <| .ret [(false, [0])]) <| .po (.k (.int .i64 30)) <| .po (.bin .eql false 48 0) <| .ite 0 (.po (.k (.int .i64 2)) <| .po (.sc 0) <| .ret [(false, [0])]) <| .po (.k (.int .i64 0)) <| .po (.sc 0) <| .ret [(false, [0])]
theorem u_spec_l16Count_g : toUPf Try.prog 69 Try.f69 owA u_spec_l16Count_h u_spec_l16Count_d = some ([(false, 1)], u_spec_l16Count_u) := by kernel_rfl
def u_spec_l16Text_h : List Hint := [⟨1000011, 1, ⟨[(29, .p false [.d 16]), (23, .p false [.d 13]), (17, .p false [.d 11]), (11, .p false [.d 9]), (5, .p false [.d 7]), (4, .p false [.d 0]), (2, .p false [.d 5]), (1, .p false [.ptr 0 0 0]), (0, .p true [.d 0, .d 1, .d 2, .d 3, .d 4])], [(0, .var 0 52 [.d 0, .d 1, .d 2, .d 3, .d 4])], 1, 1, 17, [(13, false), (11, false), (9, false), (7, false), (5, false)]⟩, []⟩]
def u_spec_l16Text_d : List (Nat × Nat × Bool × List Nat) := [(9, 5, false, [])]
def u_spec_l16Text_j0 : UP := .ite 0 (.cl 71 [(false, [2])] [(false, [none], true)] <| .po (.sc 0) <| .ret [(false, [0])]) <| .po (.k (.string ⟨#[]⟩)) <| .po (.bin .eql false 3 0) <| .po (.sc 0) <| .ret [(false, [0])]
def u_spec_l16Text_u : UP := .po (.k (.bool false)) <| .po (.k (.int .i64 3)) <| .po (.bin .eql false 6 0) <| .ite 0 (.po (.lenS 5) <| .po (.k (.int .i64 60)) <| .po (.bin .leq false 1 0) <| .po (.sc 0) <| .ret [(false, [0])]) <| .po (.k (.int .i64 14)) <| .po (.bin .eql false 8 0) <| .ite 0 (.po (.lenS 7) <| .po (.k (.int .i64 1)) <| .po (.k (.int .i64 60)) <| .sel [0, 1, 2] <| .cl 54 [(false, [2]), (false, [1]), (false, [0])] [(false, [none], true)] <| .po (.sc 0) <| .ret [(false, [0])]) <| .po (.k (.int .i64 10)) <| .po (.bin .eql false 10 0) <| .ite 0 (.po (.k (.string ⟨#[45]⟩)) <| .po (.k (.string ⟨#[33]⟩)) <| .po (.k (.string ⟨#[126]⟩)) <| .po (.sc 2) <| .po (.sc 1) <| .po (.sc 0) <| .po (.mk 9 1 [[2], [1], [0]]) <| .sel [0, 13] <| .cl 87 [(false, [0]), (false, [1])] [(false, [none], true)] <| .po (.sc 0) <| .ret [(false, [0])]) <| .po (.k (.int .i64 11)) <| .po (.bin .eql false 12 0) <| .ite 0 (.sel [11] <| .cl 88 [] [(false, [some (9, 1)], true)] <| .po (.sc 1) <| .cl 87 [(false, [0]), (false, [1])] [(false, [none], true)] <| .po (.sc 0) <| .po (.sc 0) <| .ret [(false, [0])]) <| .po (.k (.int .i64 7)) <| .po (.bin .eql false 14 0) <| .sel [0, 13, 15] <| .join 1 u_spec_l16Text_j0 <| .ite 0 (.jump 0 [0]) <| .po (.k (.int .i64 18)) <| .po (.bin .eql false 3 0) <| .ite 0 (.jump 0 [0]) <| .po (.k (.int .i64 22)) <| .po (.bin .eql false 5 0) <| .ite 0 (.jump 0 [0]) <| .po (.k (.int .i64 23)) <| .po (.bin .eql false 7 0) <| .ite 0 (.jump 0 [0]) <| .po (.k (.int .i64 24)) <| .po (.bin .eql false 9 0) <| .ite 0 (.jump 0 [0]) <| .po (.k (.int .i64 25)) <| .po (.bin .eql false 11 0) <| .ite 0 (.jump 0 [0]) <| .po (.k (.int .i64 26)) <| .po (.bin .eql false 13 0) <| .ite 0 (.jump 0 [0]) <| .po (.k (.int .i64 27)) <| .po (.bin .eql false 15 0) <| .ite 0 (.jump 0 [0]) <| .po (.k (.int .i64 28)) <| .po (.bin .eql false 17 0) <| .ite 0 (.jump 0 [0]) <| .po (.k (.int .i64 29)) <| .po (.bin .eql false 19 0) <| .ite 0 (.jump 0 [0]) <| .po (.k (.int .i64 30)) <| .po (.bin .eql false 21 0) <| .ite 0 (.jump 0 [0]) <| .po (.k (.int .i64 31)) <| .po (.bin .eql false 23 0) <| .ite 0 (.jump 0 [0]) <| .po (.k (.int .i64 32)) <| .po (.bin .eql false 25 0) <| .ite 0 (.jump 0 [0]) <| .po (.k (.int .i64 34)) <| .po (.bin .eql false 27 0) <| .jump 0 [0]
theorem u_spec_l16Text_g : toUPf Try.prog 70 Try.f70 owA u_spec_l16Text_h u_spec_l16Text_d = some ([(true, 5)], u_spec_l16Text_u) := by kernel_rfl
end Go.Proofs.Ytkcljmgjbjdccaa

namespace Go.Proofs.Ytkcljmgjbjdccaa
open Go.RowKit
set_option maxRecDepth 100000
def u_laws_eqNode_h : List Hint := []
def u_laws_eqNode_d : List (Nat × Nat × Bool × List Nat) := []
def u_laws_eqNode_u : UP := .po (.k (.bool false)) <| .po (.bin .neq false 10 5) <| .ite 0 (.po (.k (.bool false)) <| .po (.sc 0) <| .ret [(false, [0])]) <| .po (.bin .neq false 10 5) <| .ite 0 (.po (.k (.bool false)) <| .po (.sc 0) <| .ret [(false, [0])]) <| .po (.bin .neq false 10 5) <| .ite 0 (.po (.k (.bool false)) <| .po (.sc 0) <| .ret [(false, [0])]) <| .sel [4, 5, 9, 10] <| .cl 32 [(false, [3]), (false, [1])] [(false, [none], true)] <| .po (.un .not 0) <| .ite 0 (.po (.k (.bool false)) <| .po (.sc 0) <| .ret [(false, [0])]) <| .po (.bin .neq false 4 2) <| .ite 0 (.po (.k (.bool false)) <| .po (.sc 0) <| .ret [(false, [0])]) <| .po (.k (.bool true)) <| .po (.sc 0) <| .ret [(false, [0])]
theorem u_laws_eqNode_g : toUPf Try.prog 29 Try.f29 owA u_laws_eqNode_h u_laws_eqNode_d = some ([(true, 5), (true, 5)], u_laws_eqNode_u) := by kernel_rfl
def u_laws_eqNodeS_h : List Hint := [⟨3000004, 1, ⟨[(5, .p false [.d 7]), (10, .p false [.d 5]), (4, .p false [.d 2]), (0, .p false [.d 0]), (1, .p false [.d 1])], [], 0, 0, 8, [(5, false), (2, false)]⟩, []⟩]
def u_laws_eqNodeS_d : List (Nat × Nat × Bool × List Nat) := [(6, 10, false, [])]
def u_laws_eqNodeS_l0 : UP := .po (.lenL 3) <| .po (.bin .lss false 1 0) <| .ite 0 (.po (.isI 2) <| .po (.idx 5 5 2) <| .po (.isI 7) <| .po (.idx 5 9 7) <| .sel [0, 1, 2, 3, 4, 5, 6, 7, 8, 9, 12] <| .cl 29 [(true, [9, 8, 7, 6, 5]), (true, [4, 3, 2, 1, 0])] [(false, [none], true)] <| .po (.un .not 0) <| .po (.sc 0) <| .ite 0 (.po (.k (.bool false)) <| .po (.sc 0) <| .ret [(false, [0])]) <| .po (.k (.int .i64 1)) <| .po (.bin .add false 13 0) <| .jump 0 [0]) <| .po (.k (.bool true)) <| .po (.sc 0) <| .ret [(false, [0])]
def u_laws_eqNodeS_u : UP := .po (.k (.bool false)) <| .po (.lenL 2) <| .po (.lenL 2) <| .po (.bin .neq false 1 0) <| .ite 0 (.po (.k (.bool false)) <| .po (.sc 0) <| .ret [(false, [0])]) <| .po (.k (.int .i64 0)) <| .sel [0, 5, 6] <| .loop [0] u_laws_eqNodeS_l0
theorem u_laws_eqNodeS_g : toUPf Try.prog 9 Try.f9 owA u_laws_eqNodeS_h u_laws_eqNodeS_d = some ([(false, 1), (false, 1)], u_laws_eqNodeS_u) := by kernel_rfl
def u_laws_szNode_h : List Hint := []
def u_laws_szNode_d : List (Nat × Nat × Bool × List Nat) := []
def u_laws_szNode_u : UP := .po (.k (.int .i64 0)) <| .po (.lenS 4) <| .po (.bin .sub false 2 0) <| .po (.k (.int .i64 0)) <| .po (.bin .lss false 1 0) <| .ite 0 (.po (.k (.int .i64 (-1))) <| .po (.sc 0) <| .ret [(false, [0])]) <| .sel [2, 7] <| .cl 21 [(false, [1]), (false, [0])] [(false, [none], true)] <| .po (.k (.int .i64 0)) <| .po (.bin .lss false 1 0) <| .ite 0 (.po (.k (.int .i64 (-1))) <| .po (.sc 0) <| .ret [(false, [0])]) <| .po (.sc 2) <| .ret [(false, [2])]
theorem u_laws_szNode_g : toUPf Try.prog 38 Try.f38 owA u_laws_szNode_h u_laws_szNode_d = some ([(true, 5), (false, 1)], u_laws_szNode_u) := by kernel_rfl
def u_laws_szNodeS_h : List Hint := [⟨3000005, 2, ⟨[(5, .p false [.d 8]), (11, .p false [.d 6]), (1, .p false [.d 9]), (4, .p false [.d 2]), (0, .p false [.d 0])], [], 0, 0, 10, [(6, false)]⟩, []⟩]
def u_laws_szNodeS_d : List (Nat × Nat × Bool × List Nat) := []
def u_laws_szNodeS_l0 : UP := .po (.lenL 4) <| .po (.bin .lss false 2 0) <| .ite 0 (.po (.isI 3) <| .po (.idx 5 6 3) <| .sel [0, 1, 2, 3, 4, 7, 8] <| .cl 38 [(true, [4, 3, 2, 1, 0]), (false, [5])] [(false, [none], true)] <| .po (.k (.int .i64 0)) <| .po (.bin .lss false 1 0) <| .ite 0 (.po (.k (.int .i64 (-1))) <| .po (.sc 0) <| .ret [(false, [0])]) <| .po (.k (.int .i64 1)) <| .po (.bin .add false 10 0) <| .jump 0 [0, 4]) <| .po (.sc 2) <| .ret [(false, [2])]
def u_laws_szNodeS_u : UP := .po (.k (.int .i64 0)) <| .po (.lenL 2) <| .po (.bin .sub false 2 0) <| .po (.k (.int .i64 0)) <| .po (.bin .lss false 1 0) <| .ite 0 (.po (.k (.int .i64 (-1))) <| .po (.sc 0) <| .ret [(false, [0])]) <| .po (.k (.int .i64 0)) <| .sel [0, 3, 7] <| .loop [0, 1] u_laws_szNodeS_l0
theorem u_laws_szNodeS_g : toUPf Try.prog 14 Try.f14 owA u_laws_szNodeS_h u_laws_szNodeS_d = some ([(false, 1), (false, 1)], u_laws_szNodeS_u) := by kernel_rfl
def u_laws_toNode_h : List Hint := []
def u_laws_toNode_d : List (Nat × Nat × Bool × List Nat) := []
def u_laws_toNode_u : UP := .po (.k (.int .i64 0)) <| .po (.k (.int .i64 0)) <| .po (.k (.string ⟨#[]⟩)) <| .po (.k (.int .i64 0)) <| .po (.k (.int .i64 0)) <| .po (.k (.int .i64 0)) <| .po (.k (.string ⟨#[]⟩)) <| .po (.k (.int .i64 0)) <| .sel [8, 9, 10, 11, 12] <| .cl 25 [(false, [1])] [(false, [some (9, 1)], true)] <| .po (.sc 5) <| .po (.sc 4) <| .po (.sc 3) <| .po (.sc 1) <| .ret [(true, [5, 4, 3, 0, 1])]
theorem u_laws_toNode_g : toUPf Try.prog 41 Try.f41 owA u_laws_toNode_h u_laws_toNode_d = some ([(true, 5)], u_laws_toNode_u) := by kernel_rfl
def u_laws_toNodeS_h : List Hint := [⟨3000003, 2, ⟨[(4, .p false [.d 4]), (3, .p false [.own 0 0]), (2, .p false [.nil]), (0, .p false [.d 0])], [(0, .row 0 52 5 5)], 1, 1, 6, []⟩, []⟩]
def u_laws_toNodeS_d : List (Nat × Nat × Bool × List Nat) := []
def u_laws_toNodeS_l0 : UP := .po (.lenL 5) <| .po (.bin .lss false 2 0) <| .ite 0 (.po (.isI 3) <| .po (.idx 5 7 3) <| .sel [0, 1, 2, 3, 4, 7, 8] <| .cl 41 [(true, [4, 3, 2, 1, 0])] [(true, [none, none, none, some (9, 1), none], true)] <| .po (.isI 11) <| .po (.chk 5 10 11) <| .po (.sc 4) <| .po (.sc 3) <| .po (.sc 2) <| .po (.sc 0) <| .po (.set 5 10 11 0 [4, 3, 2, 1, 0]) <| .po (.k (.int .i64 1)) <| .po (.bin .add false 13 0) <| .jump 0 [0, 2]) <| .ret [(false, [2])]
def u_laws_toNodeS_u : UP := .po (.lenL 0) <| .po (.make 52 5 64 [.sc (.int .i64 0), .sc (.int .i64 0), .sc (.string ⟨#[]⟩), .sl 0 1 [], .sc (.int .i64 0)] 0) <| .po (.k (.int .i64 0)) <| .loop [0, 1] u_laws_toNodeS_l0
theorem u_laws_toNodeS_g : toUPf Try.prog 16 Try.f16 owA u_laws_toNodeS_h u_laws_toNodeS_d = some ([(false, 1)], u_laws_toNodeS_u) := by kernel_rfl
end Go.Proofs.Ytkcljmgjbjdccaa

namespace Go.Proofs.Ytkcljmgjbjdccaa
open Go.RowKit Go.ChangeShapes Go.WideShapes Go.Deep
set_option maxRecDepth 100000
structure Nod where
  kind : Int
  num : Int
  text : ByteArray
  labels : List ByteArray
  kids : Int
  deriving DecidableEq
instance : Inhabited Nod := ⟨⟨default, default, default, default, default⟩⟩
def encNod (x : Nod) : List DV := [.sc (.int .i64 x.kind), .sc (.int .i64 x.num), .sc (.string x.text), encSs x.labels, .sc (.int .i64 x.kids)]
def encNods (l : List Nod) : DV := .sl 52 5 (l.map encNod)
def encNodsL (l : List Nod) : DV := .sl 67 5 (l.map encNod)
def wtNod (x : Nod) : Nat := x.text.size + wtSs x.labels
def OkNod (x : Nod) : Prop := In64 x.kind ∧ In64 x.num ∧ x.text.size ≤ 9223372036854775807 ∧ OkSs x.labels ∧ In64 x.kids
def wtNods (l : List Nod) : Nat := l.length + sumOf wtNod l
def OkNods (l : List Nod) : Prop := l.length ≤ 9223372036854775807 ∧ ∀ x ∈ l, OkNod x
theorem ix_Nod {t : Nat} {l : List Nod} {kd : IntKind} {z : Int} (h : 0 ≤ z) (h1 : z < l.length) : eIdx 5 (some (.sl t 5 (l.map encNod))) (some (.sc (.int kd z))) = some (encNod (l.getD z.toNat default)) := e_idx_map (fun _ => rfl) h h1
theorem opD_Nod : OpD encNod OkNod Try.prog 67 := by
  intro H enc w base spare held fuel cs x h
  obtain ⟨hl, n, hf⟩ := open_flds Try.underlying67 h
  obtain ⟨y0, t0⟩ := hf 0 _ rfl
  obtain ⟨a0, r0, i0⟩ := opD_int Try.underlying3 H enc w base spare held n _ _ t0
  obtain ⟨y1, t1⟩ := hf 1 _ rfl
  obtain ⟨a1, r1, i1⟩ := opD_int Try.underlying3 H enc w base spare held n _ _ t1
  obtain ⟨y2, t2⟩ := hf 2 _ rfl
  obtain ⟨a2, r2, i2⟩ := opD_str Try.underlying9 H enc w base spare held n _ _ t2
  obtain ⟨y3, t3⟩ := hf 3 _ rfl
  obtain ⟨a3, r3, i3⟩ := opD_Ss H enc w base spare held n _ _ t3
  obtain ⟨y4, t4⟩ := hf 4 _ rfl
  obtain ⟨a4, r4, i4⟩ := opD_int Try.underlying3 H enc w base spare held n _ _ t4
  exact ⟨⟨a0, a1, a2, a3, a4⟩, repl_cut (o := 0) (k := 1) (repl_at r0 rfl (by kernel_rfl)) (repl_cut (o := 1) (k := 1) (repl_at r1 rfl (by kernel_rfl)) (repl_cut (o := 2) (k := 1) (repl_at r2 rfl (by kernel_rfl)) (repl_cut (o := 3) (k := 1) (repl_at r3 rfl (by kernel_rfl)) (repl_cut (o := 4) (k := 1) (repl_at r4 rfl (by kernel_rfl)) (repl_end hl (by kernel_rfl)))))), i0, i1, i2, i3, i4⟩
theorem opD_Nods : OpD (fun l => [encNodsL l]) OkNods Try.prog 41 := opD_slice (e := encNod) 67 Try.underlying41 (by kernel_rfl) (by decide) (fun _ => rfl) opD_Nod
theorem szNod_m (x : Nod) (left : Int) (ok : OkNod x) (h0 : 0 ≤ left) (h1 : left ≤ 1048576) : Meets Try.prog 38 [(true, encNod x), (false, [.sc (.int .i64 left)])] [(false, [.sc (.int .i64 (szF left (wtNod x)))], true)] := by
  obtain ⟨x0, x1, x2, x3, x4⟩ := x
  obtain ⟨k0, k1, k2, k3, k4⟩ := ok
  simp only at k0 k1 k2 k3 k4
  refine meets_upf Try.func38 u_laws_szNode_g rfl ?_; simp only [u_laws_szNode_u]
  simp only [encNod]
  simp (disch := first | omega | (simp only [List.length_take, List.length_drop, List.length_append, List.map_cons, List.map_nil, List.length_map, List.length_cons, List.length_nil, List.length_set, List.length_replicate]; omega) | (simp only [List.length_cons, List.length_nil, Nat.zero_add, Nat.reduceAdd])) only [go_sem, ↓reduceIte, Nat.reduceAdd, Int.reduceNeg, Int.reduceAdd, Int.reduceSub, Int.reduceMul, Int.reduceLT, Int.reduceLE, Int.reduceEq, Int.reduceToNat, Nat.reduceBEq, e_sle, e_sge, e_shl1, e_orI, e_andI, e_shr, wrapu, wrap8, tn1, nat1, ix_s, ix_z, st_s, st_z, fl_s, fl_z, fl1_s, fl1_z, map_s, map_z, true_and]
  refine br_if (fun hbr => ?_) (fun hbr => ?_)
  · simp (disch := first | omega | (simp only [List.length_take, List.length_drop, List.length_append, List.map_cons, List.map_nil, List.length_map, List.length_cons, List.length_nil, List.length_set, List.length_replicate]; omega) | (simp only [List.length_cons, List.length_nil, Nat.zero_add, Nat.reduceAdd])) only [go_sem, ↓reduceIte, Nat.reduceAdd, Int.reduceNeg, Int.reduceAdd, Int.reduceSub, Int.reduceMul, Int.reduceLT, Int.reduceLE, Int.reduceEq, Int.reduceToNat, Nat.reduceBEq, e_sle, e_sge, e_shl1, e_orI, e_andI, e_shr, wrapu, wrap8, tn1, nat1, ix_s, ix_z, st_s, st_z, fl_s, fl_z, fl1_s, fl1_z, map_s, map_z, true_and]
    exact ret_z (szF_gt (by simp only [wtNod]; omega))
  simp (disch := first | omega | (simp only [List.length_take, List.length_drop, List.length_append, List.map_cons, List.map_nil, List.length_map, List.length_cons, List.length_nil, List.length_set, List.length_replicate]; omega) | (simp only [List.length_cons, List.length_nil, Nat.zero_add, Nat.reduceAdd])) only [go_sem, ↓reduceIte, Nat.reduceAdd, Int.reduceNeg, Int.reduceAdd, Int.reduceSub, Int.reduceMul, Int.reduceLT, Int.reduceLE, Int.reduceEq, Int.reduceToNat, Nat.reduceBEq, e_sle, e_sge, e_shl1, e_orI, e_andI, e_shr, wrapu, wrap8, tn1, nat1, ix_s, ix_z, st_s, st_z, fl_s, fl_z, fl1_s, fl1_z, map_s, map_z, true_and]
  refine cl_ok (szSs_m x3 (left - ((x2.size : Nat) : Int)) k3 (by omega) (by omega)) rfl ?_
  by_cases hwlabels : ((wtSs x3 : Nat) : Int) ≤ left - ((x2.size : Nat) : Int)
  rotate_left
  · have hs := szF_gt (left := left - ((x2.size : Nat) : Int)) (wt := wtSs x3) (by omega)
    simp (disch := first | omega | (simp only [List.length_take, List.length_drop, List.length_append, List.map_cons, List.map_nil, List.length_map, List.length_cons, List.length_nil, List.length_set, List.length_replicate]; omega) | (simp only [List.length_cons, List.length_nil, Nat.zero_add, Nat.reduceAdd])) only [go_sem, ↓reduceIte, Nat.reduceAdd, Int.reduceNeg, Int.reduceAdd, Int.reduceSub, Int.reduceMul, Int.reduceLT, Int.reduceLE, Int.reduceEq, Int.reduceToNat, Nat.reduceBEq, e_sle, e_sge, e_shl1, e_orI, e_andI, e_shr, wrapu, wrap8, tn1, nat1, ix_s, ix_z, st_s, st_z, fl_s, fl_z, fl1_s, fl1_z, map_s, map_z, hs]
    exact ret_z (szF_gt (by simp only [wtNod]; omega))
  have hslabels := szF_le hwlabels
  have hdlabels : decide (left - ((x2.size : Nat) : Int) - ((wtSs x3 : Nat) : Int) < 0) = false := decide_eq_false (by omega)
  simp (disch := first | omega | (simp only [List.length_take, List.length_drop, List.length_append, List.map_cons, List.map_nil, List.length_map, List.length_cons, List.length_nil, List.length_set, List.length_replicate]; omega) | (simp only [List.length_cons, List.length_nil, Nat.zero_add, Nat.reduceAdd])) only [go_sem, ↓reduceIte, Nat.reduceAdd, Int.reduceNeg, Int.reduceAdd, Int.reduceSub, Int.reduceMul, Int.reduceLT, Int.reduceLE, Int.reduceEq, Int.reduceToNat, Nat.reduceBEq, e_sle, e_sge, e_shl1, e_orI, e_andI, e_shr, wrapu, wrap8, tn1, nat1, ix_s, ix_z, st_s, st_z, fl_s, fl_z, fl1_s, fl1_z, map_s, map_z, hslabels, hdlabels]
  exact ret_z (by rw [szF_le (by simp only [wtNod]; omega)] <;> (simp only [wtNod]; try omega))
theorem szNods_m (l : List Nod) (left : Int) (ok : OkNods l) (h0 : 0 ≤ left) (h1 : left ≤ 1048576) : Meets Try.prog 14 [(false, [encNodsL l]), (false, [.sc (.int .i64 left)])] [(false, [.sc (.int .i64 (szF left (wtNods l)))], true)] := by
  obtain ⟨k1, k2⟩ := ok
  refine meets_upf Try.func14 u_laws_szNodeS_g rfl ?_; simp only [u_laws_szNodeS_u]
  simp only [encNodsL]
  simp (disch := first | omega | (simp only [List.length_take, List.length_drop, List.length_append, List.map_cons, List.map_nil, List.length_map, List.length_cons, List.length_nil, List.length_set, List.length_replicate]; omega) | (simp only [List.length_cons, List.length_nil, Nat.zero_add, Nat.reduceAdd])) only [go_sem, ↓reduceIte, Nat.reduceAdd, Int.reduceNeg, Int.reduceAdd, Int.reduceSub, Int.reduceMul, Int.reduceLT, Int.reduceLE, Int.reduceEq, Int.reduceToNat, Nat.reduceBEq, e_sle, e_sge, e_shl1, e_orI, e_andI, e_shr, wrapu, wrap8, tn1, nat1, ix_s, ix_z, st_s, st_z, fl_s, fl_z, fl1_s, fl1_z, map_s, map_z, true_and]
  refine br_if (fun hbr => ?_) (fun hbr => ?_)
  · simp (disch := first | omega | (simp only [List.length_take, List.length_drop, List.length_append, List.map_cons, List.map_nil, List.length_map, List.length_cons, List.length_nil, List.length_set, List.length_replicate]; omega) | (simp only [List.length_cons, List.length_nil, Nat.zero_add, Nat.reduceAdd])) only [go_sem, ↓reduceIte, Nat.reduceAdd, Int.reduceNeg, Int.reduceAdd, Int.reduceSub, Int.reduceMul, Int.reduceLT, Int.reduceLE, Int.reduceEq, Int.reduceToNat, Nat.reduceBEq, e_sle, e_sge, e_shl1, e_orI, e_andI, e_shr, wrapu, wrap8, tn1, nat1, ix_s, ix_z, st_s, st_z, fl_s, fl_z, fl1_s, fl1_z, map_s, map_z, true_and]
    exact ret_z (szF_gt (by unfold wtNods; omega))
  simp (disch := first | omega | (simp only [List.length_take, List.length_drop, List.length_append, List.map_cons, List.map_nil, List.length_map, List.length_cons, List.length_nil, List.length_set, List.length_replicate]; omega) | (simp only [List.length_cons, List.length_nil, Nat.zero_add, Nat.reduceAdd])) only [go_sem, ↓reduceIte, Nat.reduceAdd, Int.reduceNeg, Int.reduceAdd, Int.reduceSub, Int.reduceMul, Int.reduceLT, Int.reduceLE, Int.reduceEq, Int.reduceToNat, Nat.reduceBEq, e_sle, e_sge, e_shl1, e_orI, e_andI, e_shr, wrapu, wrap8, tn1, nat1, ix_s, ix_z, st_s, st_z, fl_s, fl_z, fl1_s, fl1_z, map_s, map_z, true_and]
  refine lp (fun i : Nat => [.sc (.int .i64 i), .sc (.int .i64 (left - (l.length : Int) - (sumOf wtNod (l.take i) : Nat)))]) (fun i => i ≤ l.length ∧ (sumOf wtNod (l.take i) : Nat) ≤ left - (l.length : Int)) (fun i => l.length - i) 0 (by simp [gL, sumOf]) ⟨by omega, by simp [sumOf]; omega⟩ ?_
  rintro i ⟨hi, hs⟩
  simp only [u_laws_szNodeS_l0]
  by_cases hlt : i < l.length
  · have h3 := sumOf_take wtNod hlt
    have h5 := sumOf_le wtNod l (i + 1)
    have hx := k2 _ (getD_mem hlt)
    have hix : eIdx 5 (some (.sl 67 5 (l.map encNod))) (some (.sc (.int .i64 (i : Int)))) = some (encNod (l.getD i default)) := by rw [ix_Nod (by omega) (by omega), Int.toNat_natCast]
    generalize l.getD i default = x at h3 hx hix
    have hc := szNod_m x (left - (l.length : Int) - (sumOf wtNod (l.take i) : Nat)) hx (by omega) (by omega)
    simp only [encNod] at hc hix
    by_cases hw : ((wtNod x : Nat) : Int) ≤ left - (l.length : Int) - (sumOf wtNod (l.take i) : Nat)
    · have hs1 := szF_le hw
      rw [hs1] at hc
      repeat' (first | (with_reducible refine jn_in ?_) | (with_reducible refine cl_ok (by assumption) rfl ?_) | (with_reducible refine cl_okP (by assumption) rfl ?_) | (with_reducible refine br_if (fun hbr => ?_) (fun hbr => ?_)) | (with_reducible refine br_ifn (fun hbr => ?_) (fun hbr => ?_)) | (with_reducible refine br_nb (fun hbr => ?_) (fun hbr => ?_)) | (with_reducible refine br_b (fun hbr => ?_) (fun hbr => ?_)) | simp (disch := first | omega | (simp only [List.length_take, List.length_drop, List.length_append, List.map_cons, List.map_nil, List.length_map, List.length_cons, List.length_nil, List.length_set, List.length_replicate]; omega) | (simp only [List.length_cons, List.length_nil, Nat.zero_add, Nat.reduceAdd])) only [go_sem, ↓reduceIte, Nat.reduceAdd, Int.reduceNeg, Int.reduceAdd, Int.reduceSub, Int.reduceMul, Int.reduceLT, Int.reduceLE, Int.reduceEq, Int.reduceToNat, Nat.reduceBEq, e_sle, e_sge, e_shl1, e_orI, e_andI, e_shr, wrapu, wrap8, tn1, nat1, ix_s, ix_z, st_s, st_z, fl_s, fl_z, fl1_s, fl1_z, map_s, map_z, hix])
      all_goals first | omega | exact ret_z (szF_gt (by unfold wtNods; omega)) | exact ⟨i + 1, by congr 4; omega, ⟨by omega, by omega⟩, by omega⟩
    · have hs1 := szF_gt (left := left - (l.length : Int) - (sumOf wtNod (l.take i) : Nat)) (wt := wtNod x) (by omega)
      rw [hs1] at hc
      repeat' (first | (with_reducible refine jn_in ?_) | (with_reducible refine cl_ok (by assumption) rfl ?_) | (with_reducible refine cl_okP (by assumption) rfl ?_) | (with_reducible refine br_if (fun hbr => ?_) (fun hbr => ?_)) | (with_reducible refine br_ifn (fun hbr => ?_) (fun hbr => ?_)) | (with_reducible refine br_nb (fun hbr => ?_) (fun hbr => ?_)) | (with_reducible refine br_b (fun hbr => ?_) (fun hbr => ?_)) | simp (disch := first | omega | (simp only [List.length_take, List.length_drop, List.length_append, List.map_cons, List.map_nil, List.length_map, List.length_cons, List.length_nil, List.length_set, List.length_replicate]; omega) | (simp only [List.length_cons, List.length_nil, Nat.zero_add, Nat.reduceAdd])) only [go_sem, ↓reduceIte, Nat.reduceAdd, Int.reduceNeg, Int.reduceAdd, Int.reduceSub, Int.reduceMul, Int.reduceLT, Int.reduceLE, Int.reduceEq, Int.reduceToNat, Nat.reduceBEq, e_sle, e_sge, e_shl1, e_orI, e_andI, e_shr, wrapu, wrap8, tn1, nat1, ix_s, ix_z, st_s, st_z, fl_s, fl_z, fl1_s, fl1_z, map_s, map_z, hix])
      all_goals first | omega | exact ret_z (szF_gt (by unfold wtNods; omega))
  · obtain rfl : i = l.length := by omega
    rw [List.take_length] at hs ⊢
    repeat' (first | (with_reducible refine jn_in ?_) | (with_reducible refine cl_ok (by assumption) rfl ?_) | (with_reducible refine cl_okP (by assumption) rfl ?_) | (with_reducible refine br_if (fun hbr => ?_) (fun hbr => ?_)) | (with_reducible refine br_ifn (fun hbr => ?_) (fun hbr => ?_)) | (with_reducible refine br_nb (fun hbr => ?_) (fun hbr => ?_)) | (with_reducible refine br_b (fun hbr => ?_) (fun hbr => ?_)) | simp (disch := first | omega | (simp only [List.length_take, List.length_drop, List.length_append, List.map_cons, List.map_nil, List.length_map, List.length_cons, List.length_nil, List.length_set, List.length_replicate]; omega) | (simp only [List.length_cons, List.length_nil, Nat.zero_add, Nat.reduceAdd])) only [go_sem, ↓reduceIte, Nat.reduceAdd, Int.reduceNeg, Int.reduceAdd, Int.reduceSub, Int.reduceMul, Int.reduceLT, Int.reduceLE, Int.reduceEq, Int.reduceToNat, Nat.reduceBEq, e_sle, e_sge, e_shl1, e_orI, e_andI, e_shr, wrapu, wrap8, tn1, nat1, ix_s, ix_z, st_s, st_z, fl_s, fl_z, fl1_s, fl1_z, map_s, map_z, true_and])
    all_goals first | omega | exact ret_z (by rw [szF_le (by unfold wtNods; omega)]; unfold wtNods; omega)
theorem toNod_m (x : Nod) (hw : wtNod x ≤ 1048576) : Meets Try.prog 41 [(true, encNod x)] [(true, encNod x, true)] := by
  obtain ⟨x0, x1, x2, x3, x4⟩ := x
  simp only [wtNod] at hw
  have clabels := toSs_m x3 (wtSs_len (n := 1048576) (by omega))
  refine meets_upf Try.func41 u_laws_toNode_g rfl ?_; simp only [u_laws_toNode_u]
  simp only [encNod]
  repeat' (first | (with_reducible refine jn_in ?_) | (with_reducible refine cl_ok (by assumption) rfl ?_) | (with_reducible refine cl_okP (by assumption) rfl ?_) | (with_reducible refine br_if (fun hbr => ?_) (fun hbr => ?_)) | (with_reducible refine br_ifn (fun hbr => ?_) (fun hbr => ?_)) | (with_reducible refine br_nb (fun hbr => ?_) (fun hbr => ?_)) | (with_reducible refine br_b (fun hbr => ?_) (fun hbr => ?_)) | simp (disch := first | omega | (simp only [List.length_take, List.length_drop, List.length_append, List.map_cons, List.map_nil, List.length_map, List.length_cons, List.length_nil, List.length_set, List.length_replicate]; omega) | (simp only [List.length_cons, List.length_nil, Nat.zero_add, Nat.reduceAdd])) only [go_sem, ↓reduceIte, Nat.reduceAdd, Int.reduceNeg, Int.reduceAdd, Int.reduceSub, Int.reduceMul, Int.reduceLT, Int.reduceLE, Int.reduceEq, Int.reduceToNat, Nat.reduceBEq, e_sle, e_sge, e_shl1, e_orI, e_andI, e_shr, wrapu, wrap8, tn1, nat1, ix_s, ix_z, st_s, st_z, fl_s, fl_z, fl1_s, fl1_z, map_s, map_z, true_and])
  rfl
theorem toNods_m (l : List Nod) (h : wtNods l ≤ 1048576) : Meets Try.prog 16 [(false, [encNodsL l])] [(false, [encNods l], true)] := by
  have hl : l.length ≤ 1048576 := by unfold wtNods at h; omega
  have hz : ∀ x ∈ l, wtNod x ≤ 1048576 := fun x hx => by have := sumOf_mem wtNod hx; unfold wtNods at h; omega
  refine meets_upf Try.func16 u_laws_toNodeS_g rfl ?_; simp only [u_laws_toNodeS_u]
  simp only [encNodsL, encNods]
  have hm := fun b (hb : b ≤ 140) => e_makeL (e := encNod) (l := l) (el := 52) (k := 5) (b := b) (zz := [.sc (.int .i64 0), .sc (.int .i64 0), .sc (.string ⟨#[]⟩), .sl 0 1 [], .sc (.int .i64 0)]) (by omega) hb
  have hm1 := hm 64 (by decide)
  simp (disch := first | omega | (simp only [List.length_take, List.length_drop, List.length_append, List.map_cons, List.map_nil, List.length_map, List.length_cons, List.length_nil, List.length_set, List.length_replicate]; omega) | (simp only [List.length_cons, List.length_nil, Nat.zero_add, Nat.reduceAdd])) only [go_sem, ↓reduceIte, Nat.reduceAdd, Int.reduceNeg, Int.reduceAdd, Int.reduceSub, Int.reduceMul, Int.reduceLT, Int.reduceLE, Int.reduceEq, Int.reduceToNat, Nat.reduceBEq, e_sle, e_sge, e_shl1, e_orI, e_andI, e_shr, wrapu, wrap8, tn1, nat1, ix_s, ix_z, st_s, st_z, fl_s, fl_z, fl1_s, fl1_z, map_s, map_z, hm1]
  refine lp_n l.length (fun i => [.sc (.int .i64 i), .sl 52 5 (fillL (l.map encNod) i [.sc (.int .i64 0), .sc (.int .i64 0), .sc (.string ⟨#[]⟩), .sl 0 1 [], .sc (.int .i64 0)])]) rfl fun i hi => ?_
  simp only [u_laws_toNodeS_l0]
  by_cases hlt : i < l.length
  · have e1 := e_chkF (e := encNod) (t := 52) (k := 5) (kd := .i64) (z := [.sc (.int .i64 0), .sc (.int .i64 0), .sc (.string ⟨#[]⟩), .sl 0 1 [], .sc (.int .i64 0)]) hlt
    have e2 := e_fill (e := encNod) (t := 52) (k := 5) (kd := .i64) (z := [.sc (.int .i64 0), .sc (.int .i64 0), .sc (.string ⟨#[]⟩), .sl 0 1 [], .sc (.int .i64 0)]) rfl rfl (fun _ => rfl) hlt
    have hc := toNod_m (l.getD i default) (hz _ (getD_mem hlt))
    have hix : eIdx 5 (some (.sl 67 5 (l.map encNod))) (some (.sc (.int .i64 (i : Int)))) = some (encNod (l.getD i default)) := by rw [ix_Nod (by omega) (by omega), Int.toNat_natCast]
    simp only [encNod, encSs, encZs] at e2 hc hix
    repeat' (first | (with_reducible refine jn_in ?_) | (with_reducible refine cl_ok (by assumption) rfl ?_) | (with_reducible refine cl_okP (by assumption) rfl ?_) | (with_reducible refine br_if (fun hbr => ?_) (fun hbr => ?_)) | (with_reducible refine br_ifn (fun hbr => ?_) (fun hbr => ?_)) | (with_reducible refine br_nb (fun hbr => ?_) (fun hbr => ?_)) | (with_reducible refine br_b (fun hbr => ?_) (fun hbr => ?_)) | simp (disch := first | omega | (simp only [List.length_take, List.length_drop, List.length_append, List.map_cons, List.map_nil, List.length_map, List.length_cons, List.length_nil, List.length_set, List.length_replicate]; omega) | (simp only [List.length_cons, List.length_nil, Nat.zero_add, Nat.reduceAdd])) only [go_sem, ↓reduceIte, Nat.reduceAdd, Int.reduceNeg, Int.reduceAdd, Int.reduceSub, Int.reduceMul, Int.reduceLT, Int.reduceLE, Int.reduceEq, Int.reduceToNat, Nat.reduceBEq, e_sle, e_sge, e_shl1, e_orI, e_andI, e_shr, wrapu, wrap8, tn1, nat1, ix_s, ix_z, st_s, st_z, fl_s, fl_z, fl1_s, fl1_z, map_s, map_z, e1, e2, hix])
    all_goals omega
  · obtain rfl : i = l.length := by omega
    repeat' (first | (with_reducible refine jn_in ?_) | (with_reducible refine cl_ok (by assumption) rfl ?_) | (with_reducible refine cl_okP (by assumption) rfl ?_) | (with_reducible refine br_if (fun hbr => ?_) (fun hbr => ?_)) | (with_reducible refine br_ifn (fun hbr => ?_) (fun hbr => ?_)) | (with_reducible refine br_nb (fun hbr => ?_) (fun hbr => ?_)) | (with_reducible refine br_b (fun hbr => ?_) (fun hbr => ?_)) | simp (disch := first | omega | (simp only [List.length_take, List.length_drop, List.length_append, List.map_cons, List.map_nil, List.length_map, List.length_cons, List.length_nil, List.length_set, List.length_replicate]; omega) | (simp only [List.length_cons, List.length_nil, Nat.zero_add, Nat.reduceAdd])) only [go_sem, ↓reduceIte, Nat.reduceAdd, Int.reduceNeg, Int.reduceAdd, Int.reduceSub, Int.reduceMul, Int.reduceLT, Int.reduceLE, Int.reduceEq, Int.reduceToNat, Nat.reduceBEq, e_sle, e_sge, e_shl1, e_orI, e_andI, e_shr, wrapu, wrap8, tn1, nat1, ix_s, ix_z, st_s, st_z, fl_s, fl_z, fl1_s, fl1_z, map_s, map_z, fillL_endm])
    · omega
    · rfl
theorem eqNod_m (x : Nod) (hw : wtNod x ≤ 10000000000) : Meets Try.prog 29 [(true, encNod x), (true, encNod x)] [(false, [.sc (.bool true)], true)] := by
  obtain ⟨x0, x1, x2, x3, x4⟩ := x
  simp only [wtNod] at hw
  have clabels := eqSs_m x3 (wtSs_len (n := 100000000000) (by omega))
  refine meets_upf Try.func29 u_laws_eqNode_g rfl ?_; simp only [u_laws_eqNode_u]
  simp only [encNod]
  repeat' (first | (with_reducible refine jn_in ?_) | (with_reducible refine cl_ok (by assumption) rfl ?_) | (with_reducible refine cl_okP (by assumption) rfl ?_) | (with_reducible refine br_if (fun hbr => ?_) (fun hbr => ?_)) | (with_reducible refine br_ifn (fun hbr => ?_) (fun hbr => ?_)) | (with_reducible refine br_nb (fun hbr => ?_) (fun hbr => ?_)) | (with_reducible refine br_b (fun hbr => ?_) (fun hbr => ?_)) | simp (disch := first | omega | (simp only [List.length_take, List.length_drop, List.length_append, List.map_cons, List.map_nil, List.length_map, List.length_cons, List.length_nil, List.length_set, List.length_replicate]; omega) | (simp only [List.length_cons, List.length_nil, Nat.zero_add, Nat.reduceAdd])) only [go_sem, ↓reduceIte, Nat.reduceAdd, Int.reduceNeg, Int.reduceAdd, Int.reduceSub, Int.reduceMul, Int.reduceLT, Int.reduceLE, Int.reduceEq, Int.reduceToNat, Nat.reduceBEq, e_sle, e_sge, e_shl1, e_orI, e_andI, e_shr, wrapu, wrap8, tn1, nat1, ix_s, ix_z, st_s, st_z, fl_s, fl_z, fl1_s, fl1_z, map_s, map_z, eq_self])
  rfl
theorem eqNods_m (l : List Nod) (h : wtNods l ≤ 10000000000) : Meets Try.prog 9 [(false, [encNods l]), (false, [encNods l])] [(false, [.sc (.bool true)], true)] := by
  have hl : l.length ≤ 10000000000 := by unfold wtNods at h; omega
  have hz : ∀ x ∈ l, wtNod x ≤ 10000000000 := fun x hx => by have := sumOf_mem wtNod hx; unfold wtNods at h; omega
  refine meets_upf Try.func9 u_laws_eqNodeS_g rfl ?_; simp only [u_laws_eqNodeS_u]
  simp only [encNods]
  simp (disch := first | omega | (simp only [List.length_take, List.length_drop, List.length_append, List.map_cons, List.map_nil, List.length_map, List.length_cons, List.length_nil, List.length_set, List.length_replicate]; omega) | (simp only [List.length_cons, List.length_nil, Nat.zero_add, Nat.reduceAdd])) only [go_sem, ↓reduceIte, Nat.reduceAdd, Int.reduceNeg, Int.reduceAdd, Int.reduceSub, Int.reduceMul, Int.reduceLT, Int.reduceLE, Int.reduceEq, Int.reduceToNat, Nat.reduceBEq, e_sle, e_sge, e_shl1, e_orI, e_andI, e_shr, wrapu, wrap8, tn1, nat1, ix_s, ix_z, st_s, st_z, fl_s, fl_z, fl1_s, fl1_z, map_s, map_z, eq_self]
  refine lp_n l.length (fun i => [.sc (.int .i64 i)]) rfl fun i hi => ?_
  simp only [u_laws_eqNodeS_l0]
  by_cases hlt : i < l.length
  · have hc := eqNod_m (l.getD i default) (hz _ (getD_mem hlt))
    have hix : eIdx 5 (some (.sl 52 5 (l.map encNod))) (some (.sc (.int .i64 (i : Int)))) = some (encNod (l.getD i default)) := by rw [ix_Nod (by omega) (by omega), Int.toNat_natCast]
    simp only [encNod, encSs, encZs] at hc hix
    repeat' (first | (with_reducible refine jn_in ?_) | (with_reducible refine cl_ok (by assumption) rfl ?_) | (with_reducible refine cl_okP (by assumption) rfl ?_) | (with_reducible refine br_if (fun hbr => ?_) (fun hbr => ?_)) | (with_reducible refine br_ifn (fun hbr => ?_) (fun hbr => ?_)) | (with_reducible refine br_nb (fun hbr => ?_) (fun hbr => ?_)) | (with_reducible refine br_b (fun hbr => ?_) (fun hbr => ?_)) | simp (disch := first | omega | (simp only [List.length_take, List.length_drop, List.length_append, List.map_cons, List.map_nil, List.length_map, List.length_cons, List.length_nil, List.length_set, List.length_replicate]; omega) | (simp only [List.length_cons, List.length_nil, Nat.zero_add, Nat.reduceAdd])) only [go_sem, ↓reduceIte, Nat.reduceAdd, Int.reduceNeg, Int.reduceAdd, Int.reduceSub, Int.reduceMul, Int.reduceLT, Int.reduceLE, Int.reduceEq, Int.reduceToNat, Nat.reduceBEq, e_sle, e_sge, e_shl1, e_orI, e_andI, e_shr, wrapu, wrap8, tn1, nat1, ix_s, ix_z, st_s, st_z, fl_s, fl_z, fl1_s, fl1_z, map_s, map_z, hix])
    all_goals omega
  · obtain rfl : i = l.length := by omega
    repeat' (first | (with_reducible refine jn_in ?_) | (with_reducible refine cl_ok (by assumption) rfl ?_) | (with_reducible refine cl_okP (by assumption) rfl ?_) | (with_reducible refine br_if (fun hbr => ?_) (fun hbr => ?_)) | (with_reducible refine br_ifn (fun hbr => ?_) (fun hbr => ?_)) | (with_reducible refine br_nb (fun hbr => ?_) (fun hbr => ?_)) | (with_reducible refine br_b (fun hbr => ?_) (fun hbr => ?_)) | simp (disch := first | omega | (simp only [List.length_take, List.length_drop, List.length_append, List.map_cons, List.map_nil, List.length_map, List.length_cons, List.length_nil, List.length_set, List.length_replicate]; omega) | (simp only [List.length_cons, List.length_nil, Nat.zero_add, Nat.reduceAdd])) only [go_sem, ↓reduceIte, Nat.reduceAdd, Int.reduceNeg, Int.reduceAdd, Int.reduceSub, Int.reduceMul, Int.reduceLT, Int.reduceLE, Int.reduceEq, Int.reduceToNat, Nat.reduceBEq, e_sle, e_sge, e_shl1, e_orI, e_andI, e_shr, wrapu, wrap8, tn1, nat1, ix_s, ix_z, st_s, st_z, fl_s, fl_z, fl1_s, fl1_z, map_s, map_z, true_and])
    · omega
    · rfl
end Go.Proofs.Ytkcljmgjbjdccaa

namespace Go.Proofs.Ytkcljmgjbjdccaa
open Go.RowKit
set_option maxRecDepth 100000
def cntK (k : Int) : Int := if k ∈ [0, 8, 9, 15, 16] then -1 else if k ∈ [10, 14, 21, 22, 23, 26, 27, 31, 33] then 1 else if k ∈ [11, 12, 13, 17, 18, 24, 25, 28, 29, 30] then 2 else 0
def namK (k : Int) : Bool := decide (k ∈ [7, 18, 22, 23, 24, 25, 26, 27, 28, 29, 30, 31, 32, 34])
def binL : List ByteArray := [⟨#[43]⟩, ⟨#[45]⟩, ⟨#[42]⟩, ⟨#[47]⟩, ⟨#[94]⟩, ⟨#[37, 37]⟩, ⟨#[37, 47, 37]⟩, ⟨#[61, 61]⟩, ⟨#[33, 61]⟩, ⟨#[60]⟩, ⟨#[60, 61]⟩, ⟨#[62]⟩, ⟨#[62, 61]⟩, ⟨#[38]⟩, ⟨#[124]⟩, ⟨#[38, 38]⟩, ⟨#[124, 124]⟩, ⟨#[58]⟩, ⟨#[126]⟩]
def unaL : List ByteArray := [⟨#[45]⟩, ⟨#[33]⟩, ⟨#[126]⟩]
def txtR (k : Int) (s : ByteArray) : Bool :=
  if k = 3 then decide ((s.size : Int) ≤ 60) else if k = 10 then hasB unaL s else if k = 11 then hasB binL s else if k = 14 then decide (1 ≤ (s.size : Int) ∧ (s.size : Int) ≤ 60) else nameB s
def txtB (k : Int) (s : ByteArray) : Bool := if k ∈ [3, 10, 11, 14] ∨ namK k = true then txtR k s else decide (s = ⟨#[]⟩)
theorem unaH (s : ByteArray) : hasB unaL s = decide (s = ⟨#[45]⟩ ∨ s = ⟨#[33]⟩ ∨ s = ⟨#[126]⟩) := by
  rw [Bool.eq_iff_iff, hasB_iff, decide_eq_true_eq]
  simp [unaL]
theorem specCnt_m (k : Int) : Meets Try.prog 69 [(false, [.sc (.int .i64 k)])] [(false, [.sc (.int .i64 (cntK k))], true)] := by
  refine meets_upf Try.func69 u_spec_l16Count_g rfl ?_; simp only [u_spec_l16Count_u]
  repeat' (first | (with_reducible refine jn_in ?_) | (with_reducible refine cl_ok (by assumption) rfl ?_) | (with_reducible refine cl_okP (by assumption) rfl ?_) | (with_reducible refine br_if (fun hbr => ?_) (fun hbr => ?_)) | (with_reducible refine br_ifn (fun hbr => ?_) (fun hbr => ?_)) | (with_reducible refine br_nb (fun hbr => ?_) (fun hbr => ?_)) | (with_reducible refine br_b (fun hbr => ?_) (fun hbr => ?_)) | simp (disch := first | omega | (simp only [List.length_take, List.length_drop, List.length_append, List.map_cons, List.map_nil, List.length_map, List.length_cons, List.length_nil, List.length_set, List.length_replicate]; omega) | (simp only [List.length_cons, List.length_nil, Nat.zero_add, Nat.reduceAdd])) only [go_sem, ↓reduceIte, Nat.reduceAdd, Int.reduceNeg, Int.reduceAdd, Int.reduceSub, Int.reduceMul, Int.reduceLT, Int.reduceLE, Int.reduceEq, Int.reduceToNat, Nat.reduceBEq, e_sle, e_sge, e_shl1, e_orI, e_andI, e_shr, wrapu, wrap8, tn1, nat1, ix_s, ix_z, st_s, st_z, fl_s, fl_z, fl1_s, fl1_z, map_s, map_z, true_and])
  all_goals first
    | (exfalso; omega)
    | (subst_vars; exact ret_z (by decide))
    | exact ret_z (by simp [cntK, *])
    | skip
theorem specBin_m : Meets Try.prog 88 [] [(false, [encSs binL], true)] := by
  refine meets_upf Try.func88 u_spec_l16Binary_g rfl ?_; simp only [u_spec_l16Binary_u]
  repeat' (first | (with_reducible refine jn_in ?_) | (with_reducible refine cl_ok (by assumption) rfl ?_) | (with_reducible refine cl_okP (by assumption) rfl ?_) | (with_reducible refine br_if (fun hbr => ?_) (fun hbr => ?_)) | (with_reducible refine br_ifn (fun hbr => ?_) (fun hbr => ?_)) | (with_reducible refine br_nb (fun hbr => ?_) (fun hbr => ?_)) | (with_reducible refine br_b (fun hbr => ?_) (fun hbr => ?_)) | simp (disch := first | omega | (simp only [List.length_take, List.length_drop, List.length_append, List.map_cons, List.map_nil, List.length_map, List.length_cons, List.length_nil, List.length_set, List.length_replicate]; omega) | (simp only [List.length_cons, List.length_nil, Nat.zero_add, Nat.reduceAdd])) only [go_sem, ↓reduceIte, Nat.reduceAdd, Int.reduceNeg, Int.reduceAdd, Int.reduceSub, Int.reduceMul, Int.reduceLT, Int.reduceLE, Int.reduceEq, Int.reduceToNat, Nat.reduceBEq, e_sle, e_sge, e_shl1, e_orI, e_andI, e_shr, wrapu, wrap8, tn1, nat1, ix_s, ix_z, st_s, st_z, fl_s, fl_z, fl1_s, fl1_z, map_s, map_z, true_and])
  rfl
theorem implBin_m (s : ByteArray) : Meets Try.prog 90 [(false, [.sc (.string s)])] [(false, [.sc (.bool (hasB binL s))], true)] := by
  have h := hasText_m 9 binL s (by decide)
  simp only [binL, encS, List.map_cons, List.map_nil] at h
  refine meets_upf Try.func90 u_impl_isBinary_g rfl ?_; simp only [u_impl_isBinary_u]
  repeat' (first | (with_reducible refine jn_in ?_) | (with_reducible refine cl_ok (by assumption) rfl ?_) | (with_reducible refine cl_okP (by assumption) rfl ?_) | (with_reducible refine br_if (fun hbr => ?_) (fun hbr => ?_)) | (with_reducible refine br_ifn (fun hbr => ?_) (fun hbr => ?_)) | (with_reducible refine br_nb (fun hbr => ?_) (fun hbr => ?_)) | (with_reducible refine br_b (fun hbr => ?_) (fun hbr => ?_)) | simp (disch := first | omega | (simp only [List.length_take, List.length_drop, List.length_append, List.map_cons, List.map_nil, List.length_map, List.length_cons, List.length_nil, List.length_set, List.length_replicate]; omega) | (simp only [List.length_cons, List.length_nil, Nat.zero_add, Nat.reduceAdd])) only [go_sem, ↓reduceIte, Nat.reduceAdd, Int.reduceNeg, Int.reduceAdd, Int.reduceSub, Int.reduceMul, Int.reduceLT, Int.reduceLE, Int.reduceEq, Int.reduceToNat, Nat.reduceBEq, e_sle, e_sge, e_shl1, e_orI, e_andI, e_shr, wrapu, wrap8, tn1, nat1, ix_s, ix_z, st_s, st_z, fl_s, fl_z, fl1_s, fl1_z, map_s, map_z, true_and])
  rfl
theorem specTxt_m (k n c : Int) (s : ByteArray) (L : List ByteArray) (hs : s.size ≤ 100000000000) : Meets Try.prog 70 [(true, encNod ⟨k, n, s, L, c⟩)] [(false, [.sc (.bool (txtB k s))], true)] := by
  have h1 := l1In_m (s.size : Int) 1 60
  have h2 := specName_m s hs
  have h3 := l1Has_m 9 unaL s (by decide)
  have h4 := l1Has_m 9 binL s (by decide)
  have h5 := specBin_m
  simp only [unaL, encS, List.map_cons, List.map_nil] at h3
  simp only [encSs] at h5
  refine meets_upf Try.func70 u_spec_l16Text_g rfl ?_; simp only [u_spec_l16Text_u]
  simp only [encNod, encSs]
  repeat' (first | (with_reducible refine jn_in ?_) | (with_reducible refine cl_ok (by assumption) rfl ?_) | (with_reducible refine cl_okP (by assumption) rfl ?_) | (with_reducible refine br_if (fun hbr => ?_) (fun hbr => ?_)) | (with_reducible refine br_ifn (fun hbr => ?_) (fun hbr => ?_)) | (with_reducible refine br_nb (fun hbr => ?_) (fun hbr => ?_)) | (with_reducible refine br_b (fun hbr => ?_) (fun hbr => ?_)) | simp (disch := first | omega | (simp only [List.length_take, List.length_drop, List.length_append, List.map_cons, List.map_nil, List.length_map, List.length_cons, List.length_nil, List.length_set, List.length_replicate]; omega) | (simp only [List.length_cons, List.length_nil, Nat.zero_add, Nat.reduceAdd])) only [go_sem, ↓reduceIte, Nat.reduceAdd, Int.reduceNeg, Int.reduceAdd, Int.reduceSub, Int.reduceMul, Int.reduceLT, Int.reduceLE, Int.reduceEq, Int.reduceToNat, Nat.reduceBEq, e_sle, e_sge, e_shl1, e_orI, e_andI, e_shr, wrapu, wrap8, tn1, nat1, ix_s, ix_z, st_s, st_z, fl_s, fl_z, fl1_s, fl1_z, map_s, map_z, u_spec_l16Text_j0])
  all_goals first
    | (exfalso; omega)
    | (subst_vars; exact ret_b (by first | rfl | (simp [txtB, txtR, namK, unaL, *]; done)))
    | exact ret_b (by rw [txtB, if_neg (by simp [namK, *])])
    | skip
theorem implTxt_m (k n c : Int) (s : ByteArray) (L : List ByteArray) (hs : s.size ≤ 100000000000) : Meets Try.prog 78 [(true, encNod ⟨k, n, s, L, c⟩)] [(false, [.sc (.bool (txtR k s))], true)] := by
  have h2 := implName_m s hs
  have h4 := implBin_m s
  refine meets_upf Try.func78 u_impl_textRight_g rfl ?_; simp only [u_impl_textRight_u]
  simp only [encNod, encSs]
  repeat' (first | (with_reducible refine jn_in ?_) | (with_reducible refine cl_ok (by assumption) rfl ?_) | (with_reducible refine cl_okP (by assumption) rfl ?_) | (with_reducible refine br_if (fun hbr => ?_) (fun hbr => ?_)) | (with_reducible refine br_ifn (fun hbr => ?_) (fun hbr => ?_)) | (with_reducible refine br_nb (fun hbr => ?_) (fun hbr => ?_)) | (with_reducible refine br_b (fun hbr => ?_) (fun hbr => ?_)) | simp (disch := first | omega | (simp only [List.length_take, List.length_drop, List.length_append, List.map_cons, List.map_nil, List.length_map, List.length_cons, List.length_nil, List.length_set, List.length_replicate]; omega) | (simp only [List.length_cons, List.length_nil, Nat.zero_add, Nat.reduceAdd])) only [go_sem, ↓reduceIte, Nat.reduceAdd, Int.reduceNeg, Int.reduceAdd, Int.reduceSub, Int.reduceMul, Int.reduceLT, Int.reduceLE, Int.reduceEq, Int.reduceToNat, Nat.reduceBEq, e_sle, e_sge, e_shl1, e_orI, e_andI, e_shr, wrapu, wrap8, tn1, nat1, ix_s, ix_z, st_s, st_z, fl_s, fl_z, fl1_s, fl1_z, map_s, map_z, true_and])
  all_goals first
    | (exfalso; omega)
    | exact ret_b (by rw [txtR, if_pos ‹k = 3›])
    | exact ret_b (by rw [txtR, if_neg ‹¬ k = 3›, if_pos ‹k = 10›, unaH]; simp [*])
    | exact ret_b (by rw [txtR, if_neg ‹¬ k = 3›, if_neg ‹¬ k = 10›, if_pos ‹k = 11›])
    | exact ret_b (by rw [txtR, if_neg ‹¬ k = 3›, if_neg ‹¬ k = 10›, if_neg ‹¬ k = 11›, if_pos ‹k = 14›]; simp [*])
    | exact ret_b (by rw [txtR, if_neg ‹¬ k = 3›, if_neg ‹¬ k = 10›, if_neg ‹¬ k = 11›, if_neg ‹¬ k = 14›])
    | skip
end Go.Proofs.Ytkcljmgjbjdccaa

namespace Go.Proofs.Ytkcljmgjbjdccaa
open Go.RowKit
set_option maxRecDepth 100000
def usN (k : Int) : Bool := decide (k ∈ [2, 4, 5])
def usT (k : Int) : Bool := decide (k ∈ [3, 10, 11, 14] ∨ namK k = true)
def usL (k : Int) : Bool := decide (k ∈ [8, 9, 26, 27])
def kidB (k c : Int) (n : Nat) : Bool :=
  if k ∈ [0, 15] then decide (0 ≤ c) else if k ∈ [1, 2, 3, 4, 5, 6, 19, 20, 35, 7, 32, 34] then decide (c = 0) else if k ∈ [8, 9] then decide (c = (n : Int) + 1)
  else if k ∈ [10, 14, 21, 33, 22, 23, 26, 27, 31] then decide (c = 1) else if k = 16 then decide (c = 2 ∨ c = 3) else decide (c = 2)
def labN (L : List ByteArray) (i : Nat) : Bool := nameB (L.getD i default) && !decide (find1 L (L.getD i default) < i)
def labS (L : List ByteArray) (i : Nat) : Bool := decide (((L.getD i default).size : Int) ≤ 60)
def labR (k : Int) (L : List ByteArray) : Bool :=
  if k = 8 then allB (labN L) L.length else if k = 9 then allB (labS L) L.length
  else if k = 26 then decide (L.length = 1) && decide (1 ≤ ((L.getD 0 default).size : Int) ∧ ((L.getD 0 default).size : Int) ≤ 60)
  else if k = 27 then decide (L.length = 1) && (nameB (L.getD 0 default) && nameB (L.getD 0 default ++ ⟨#[60, 45]⟩)) else true
theorem implUses_m (k : Int) : Meets Try.prog 77 [(false, [.sc (.int .i64 k)])] [(false, [.sc (.bool (usN k))], true), (false, [.sc (.bool (usT k))], true), (false, [.sc (.bool (usL k))], true)] := by
  refine meets_upf Try.func77 u_impl_uses_g rfl ?_; simp only [u_impl_uses_u]
  have key : ∀ a b c a' b' c' : Bool, a = a' → b = b' → c = c' → isRes [(false, [.sc (.bool a)], true), (false, [.sc (.bool b)], true), (false, [.sc (.bool c)], true)] [(false, [.sc (.bool a')]), (false, [.sc (.bool b')]), (false, [.sc (.bool c')])] := by
    rintro a b c _ _ _ rfl rfl rfl; rfl
  repeat' (first | (with_reducible refine jn_in ?_) | (with_reducible refine cl_ok (by assumption) rfl ?_) | (with_reducible refine cl_okP (by assumption) rfl ?_) | (with_reducible refine br_if (fun hbr => ?_) (fun hbr => ?_)) | (with_reducible refine br_ifn (fun hbr => ?_) (fun hbr => ?_)) | (with_reducible refine br_nb (fun hbr => ?_) (fun hbr => ?_)) | (with_reducible refine br_b (fun hbr => ?_) (fun hbr => ?_)) | simp (disch := first | omega | (simp only [List.length_take, List.length_drop, List.length_append, List.map_cons, List.map_nil, List.length_map, List.length_cons, List.length_nil, List.length_set, List.length_replicate]; omega) | (simp only [List.length_cons, List.length_nil, Nat.zero_add, Nat.reduceAdd])) only [go_sem, ↓reduceIte, Nat.reduceAdd, Int.reduceNeg, Int.reduceAdd, Int.reduceSub, Int.reduceMul, Int.reduceLT, Int.reduceLE, Int.reduceEq, Int.reduceToNat, Nat.reduceBEq, e_sle, e_sge, e_shl1, e_orI, e_andI, e_shr, wrapu, wrap8, tn1, nat1, ix_s, ix_z, st_s, st_z, fl_s, fl_z, fl1_s, fl1_z, map_s, map_z, u_impl_uses_j0])
  all_goals first
    | (exfalso; omega)
    | (subst_vars; exact key _ _ _ _ _ _ (by decide) (by decide) (by decide))
    | exact key _ _ _ _ _ _ (by simp [usN, *]) (by simp [usT, namK, *]) (by simp [usL, *])
    | skip
theorem implKids_m (k n c : Int) (s : ByteArray) (L : List ByteArray) (hL : L.length ≤ 1048576) : Meets Try.prog 76 [(true, encNod ⟨k, n, s, L, c⟩)] [(false, [.sc (.bool (kidB k c L.length))], true)] := by
  have b1 : ∀ {a b : Bool}, a = b → [DV.sc (.bool a)] = [.sc (.bool b)] := fun h => by rw [h]
  refine meets_upf Try.func76 u_impl_kidsRight_g rfl ?_; simp only [u_impl_kidsRight_u]
  simp only [encNod, encSs]
  simp (disch := first | omega | (simp only [List.length_take, List.length_drop, List.length_append, List.map_cons, List.map_nil, List.length_map, List.length_cons, List.length_nil, List.length_set, List.length_replicate]; omega) | (simp only [List.length_cons, List.length_nil, Nat.zero_add, Nat.reduceAdd])) only [go_sem, ↓reduceIte, Nat.reduceAdd, Int.reduceNeg, Int.reduceAdd, Int.reduceSub, Int.reduceMul, Int.reduceLT, Int.reduceLE, Int.reduceEq, Int.reduceToNat, Nat.reduceBEq, e_sle, e_sge, e_shl1, e_orI, e_andI, e_shr, wrapu, wrap8, tn1, nat1, ix_s, ix_z, st_s, st_z, fl_s, fl_z, fl1_s, fl1_z, map_s, map_z, true_and]
  refine br_if (fun h0 => ?_) (fun h0 => ?_)
  · repeat' (first | (with_reducible refine jn_in ?_) | (with_reducible refine cl_ok (by assumption) rfl ?_) | (with_reducible refine cl_okP (by assumption) rfl ?_) | (with_reducible refine br_if (fun hbr => ?_) (fun hbr => ?_)) | (with_reducible refine br_ifn (fun hbr => ?_) (fun hbr => ?_)) | (with_reducible refine br_nb (fun hbr => ?_) (fun hbr => ?_)) | (with_reducible refine br_b (fun hbr => ?_) (fun hbr => ?_)) | simp (disch := first | omega | (simp only [List.length_take, List.length_drop, List.length_append, List.map_cons, List.map_nil, List.length_map, List.length_cons, List.length_nil, List.length_set, List.length_replicate]; omega) | (simp only [List.length_cons, List.length_nil, Nat.zero_add, Nat.reduceAdd])) only [go_sem, ↓reduceIte, Nat.reduceAdd, Int.reduceNeg, Int.reduceAdd, Int.reduceSub, Int.reduceMul, Int.reduceLT, Int.reduceLE, Int.reduceEq, Int.reduceToNat, Nat.reduceBEq, e_sle, e_sge, e_shl1, e_orI, e_andI, e_shr, wrapu, wrap8, tn1, nat1, ix_s, ix_z, st_s, st_z, fl_s, fl_z, fl1_s, fl1_z, map_s, map_z, true_and])
    subst h0; exact ret_b (by simp [kidB])
  simp (disch := first | omega | (simp only [List.length_take, List.length_drop, List.length_append, List.map_cons, List.map_nil, List.length_map, List.length_cons, List.length_nil, List.length_set, List.length_replicate]; omega) | (simp only [List.length_cons, List.length_nil, Nat.zero_add, Nat.reduceAdd])) only [go_sem, ↓reduceIte, Nat.reduceAdd, Int.reduceNeg, Int.reduceAdd, Int.reduceSub, Int.reduceMul, Int.reduceLT, Int.reduceLE, Int.reduceEq, Int.reduceToNat, Nat.reduceBEq, e_sle, e_sge, e_shl1, e_orI, e_andI, e_shr, wrapu, wrap8, tn1, nat1, ix_s, ix_z, st_s, st_z, fl_s, fl_z, fl1_s, fl1_z, map_s, map_z, true_and]
  refine br_if (fun h15 => ?_) (fun h15 => ?_)
  · repeat' (first | (with_reducible refine jn_in ?_) | (with_reducible refine cl_ok (by assumption) rfl ?_) | (with_reducible refine cl_okP (by assumption) rfl ?_) | (with_reducible refine br_if (fun hbr => ?_) (fun hbr => ?_)) | (with_reducible refine br_ifn (fun hbr => ?_) (fun hbr => ?_)) | (with_reducible refine br_nb (fun hbr => ?_) (fun hbr => ?_)) | (with_reducible refine br_b (fun hbr => ?_) (fun hbr => ?_)) | simp (disch := first | omega | (simp only [List.length_take, List.length_drop, List.length_append, List.map_cons, List.map_nil, List.length_map, List.length_cons, List.length_nil, List.length_set, List.length_replicate]; omega) | (simp only [List.length_cons, List.length_nil, Nat.zero_add, Nat.reduceAdd])) only [go_sem, ↓reduceIte, Nat.reduceAdd, Int.reduceNeg, Int.reduceAdd, Int.reduceSub, Int.reduceMul, Int.reduceLT, Int.reduceLE, Int.reduceEq, Int.reduceToNat, Nat.reduceBEq, e_sle, e_sge, e_shl1, e_orI, e_andI, e_shr, wrapu, wrap8, tn1, nat1, ix_s, ix_z, st_s, st_z, fl_s, fl_z, fl1_s, fl1_z, map_s, map_z, true_and])
    subst h15; exact ret_b (by simp [kidB])
  simp (disch := first | omega | (simp only [List.length_take, List.length_drop, List.length_append, List.map_cons, List.map_nil, List.length_map, List.length_cons, List.length_nil, List.length_set, List.length_replicate]; omega) | (simp only [List.length_cons, List.length_nil, Nat.zero_add, Nat.reduceAdd])) only [go_sem, ↓reduceIte, Nat.reduceAdd, Int.reduceNeg, Int.reduceAdd, Int.reduceSub, Int.reduceMul, Int.reduceLT, Int.reduceLE, Int.reduceEq, Int.reduceToNat, Nat.reduceBEq, e_sle, e_sge, e_shl1, e_orI, e_andI, e_shr, wrapu, wrap8, tn1, nat1, ix_s, ix_z, st_s, st_z, fl_s, fl_z, fl1_s, fl1_z, map_s, map_z, true_and]
  refine jn_eq [.sc (.bool (decide (k ∈ [1, 2, 3, 4, 5, 6, 19, 20, 35, 7, 32, 34])))] ?_ ?_
  · repeat' (first | (with_reducible refine jn_in ?_) | (with_reducible refine cl_ok (by assumption) rfl ?_) | (with_reducible refine cl_okP (by assumption) rfl ?_) | (with_reducible refine br_if (fun hbr => ?_) (fun hbr => ?_)) | (with_reducible refine br_ifn (fun hbr => ?_) (fun hbr => ?_)) | (with_reducible refine br_nb (fun hbr => ?_) (fun hbr => ?_)) | (with_reducible refine br_b (fun hbr => ?_) (fun hbr => ?_)) | simp (disch := first | omega | (simp only [List.length_take, List.length_drop, List.length_append, List.map_cons, List.map_nil, List.length_map, List.length_cons, List.length_nil, List.length_set, List.length_replicate]; omega) | (simp only [List.length_cons, List.length_nil, Nat.zero_add, Nat.reduceAdd])) only [go_sem, ↓reduceIte, Nat.reduceAdd, Int.reduceNeg, Int.reduceAdd, Int.reduceSub, Int.reduceMul, Int.reduceLT, Int.reduceLE, Int.reduceEq, Int.reduceToNat, Nat.reduceBEq, e_sle, e_sge, e_shl1, e_orI, e_andI, e_shr, wrapu, wrap8, tn1, nat1, ix_s, ix_z, st_s, st_z, fl_s, fl_z, fl1_s, fl1_z, map_s, map_z, true_and])
    all_goals first
      | (subst_vars; exact b1 (by decide))
      | exact b1 (by simp [*])
      | skip
  simp only [u_impl_kidsRight_j1]
  refine br_b (fun h1 => ?_) (fun h1 => ?_)
  · have h1 := of_decide_eq_true h1
    repeat' (first | (with_reducible refine jn_in ?_) | (with_reducible refine cl_ok (by assumption) rfl ?_) | (with_reducible refine cl_okP (by assumption) rfl ?_) | (with_reducible refine br_if (fun hbr => ?_) (fun hbr => ?_)) | (with_reducible refine br_ifn (fun hbr => ?_) (fun hbr => ?_)) | (with_reducible refine br_nb (fun hbr => ?_) (fun hbr => ?_)) | (with_reducible refine br_b (fun hbr => ?_) (fun hbr => ?_)) | simp (disch := first | omega | (simp only [List.length_take, List.length_drop, List.length_append, List.map_cons, List.map_nil, List.length_map, List.length_cons, List.length_nil, List.length_set, List.length_replicate]; omega) | (simp only [List.length_cons, List.length_nil, Nat.zero_add, Nat.reduceAdd])) only [go_sem, ↓reduceIte, Nat.reduceAdd, Int.reduceNeg, Int.reduceAdd, Int.reduceSub, Int.reduceMul, Int.reduceLT, Int.reduceLE, Int.reduceEq, Int.reduceToNat, Nat.reduceBEq, e_sle, e_sge, e_shl1, e_orI, e_andI, e_shr, wrapu, wrap8, tn1, nat1, ix_s, ix_z, st_s, st_z, fl_s, fl_z, fl1_s, fl1_z, map_s, map_z, true_and])
    exact ret_b (by rw [kidB, if_neg (by simp [h0, h15]), if_pos h1])
  have h1 := of_decide_eq_false h1
  simp (disch := first | omega | (simp only [List.length_take, List.length_drop, List.length_append, List.map_cons, List.map_nil, List.length_map, List.length_cons, List.length_nil, List.length_set, List.length_replicate]; omega) | (simp only [List.length_cons, List.length_nil, Nat.zero_add, Nat.reduceAdd])) only [go_sem, ↓reduceIte, Nat.reduceAdd, Int.reduceNeg, Int.reduceAdd, Int.reduceSub, Int.reduceMul, Int.reduceLT, Int.reduceLE, Int.reduceEq, Int.reduceToNat, Nat.reduceBEq, e_sle, e_sge, e_shl1, e_orI, e_andI, e_shr, wrapu, wrap8, tn1, nat1, ix_s, ix_z, st_s, st_z, fl_s, fl_z, fl1_s, fl1_z, map_s, map_z, true_and]
  refine br_if (fun h8 => ?_) (fun h8 => ?_)
  · repeat' (first | (with_reducible refine jn_in ?_) | (with_reducible refine cl_ok (by assumption) rfl ?_) | (with_reducible refine cl_okP (by assumption) rfl ?_) | (with_reducible refine br_if (fun hbr => ?_) (fun hbr => ?_)) | (with_reducible refine br_ifn (fun hbr => ?_) (fun hbr => ?_)) | (with_reducible refine br_nb (fun hbr => ?_) (fun hbr => ?_)) | (with_reducible refine br_b (fun hbr => ?_) (fun hbr => ?_)) | simp (disch := first | omega | (simp only [List.length_take, List.length_drop, List.length_append, List.map_cons, List.map_nil, List.length_map, List.length_cons, List.length_nil, List.length_set, List.length_replicate]; omega) | (simp only [List.length_cons, List.length_nil, Nat.zero_add, Nat.reduceAdd])) only [go_sem, ↓reduceIte, Nat.reduceAdd, Int.reduceNeg, Int.reduceAdd, Int.reduceSub, Int.reduceMul, Int.reduceLT, Int.reduceLE, Int.reduceEq, Int.reduceToNat, Nat.reduceBEq, e_sle, e_sge, e_shl1, e_orI, e_andI, e_shr, wrapu, wrap8, tn1, nat1, ix_s, ix_z, st_s, st_z, fl_s, fl_z, fl1_s, fl1_z, map_s, map_z, true_and])
    subst h8; exact ret_b (by simp [kidB])
  simp (disch := first | omega | (simp only [List.length_take, List.length_drop, List.length_append, List.map_cons, List.map_nil, List.length_map, List.length_cons, List.length_nil, List.length_set, List.length_replicate]; omega) | (simp only [List.length_cons, List.length_nil, Nat.zero_add, Nat.reduceAdd])) only [go_sem, ↓reduceIte, Nat.reduceAdd, Int.reduceNeg, Int.reduceAdd, Int.reduceSub, Int.reduceMul, Int.reduceLT, Int.reduceLE, Int.reduceEq, Int.reduceToNat, Nat.reduceBEq, e_sle, e_sge, e_shl1, e_orI, e_andI, e_shr, wrapu, wrap8, tn1, nat1, ix_s, ix_z, st_s, st_z, fl_s, fl_z, fl1_s, fl1_z, map_s, map_z, true_and]
  refine br_if (fun h9 => ?_) (fun h9 => ?_)
  · repeat' (first | (with_reducible refine jn_in ?_) | (with_reducible refine cl_ok (by assumption) rfl ?_) | (with_reducible refine cl_okP (by assumption) rfl ?_) | (with_reducible refine br_if (fun hbr => ?_) (fun hbr => ?_)) | (with_reducible refine br_ifn (fun hbr => ?_) (fun hbr => ?_)) | (with_reducible refine br_nb (fun hbr => ?_) (fun hbr => ?_)) | (with_reducible refine br_b (fun hbr => ?_) (fun hbr => ?_)) | simp (disch := first | omega | (simp only [List.length_take, List.length_drop, List.length_append, List.map_cons, List.map_nil, List.length_map, List.length_cons, List.length_nil, List.length_set, List.length_replicate]; omega) | (simp only [List.length_cons, List.length_nil, Nat.zero_add, Nat.reduceAdd])) only [go_sem, ↓reduceIte, Nat.reduceAdd, Int.reduceNeg, Int.reduceAdd, Int.reduceSub, Int.reduceMul, Int.reduceLT, Int.reduceLE, Int.reduceEq, Int.reduceToNat, Nat.reduceBEq, e_sle, e_sge, e_shl1, e_orI, e_andI, e_shr, wrapu, wrap8, tn1, nat1, ix_s, ix_z, st_s, st_z, fl_s, fl_z, fl1_s, fl1_z, map_s, map_z, true_and])
    subst h9; exact ret_b (by simp [kidB])
  simp (disch := first | omega | (simp only [List.length_take, List.length_drop, List.length_append, List.map_cons, List.map_nil, List.length_map, List.length_cons, List.length_nil, List.length_set, List.length_replicate]; omega) | (simp only [List.length_cons, List.length_nil, Nat.zero_add, Nat.reduceAdd])) only [go_sem, ↓reduceIte, Nat.reduceAdd, Int.reduceNeg, Int.reduceAdd, Int.reduceSub, Int.reduceMul, Int.reduceLT, Int.reduceLE, Int.reduceEq, Int.reduceToNat, Nat.reduceBEq, e_sle, e_sge, e_shl1, e_orI, e_andI, e_shr, wrapu, wrap8, tn1, nat1, ix_s, ix_z, st_s, st_z, fl_s, fl_z, fl1_s, fl1_z, map_s, map_z, true_and]
  refine jn_eq [.sc (.bool (decide (k ∈ [10, 14, 21, 33, 22, 23, 26, 27, 31])))] ?_ ?_
  · repeat' (first | (with_reducible refine jn_in ?_) | (with_reducible refine cl_ok (by assumption) rfl ?_) | (with_reducible refine cl_okP (by assumption) rfl ?_) | (with_reducible refine br_if (fun hbr => ?_) (fun hbr => ?_)) | (with_reducible refine br_ifn (fun hbr => ?_) (fun hbr => ?_)) | (with_reducible refine br_nb (fun hbr => ?_) (fun hbr => ?_)) | (with_reducible refine br_b (fun hbr => ?_) (fun hbr => ?_)) | simp (disch := first | omega | (simp only [List.length_take, List.length_drop, List.length_append, List.map_cons, List.map_nil, List.length_map, List.length_cons, List.length_nil, List.length_set, List.length_replicate]; omega) | (simp only [List.length_cons, List.length_nil, Nat.zero_add, Nat.reduceAdd])) only [go_sem, ↓reduceIte, Nat.reduceAdd, Int.reduceNeg, Int.reduceAdd, Int.reduceSub, Int.reduceMul, Int.reduceLT, Int.reduceLE, Int.reduceEq, Int.reduceToNat, Nat.reduceBEq, e_sle, e_sge, e_shl1, e_orI, e_andI, e_shr, wrapu, wrap8, tn1, nat1, ix_s, ix_z, st_s, st_z, fl_s, fl_z, fl1_s, fl1_z, map_s, map_z, true_and])
    all_goals first
      | (subst_vars; exact b1 (by decide))
      | exact b1 (by simp [*])
      | skip
  simp only [u_impl_kidsRight_j0]
  have h89 : ¬ k ∈ [8, 9] := by simp [h8, h9]
  refine br_b (fun h2 => ?_) (fun h2 => ?_)
  · have h2 := of_decide_eq_true h2
    repeat' (first | (with_reducible refine jn_in ?_) | (with_reducible refine cl_ok (by assumption) rfl ?_) | (with_reducible refine cl_okP (by assumption) rfl ?_) | (with_reducible refine br_if (fun hbr => ?_) (fun hbr => ?_)) | (with_reducible refine br_ifn (fun hbr => ?_) (fun hbr => ?_)) | (with_reducible refine br_nb (fun hbr => ?_) (fun hbr => ?_)) | (with_reducible refine br_b (fun hbr => ?_) (fun hbr => ?_)) | simp (disch := first | omega | (simp only [List.length_take, List.length_drop, List.length_append, List.map_cons, List.map_nil, List.length_map, List.length_cons, List.length_nil, List.length_set, List.length_replicate]; omega) | (simp only [List.length_cons, List.length_nil, Nat.zero_add, Nat.reduceAdd])) only [go_sem, ↓reduceIte, Nat.reduceAdd, Int.reduceNeg, Int.reduceAdd, Int.reduceSub, Int.reduceMul, Int.reduceLT, Int.reduceLE, Int.reduceEq, Int.reduceToNat, Nat.reduceBEq, e_sle, e_sge, e_shl1, e_orI, e_andI, e_shr, wrapu, wrap8, tn1, nat1, ix_s, ix_z, st_s, st_z, fl_s, fl_z, fl1_s, fl1_z, map_s, map_z, true_and])
    exact ret_b (by rw [kidB, if_neg (by simp [h0, h15]), if_neg h1, if_neg h89, if_pos h2])
  have h2 := of_decide_eq_false h2
  have hk : kidB k c L.length = if k = 16 then decide (c = 2 ∨ c = 3) else decide (c = 2) := by rw [kidB, if_neg (by simp [h0, h15]), if_neg h1, if_neg h89, if_neg h2]
  rw [hk]
  repeat' (first | (with_reducible refine jn_in ?_) | (with_reducible refine cl_ok (by assumption) rfl ?_) | (with_reducible refine cl_okP (by assumption) rfl ?_) | (with_reducible refine br_if (fun hbr => ?_) (fun hbr => ?_)) | (with_reducible refine br_ifn (fun hbr => ?_) (fun hbr => ?_)) | (with_reducible refine br_nb (fun hbr => ?_) (fun hbr => ?_)) | (with_reducible refine br_b (fun hbr => ?_) (fun hbr => ?_)) | simp (disch := first | omega | (simp only [List.length_take, List.length_drop, List.length_append, List.map_cons, List.map_nil, List.length_map, List.length_cons, List.length_nil, List.length_set, List.length_replicate]; omega) | (simp only [List.length_cons, List.length_nil, Nat.zero_add, Nat.reduceAdd])) only [go_sem, ↓reduceIte, Nat.reduceAdd, Int.reduceNeg, Int.reduceAdd, Int.reduceSub, Int.reduceMul, Int.reduceLT, Int.reduceLE, Int.reduceEq, Int.reduceToNat, Nat.reduceBEq, e_sle, e_sge, e_shl1, e_orI, e_andI, e_shr, wrapu, wrap8, tn1, nat1, ix_s, ix_z, st_s, st_z, fl_s, fl_z, fl1_s, fl1_z, map_s, map_z, true_and])
  all_goals first
    | (exfalso; omega)
    | exact ret_b (by simp [*])
    | skip
end Go.Proofs.Ytkcljmgjbjdccaa

namespace Go.Proofs.Ytkcljmgjbjdccaa
open Go.RowKit
set_option maxRecDepth 100000
theorem labR8 {k : Int} {L : List ByteArray} (h : k = 8) : labR k L = allB (labN L) L.length := by unfold labR; rw [if_pos h]
theorem labR9 {k : Int} {L : List ByteArray} (h : k = 9) : labR k L = allB (labS L) L.length := by subst h; rfl
theorem labR26 {k : Int} {L : List ByteArray} (h : k = 26) : labR k L = (decide (L.length = 1) && decide (1 ≤ ((L.getD 0 default).size : Int) ∧ ((L.getD 0 default).size : Int) ≤ 60)) := by subst h; rfl
theorem labR27 {k : Int} {L : List ByteArray} (h : k = 27) : labR k L = (decide (L.length = 1) && (nameB (L.getD 0 default) && nameB (L.getD 0 default ++ ⟨#[60, 45]⟩))) := by subst h; rfl
theorem labR_e {k : Int} {L : List ByteArray} (h1 : ¬ k = 8) (h2 : ¬ k = 9) (h3 : ¬ k = 26) (h4 : ¬ k = 27) : labR k L = true := by unfold labR; rw [if_neg h1, if_neg h2, if_neg h3, if_neg h4]
theorem implLab_m (k n c : Int) (s : ByteArray) (L : List ByteArray) (hL : L.length ≤ 1048576) (hs : ∀ x ∈ L, x.size ≤ 1048576) : Meets Try.prog 79 [(true, encNod ⟨k, n, s, L, c⟩)] [(false, [.sc (.bool (labR k L))], true)] := by
  have hN := fun i => implName_m (L.getD i default) (by have := getD_le hs i; omega)
  have hN2 := implName_m (L.getD 0 default ++ ⟨#[60, 45]⟩) (by have := getD_le hs 0; rw [ByteArray.size_append]; show _ + 2 ≤ _; omega)
  have hH := fun i s => hasText_m 9 (L.take i) s (by rw [List.length_take]; omega)
  refine meets_upf Try.func79 u_impl_labelsRight_g rfl ?_; simp only [u_impl_labelsRight_u]
  simp only [encNod, encSs]
  simp (disch := first | omega | (simp only [List.length_take, List.length_drop, List.length_append, List.map_cons, List.map_nil, List.length_map, List.length_cons, List.length_nil, List.length_set, List.length_replicate]; omega) | (simp only [List.length_cons, List.length_nil, Nat.zero_add, Nat.reduceAdd])) only [go_sem, ↓reduceIte, Nat.reduceAdd, Int.reduceNeg, Int.reduceAdd, Int.reduceSub, Int.reduceMul, Int.reduceLT, Int.reduceLE, Int.reduceEq, Int.reduceToNat, Nat.reduceBEq, e_sle, e_sge, e_shl1, e_orI, e_andI, e_shr, wrapu, wrap8, tn1, nat1, ix_s, ix_z, st_s, st_z, fl_s, fl_z, fl1_s, fl1_z, map_s, map_z, true_and]
  refine br_if (fun h8 => ?_) (fun h8 => ?_)
  · rw [labR8 h8]
    simp (disch := first | omega | (simp only [List.length_take, List.length_drop, List.length_append, List.map_cons, List.map_nil, List.length_map, List.length_cons, List.length_nil, List.length_set, List.length_replicate]; omega) | (simp only [List.length_cons, List.length_nil, Nat.zero_add, Nat.reduceAdd])) only [go_sem, ↓reduceIte, Nat.reduceAdd, Int.reduceNeg, Int.reduceAdd, Int.reduceSub, Int.reduceMul, Int.reduceLT, Int.reduceLE, Int.reduceEq, Int.reduceToNat, Nat.reduceBEq, e_sle, e_sge, e_shl1, e_orI, e_andI, e_shr, wrapu, wrap8, tn1, nat1, ix_s, ix_z, st_s, st_z, fl_s, fl_z, fl1_s, fl1_z, map_s, map_z, true_and]
    refine lp (fun i : Nat => [.sc (.int .i64 i)]) (fun i => i ≤ L.length ∧ allB (labN L) i = true) (fun i => L.length - i) 0 rfl ⟨by omega, rfl⟩ ?_
    rintro i ⟨hi, hb⟩
    simp only [u_impl_labelsRight_l0]
    by_cases hlt : i < L.length
    · have hNi := hN i
      have hHi := hH i (L.getD i default)
      rw [hasB_take hlt] at hHi
      repeat' (first | (with_reducible refine jn_in ?_) | (with_reducible refine cl_ok (by assumption) rfl ?_) | (with_reducible refine cl_okP (by assumption) rfl ?_) | (with_reducible refine br_if (fun hbr => ?_) (fun hbr => ?_)) | (with_reducible refine br_ifn (fun hbr => ?_) (fun hbr => ?_)) | (with_reducible refine br_nb (fun hbr => ?_) (fun hbr => ?_)) | (with_reducible refine br_b (fun hbr => ?_) (fun hbr => ?_)) | simp (disch := first | omega | (simp only [List.length_take, List.length_drop, List.length_append, List.map_cons, List.map_nil, List.length_map, List.length_cons, List.length_nil, List.length_set, List.length_replicate]; omega) | (simp only [List.length_cons, List.length_nil, Nat.zero_add, Nat.reduceAdd])) only [go_sem, ↓reduceIte, Nat.reduceAdd, Int.reduceNeg, Int.reduceAdd, Int.reduceSub, Int.reduceMul, Int.reduceLT, Int.reduceLE, Int.reduceEq, Int.reduceToNat, Nat.reduceBEq, e_sle, e_sge, e_shl1, e_orI, e_andI, e_shr, wrapu, wrap8, tn1, nat1, ix_s, ix_z, st_s, st_z, fl_s, fl_z, fl1_s, fl1_z, map_s, map_z, true_and])
      all_goals first
        | omega
        | exact ret_b (allB_no hlt (by (first | (simp [-List.getD_eq_getElem?_getD, labN, *]; done) | (simp_all [-List.getD_eq_getElem?_getD, labN]; done) | (simp [-List.getD_eq_getElem?_getD, labN, *]; omega) | (simp_all [-List.getD_eq_getElem?_getD, labN]; omega) | omega)))
        | exact ⟨i + 1, rfl, ⟨by omega, allB_step hb (by (first | (simp [-List.getD_eq_getElem?_getD, labN, *]; done) | (simp_all [-List.getD_eq_getElem?_getD, labN]; done) | (simp [-List.getD_eq_getElem?_getD, labN, *]; omega) | (simp_all [-List.getD_eq_getElem?_getD, labN]; omega) | omega))⟩, by omega⟩
        | skip
    · obtain rfl : i = L.length := by omega
      repeat' (first | (with_reducible refine jn_in ?_) | (with_reducible refine cl_ok (by assumption) rfl ?_) | (with_reducible refine cl_okP (by assumption) rfl ?_) | (with_reducible refine br_if (fun hbr => ?_) (fun hbr => ?_)) | (with_reducible refine br_ifn (fun hbr => ?_) (fun hbr => ?_)) | (with_reducible refine br_nb (fun hbr => ?_) (fun hbr => ?_)) | (with_reducible refine br_b (fun hbr => ?_) (fun hbr => ?_)) | simp (disch := first | omega | (simp only [List.length_take, List.length_drop, List.length_append, List.map_cons, List.map_nil, List.length_map, List.length_cons, List.length_nil, List.length_set, List.length_replicate]; omega) | (simp only [List.length_cons, List.length_nil, Nat.zero_add, Nat.reduceAdd])) only [go_sem, ↓reduceIte, Nat.reduceAdd, Int.reduceNeg, Int.reduceAdd, Int.reduceSub, Int.reduceMul, Int.reduceLT, Int.reduceLE, Int.reduceEq, Int.reduceToNat, Nat.reduceBEq, e_sle, e_sge, e_shl1, e_orI, e_andI, e_shr, wrapu, wrap8, tn1, nat1, ix_s, ix_z, st_s, st_z, fl_s, fl_z, fl1_s, fl1_z, map_s, map_z, true_and])
      all_goals first | omega | exact ret_b hb | skip
  simp (disch := first | omega | (simp only [List.length_take, List.length_drop, List.length_append, List.map_cons, List.map_nil, List.length_map, List.length_cons, List.length_nil, List.length_set, List.length_replicate]; omega) | (simp only [List.length_cons, List.length_nil, Nat.zero_add, Nat.reduceAdd])) only [go_sem, ↓reduceIte, Nat.reduceAdd, Int.reduceNeg, Int.reduceAdd, Int.reduceSub, Int.reduceMul, Int.reduceLT, Int.reduceLE, Int.reduceEq, Int.reduceToNat, Nat.reduceBEq, e_sle, e_sge, e_shl1, e_orI, e_andI, e_shr, wrapu, wrap8, tn1, nat1, ix_s, ix_z, st_s, st_z, fl_s, fl_z, fl1_s, fl1_z, map_s, map_z, true_and]
  refine br_if (fun h9 => ?_) (fun h9 => ?_)
  · rw [labR9 h9]
    simp (disch := first | omega | (simp only [List.length_take, List.length_drop, List.length_append, List.map_cons, List.map_nil, List.length_map, List.length_cons, List.length_nil, List.length_set, List.length_replicate]; omega) | (simp only [List.length_cons, List.length_nil, Nat.zero_add, Nat.reduceAdd])) only [go_sem, ↓reduceIte, Nat.reduceAdd, Int.reduceNeg, Int.reduceAdd, Int.reduceSub, Int.reduceMul, Int.reduceLT, Int.reduceLE, Int.reduceEq, Int.reduceToNat, Nat.reduceBEq, e_sle, e_sge, e_shl1, e_orI, e_andI, e_shr, wrapu, wrap8, tn1, nat1, ix_s, ix_z, st_s, st_z, fl_s, fl_z, fl1_s, fl1_z, map_s, map_z, true_and]
    refine lp (fun i : Nat => [.sc (.int .i64 i)]) (fun i => i ≤ L.length ∧ allB (labS L) i = true) (fun i => L.length - i) 0 rfl ⟨by omega, rfl⟩ ?_
    rintro i ⟨hi, hb⟩
    simp only [u_impl_labelsRight_l1]
    by_cases hlt : i < L.length
    · repeat' (first | (with_reducible refine jn_in ?_) | (with_reducible refine cl_ok (by assumption) rfl ?_) | (with_reducible refine cl_okP (by assumption) rfl ?_) | (with_reducible refine br_if (fun hbr => ?_) (fun hbr => ?_)) | (with_reducible refine br_ifn (fun hbr => ?_) (fun hbr => ?_)) | (with_reducible refine br_nb (fun hbr => ?_) (fun hbr => ?_)) | (with_reducible refine br_b (fun hbr => ?_) (fun hbr => ?_)) | simp (disch := first | omega | (simp only [List.length_take, List.length_drop, List.length_append, List.map_cons, List.map_nil, List.length_map, List.length_cons, List.length_nil, List.length_set, List.length_replicate]; omega) | (simp only [List.length_cons, List.length_nil, Nat.zero_add, Nat.reduceAdd])) only [go_sem, ↓reduceIte, Nat.reduceAdd, Int.reduceNeg, Int.reduceAdd, Int.reduceSub, Int.reduceMul, Int.reduceLT, Int.reduceLE, Int.reduceEq, Int.reduceToNat, Nat.reduceBEq, e_sle, e_sge, e_shl1, e_orI, e_andI, e_shr, wrapu, wrap8, tn1, nat1, ix_s, ix_z, st_s, st_z, fl_s, fl_z, fl1_s, fl1_z, map_s, map_z, true_and])
      all_goals first
        | omega
        | exact ret_b (allB_no hlt (by (first | (simp [-List.getD_eq_getElem?_getD, labS, *]; done) | (simp_all [-List.getD_eq_getElem?_getD, labS]; done) | (simp [-List.getD_eq_getElem?_getD, labS, *]; omega) | (simp_all [-List.getD_eq_getElem?_getD, labS]; omega) | omega)))
        | exact ⟨i + 1, rfl, ⟨by omega, allB_step hb (by (first | (simp [-List.getD_eq_getElem?_getD, labS, *]; done) | (simp_all [-List.getD_eq_getElem?_getD, labS]; done) | (simp [-List.getD_eq_getElem?_getD, labS, *]; omega) | (simp_all [-List.getD_eq_getElem?_getD, labS]; omega) | omega))⟩, by omega⟩
        | skip
    · obtain rfl : i = L.length := by omega
      repeat' (first | (with_reducible refine jn_in ?_) | (with_reducible refine cl_ok (by assumption) rfl ?_) | (with_reducible refine cl_okP (by assumption) rfl ?_) | (with_reducible refine br_if (fun hbr => ?_) (fun hbr => ?_)) | (with_reducible refine br_ifn (fun hbr => ?_) (fun hbr => ?_)) | (with_reducible refine br_nb (fun hbr => ?_) (fun hbr => ?_)) | (with_reducible refine br_b (fun hbr => ?_) (fun hbr => ?_)) | simp (disch := first | omega | (simp only [List.length_take, List.length_drop, List.length_append, List.map_cons, List.map_nil, List.length_map, List.length_cons, List.length_nil, List.length_set, List.length_replicate]; omega) | (simp only [List.length_cons, List.length_nil, Nat.zero_add, Nat.reduceAdd])) only [go_sem, ↓reduceIte, Nat.reduceAdd, Int.reduceNeg, Int.reduceAdd, Int.reduceSub, Int.reduceMul, Int.reduceLT, Int.reduceLE, Int.reduceEq, Int.reduceToNat, Nat.reduceBEq, e_sle, e_sge, e_shl1, e_orI, e_andI, e_shr, wrapu, wrap8, tn1, nat1, ix_s, ix_z, st_s, st_z, fl_s, fl_z, fl1_s, fl1_z, map_s, map_z, true_and])
      all_goals first | omega | exact ret_b hb | skip
  simp (disch := first | omega | (simp only [List.length_take, List.length_drop, List.length_append, List.map_cons, List.map_nil, List.length_map, List.length_cons, List.length_nil, List.length_set, List.length_replicate]; omega) | (simp only [List.length_cons, List.length_nil, Nat.zero_add, Nat.reduceAdd])) only [go_sem, ↓reduceIte, Nat.reduceAdd, Int.reduceNeg, Int.reduceAdd, Int.reduceSub, Int.reduceMul, Int.reduceLT, Int.reduceLE, Int.reduceEq, Int.reduceToNat, Nat.reduceBEq, e_sle, e_sge, e_shl1, e_orI, e_andI, e_shr, wrapu, wrap8, tn1, nat1, ix_s, ix_z, st_s, st_z, fl_s, fl_z, fl1_s, fl1_z, map_s, map_z, true_and]
  refine br_if (fun h26 => ?_) (fun h26 => ?_)
  · rw [labR26 h26]
    repeat' (first | (with_reducible refine jn_in ?_) | (with_reducible refine cl_ok (by assumption) rfl ?_) | (with_reducible refine cl_okP (by assumption) rfl ?_) | (with_reducible refine br_if (fun hbr => ?_) (fun hbr => ?_)) | (with_reducible refine br_ifn (fun hbr => ?_) (fun hbr => ?_)) | (with_reducible refine br_nb (fun hbr => ?_) (fun hbr => ?_)) | (with_reducible refine br_b (fun hbr => ?_) (fun hbr => ?_)) | simp (disch := first | omega | (simp only [List.length_take, List.length_drop, List.length_append, List.map_cons, List.map_nil, List.length_map, List.length_cons, List.length_nil, List.length_set, List.length_replicate]; omega) | (simp only [List.length_cons, List.length_nil, Nat.zero_add, Nat.reduceAdd])) only [go_sem, ↓reduceIte, Nat.reduceAdd, Int.reduceNeg, Int.reduceAdd, Int.reduceSub, Int.reduceMul, Int.reduceLT, Int.reduceLE, Int.reduceEq, Int.reduceToNat, Nat.reduceBEq, e_sle, e_sge, e_shl1, e_orI, e_andI, e_shr, wrapu, wrap8, tn1, nat1, ix_s, ix_z, st_s, st_z, fl_s, fl_z, fl1_s, fl1_z, map_s, map_z, Int.toNat_zero])
    all_goals first
      | omega
      | exact ret_b (by rw [Bool.eq_iff_iff]; simp only [Bool.and_eq_true, decide_eq_true_eq, Bool.false_eq_true, iff_false]; omega)
      | skip
  simp (disch := first | omega | (simp only [List.length_take, List.length_drop, List.length_append, List.map_cons, List.map_nil, List.length_map, List.length_cons, List.length_nil, List.length_set, List.length_replicate]; omega) | (simp only [List.length_cons, List.length_nil, Nat.zero_add, Nat.reduceAdd])) only [go_sem, ↓reduceIte, Nat.reduceAdd, Int.reduceNeg, Int.reduceAdd, Int.reduceSub, Int.reduceMul, Int.reduceLT, Int.reduceLE, Int.reduceEq, Int.reduceToNat, Nat.reduceBEq, e_sle, e_sge, e_shl1, e_orI, e_andI, e_shr, wrapu, wrap8, tn1, nat1, ix_s, ix_z, st_s, st_z, fl_s, fl_z, fl1_s, fl1_z, map_s, map_z, true_and]
  refine br_if (fun h27 => ?_) (fun h27 => ?_)
  · rw [labR27 h27]
    have hN0 := hN 0
    have h0s := getD_le hs 0
    have e1 : (L.getD 0 default).size + (⟨#[60, 45]⟩ : ByteArray).size ≤ maxLen := by show _ + 2 ≤ _; unfold maxLen; omega
    repeat' (first | (with_reducible refine jn_in ?_) | (with_reducible refine cl_ok (by assumption) rfl ?_) | (with_reducible refine cl_okP (by assumption) rfl ?_) | (with_reducible refine br_if (fun hbr => ?_) (fun hbr => ?_)) | (with_reducible refine br_ifn (fun hbr => ?_) (fun hbr => ?_)) | (with_reducible refine br_nb (fun hbr => ?_) (fun hbr => ?_)) | (with_reducible refine br_b (fun hbr => ?_) (fun hbr => ?_)) | simp (disch := first | omega | (simp only [List.length_take, List.length_drop, List.length_append, List.map_cons, List.map_nil, List.length_map, List.length_cons, List.length_nil, List.length_set, List.length_replicate]; omega) | (simp only [List.length_cons, List.length_nil, Nat.zero_add, Nat.reduceAdd])) only [go_sem, ↓reduceIte, Nat.reduceAdd, Int.reduceNeg, Int.reduceAdd, Int.reduceSub, Int.reduceMul, Int.reduceLT, Int.reduceLE, Int.reduceEq, Int.reduceToNat, Nat.reduceBEq, e_sle, e_sge, e_shl1, e_orI, e_andI, e_shr, wrapu, wrap8, tn1, nat1, ix_s, ix_z, st_s, st_z, fl_s, fl_z, fl1_s, fl1_z, map_s, map_z, Int.toNat_zero, e_cat e1])
    all_goals first
      | omega
      | exact ret_b (by rw [decide_eq_false (by omega), Bool.false_and])
      | exact ret_b (by rw [decide_eq_true (by omega), Bool.true_and]; simp [-List.getD_eq_getElem?_getD, *]; done)
      | skip
  rw [labR_e h8 h9 h26 h27]
  repeat' (first | (with_reducible refine jn_in ?_) | (with_reducible refine cl_ok (by assumption) rfl ?_) | (with_reducible refine cl_okP (by assumption) rfl ?_) | (with_reducible refine br_if (fun hbr => ?_) (fun hbr => ?_)) | (with_reducible refine br_ifn (fun hbr => ?_) (fun hbr => ?_)) | (with_reducible refine br_nb (fun hbr => ?_) (fun hbr => ?_)) | (with_reducible refine br_b (fun hbr => ?_) (fun hbr => ?_)) | simp (disch := first | omega | (simp only [List.length_take, List.length_drop, List.length_append, List.map_cons, List.map_nil, List.length_map, List.length_cons, List.length_nil, List.length_set, List.length_replicate]; omega) | (simp only [List.length_cons, List.length_nil, Nat.zero_add, Nat.reduceAdd])) only [go_sem, ↓reduceIte, Nat.reduceAdd, Int.reduceNeg, Int.reduceAdd, Int.reduceSub, Int.reduceMul, Int.reduceLT, Int.reduceLE, Int.reduceEq, Int.reduceToNat, Nat.reduceBEq, e_sle, e_sge, e_shl1, e_orI, e_andI, e_shr, wrapu, wrap8, tn1, nat1, ix_s, ix_z, st_s, st_z, fl_s, fl_z, fl1_s, fl1_z, map_s, map_z, true_and])
  rfl
def topK (k : Int) : Int := if k = 2 then 999999999 else if k = 4 then 2 else if k = 5 then 1 else 0
def nodB (k n : Int) (s : ByteArray) (L : List ByteArray) (c : Int) : Bool :=
  decide (0 ≤ k ∧ k ≤ 35) && (kidB k c L.length && (decide (0 ≤ n ∧ n ≤ topK k) && (txtB k s && (if usL k = true then labR k L else decide (L.length = 0)))))
theorem usN_top {k : Int} (h : usN k = false) : topK k = 0 := by
  unfold usN at h
  have h := of_decide_eq_false h
  simp only [List.mem_cons, List.not_mem_nil, or_false, not_or] at h
  unfold topK; rw [if_neg h.1, if_neg h.2.1, if_neg h.2.2]
theorem usT_1 {k : Int} {s : ByteArray} (h : usT k = true) : txtB k s = txtR k s := by unfold txtB; rw [if_pos (of_decide_eq_true h)]
theorem usT_0 {k : Int} {s : ByteArray} (h : usT k = false) : txtB k s = decide (s = ⟨#[]⟩) := by unfold txtB; rw [if_neg (of_decide_eq_false h)]
def badB (k n : Int) (s : ByteArray) (L : List ByteArray) : Bool := (!usN k && !decide (n = 0)) || ((!usT k && !decide (s = ⟨#[]⟩)) || (!usL k && decide (0 < (L.length : Int))))
theorem bad_nod {k n c : Int} {s : ByteArray} {L : List ByteArray} (h : badB k n s L = true) : nodB k n s L c = false := by
  unfold badB at h
  simp only [Bool.or_eq_true, Bool.and_eq_true, Bool.not_eq_true', decide_eq_false_iff_not, decide_eq_true_eq] at h
  unfold nodB
  rcases h with ⟨h1, h2⟩ | ⟨h1, h2⟩ | ⟨h1, h2⟩
  · rw [usN_top h1, decide_eq_false (p := 0 ≤ n ∧ n ≤ 0) (by omega)]; simp
  · rw [usT_0 h1, decide_eq_false h2]; simp
  · rw [h1, decide_eq_false (p := L.length = 0) (by omega)]; simp
theorem good_nod {k n c : Int} {s : ByteArray} {L : List ByteArray} (h : badB k n s L = false) (h0 : 0 ≤ k ∧ k ≤ 35) (hk : kidB k c L.length = true) :
    nodB k n s L c = (decide (0 ≤ n ∧ n ≤ topK k) && ((!usT k || txtR k s) && (!usL k || labR k L))) := by
  unfold badB at h
  simp only [Bool.or_eq_false_iff, Bool.and_eq_false_iff, Bool.not_eq_false', decide_eq_false_iff_not, decide_eq_true_eq] at h
  obtain ⟨h1, h2, h3⟩ := h
  unfold nodB
  rw [decide_eq_true h0, hk, Bool.true_and, Bool.true_and]
  congr 1
  cases ht : usT k
  · rw [ht] at h2
    have h2 : s = ⟨#[]⟩ := h2.resolve_left (by decide)
    rw [usT_0 ht, decide_eq_true h2]
    cases hl : usL k
    · rw [hl] at h3
      have : L.length = 0 := by have h3 := h3.resolve_left (by decide); omega
      simp [this]
    · simp
  · rw [usT_1 ht]
    cases hl : usL k
    · rw [hl] at h3
      have : L.length = 0 := by have h3 := h3.resolve_left (by decide); omega
      simp [this]
    · simp
set_option maxHeartbeats 2000000 in
theorem implNod_m (k n c : Int) (s : ByteArray) (L : List ByteArray) (hz : s.size ≤ 1048576) (hL : L.length ≤ 1048576) (hs : ∀ x ∈ L, x.size ≤ 1048576) : Meets Try.prog 59 [(true, encNod ⟨k, n, s, L, c⟩)] [(false, [.sc (.bool (nodB k n s L c))], true)] := by
  have hK := implKids_m k n c s L hL
  have hU := implUses_m k
  have hT := implTxt_m k n c s L (by omega)
  have hB := implLab_m k n c s L hL hs
  have b1 : ∀ {a b : Bool}, a = b → [DV.sc (.bool a)] = [.sc (.bool b)] := fun h => by rw [h]
  refine meets_upf Try.func59 u_impl_nodeRight_g rfl ?_; simp only [u_impl_nodeRight_u]
  simp only [encNod, encSs] at hK hT hB ⊢
  simp (disch := first | omega | (simp only [List.length_take, List.length_drop, List.length_append, List.map_cons, List.map_nil, List.length_map, List.length_cons, List.length_nil, List.length_set, List.length_replicate]; omega) | (simp only [List.length_cons, List.length_nil, Nat.zero_add, Nat.reduceAdd])) only [go_sem, ↓reduceIte, Nat.reduceAdd, Int.reduceNeg, Int.reduceAdd, Int.reduceSub, Int.reduceMul, Int.reduceLT, Int.reduceLE, Int.reduceEq, Int.reduceToNat, Nat.reduceBEq, e_sle, e_sge, e_shl1, e_orI, e_andI, e_shr, wrapu, wrap8, tn1, nat1, ix_s, ix_z, st_s, st_z, fl_s, fl_z, fl1_s, fl1_z, map_s, map_z, true_and]
  refine br_if (fun h1 => ?_) (fun h1 => ?_)
  · repeat' (first | (with_reducible refine jn_in ?_) | (with_reducible refine cl_ok (by assumption) rfl ?_) | (with_reducible refine cl_okP (by assumption) rfl ?_) | (with_reducible refine br_if (fun hbr => ?_) (fun hbr => ?_)) | (with_reducible refine br_ifn (fun hbr => ?_) (fun hbr => ?_)) | (with_reducible refine br_nb (fun hbr => ?_) (fun hbr => ?_)) | (with_reducible refine br_b (fun hbr => ?_) (fun hbr => ?_)) | simp (disch := first | omega | (simp only [List.length_take, List.length_drop, List.length_append, List.map_cons, List.map_nil, List.length_map, List.length_cons, List.length_nil, List.length_set, List.length_replicate]; omega) | (simp only [List.length_cons, List.length_nil, Nat.zero_add, Nat.reduceAdd])) only [go_sem, ↓reduceIte, Nat.reduceAdd, Int.reduceNeg, Int.reduceAdd, Int.reduceSub, Int.reduceMul, Int.reduceLT, Int.reduceLE, Int.reduceEq, Int.reduceToNat, Nat.reduceBEq, e_sle, e_sge, e_shl1, e_orI, e_andI, e_shr, wrapu, wrap8, tn1, nat1, ix_s, ix_z, st_s, st_z, fl_s, fl_z, fl1_s, fl1_z, map_s, map_z, true_and])
    exact ret_b (by unfold nodB; rw [decide_eq_false (by omega), Bool.false_and])
  simp (disch := first | omega | (simp only [List.length_take, List.length_drop, List.length_append, List.map_cons, List.map_nil, List.length_map, List.length_cons, List.length_nil, List.length_set, List.length_replicate]; omega) | (simp only [List.length_cons, List.length_nil, Nat.zero_add, Nat.reduceAdd])) only [go_sem, ↓reduceIte, Nat.reduceAdd, Int.reduceNeg, Int.reduceAdd, Int.reduceSub, Int.reduceMul, Int.reduceLT, Int.reduceLE, Int.reduceEq, Int.reduceToNat, Nat.reduceBEq, e_sle, e_sge, e_shl1, e_orI, e_andI, e_shr, wrapu, wrap8, tn1, nat1, ix_s, ix_z, st_s, st_z, fl_s, fl_z, fl1_s, fl1_z, map_s, map_z, true_and]
  refine br_if (fun h2 => ?_) (fun h2 => ?_)
  · repeat' (first | (with_reducible refine jn_in ?_) | (with_reducible refine cl_ok (by assumption) rfl ?_) | (with_reducible refine cl_okP (by assumption) rfl ?_) | (with_reducible refine br_if (fun hbr => ?_) (fun hbr => ?_)) | (with_reducible refine br_ifn (fun hbr => ?_) (fun hbr => ?_)) | (with_reducible refine br_nb (fun hbr => ?_) (fun hbr => ?_)) | (with_reducible refine br_b (fun hbr => ?_) (fun hbr => ?_)) | simp (disch := first | omega | (simp only [List.length_take, List.length_drop, List.length_append, List.map_cons, List.map_nil, List.length_map, List.length_cons, List.length_nil, List.length_set, List.length_replicate]; omega) | (simp only [List.length_cons, List.length_nil, Nat.zero_add, Nat.reduceAdd])) only [go_sem, ↓reduceIte, Nat.reduceAdd, Int.reduceNeg, Int.reduceAdd, Int.reduceSub, Int.reduceMul, Int.reduceLT, Int.reduceLE, Int.reduceEq, Int.reduceToNat, Nat.reduceBEq, e_sle, e_sge, e_shl1, e_orI, e_andI, e_shr, wrapu, wrap8, tn1, nat1, ix_s, ix_z, st_s, st_z, fl_s, fl_z, fl1_s, fl1_z, map_s, map_z, true_and])
    exact ret_b (by unfold nodB; rw [decide_eq_false (by omega), Bool.false_and])
  simp (disch := first | omega | (simp only [List.length_take, List.length_drop, List.length_append, List.map_cons, List.map_nil, List.length_map, List.length_cons, List.length_nil, List.length_set, List.length_replicate]; omega) | (simp only [List.length_cons, List.length_nil, Nat.zero_add, Nat.reduceAdd])) only [go_sem, ↓reduceIte, Nat.reduceAdd, Int.reduceNeg, Int.reduceAdd, Int.reduceSub, Int.reduceMul, Int.reduceLT, Int.reduceLE, Int.reduceEq, Int.reduceToNat, Nat.reduceBEq, e_sle, e_sge, e_shl1, e_orI, e_andI, e_shr, wrapu, wrap8, tn1, nat1, ix_s, ix_z, st_s, st_z, fl_s, fl_z, fl1_s, fl1_z, map_s, map_z, true_and]
  refine cl_ok hK rfl ?_
  cases hk : kidB k c L.length
  · repeat' (first | (with_reducible refine jn_in ?_) | (with_reducible refine cl_ok (by assumption) rfl ?_) | (with_reducible refine cl_okP (by assumption) rfl ?_) | (with_reducible refine br_if (fun hbr => ?_) (fun hbr => ?_)) | (with_reducible refine br_ifn (fun hbr => ?_) (fun hbr => ?_)) | (with_reducible refine br_nb (fun hbr => ?_) (fun hbr => ?_)) | (with_reducible refine br_b (fun hbr => ?_) (fun hbr => ?_)) | simp (disch := first | omega | (simp only [List.length_take, List.length_drop, List.length_append, List.map_cons, List.map_nil, List.length_map, List.length_cons, List.length_nil, List.length_set, List.length_replicate]; omega) | (simp only [List.length_cons, List.length_nil, Nat.zero_add, Nat.reduceAdd])) only [go_sem, ↓reduceIte, Nat.reduceAdd, Int.reduceNeg, Int.reduceAdd, Int.reduceSub, Int.reduceMul, Int.reduceLT, Int.reduceLE, Int.reduceEq, Int.reduceToNat, Nat.reduceBEq, e_sle, e_sge, e_shl1, e_orI, e_andI, e_shr, wrapu, wrap8, tn1, nat1, ix_s, ix_z, st_s, st_z, fl_s, fl_z, fl1_s, fl1_z, map_s, map_z, true_and])
    exact ret_b (by unfold nodB; rw [hk, Bool.false_and, Bool.and_false])
  simp (disch := first | omega | (simp only [List.length_take, List.length_drop, List.length_append, List.map_cons, List.map_nil, List.length_map, List.length_cons, List.length_nil, List.length_set, List.length_replicate]; omega) | (simp only [List.length_cons, List.length_nil, Nat.zero_add, Nat.reduceAdd])) only [go_sem, ↓reduceIte, Nat.reduceAdd, Int.reduceNeg, Int.reduceAdd, Int.reduceSub, Int.reduceMul, Int.reduceLT, Int.reduceLE, Int.reduceEq, Int.reduceToNat, Nat.reduceBEq, e_sle, e_sge, e_shl1, e_orI, e_andI, e_shr, wrapu, wrap8, tn1, nat1, ix_s, ix_z, st_s, st_z, fl_s, fl_z, fl1_s, fl1_z, map_s, map_z, true_and]
  refine cl_ok hU rfl ?_
  simp (disch := first | omega | (simp only [List.length_take, List.length_drop, List.length_append, List.map_cons, List.map_nil, List.length_map, List.length_cons, List.length_nil, List.length_set, List.length_replicate]; omega) | (simp only [List.length_cons, List.length_nil, Nat.zero_add, Nat.reduceAdd])) only [go_sem, ↓reduceIte, Nat.reduceAdd, Int.reduceNeg, Int.reduceAdd, Int.reduceSub, Int.reduceMul, Int.reduceLT, Int.reduceLE, Int.reduceEq, Int.reduceToNat, Nat.reduceBEq, e_sle, e_sge, e_shl1, e_orI, e_andI, e_shr, wrapu, wrap8, tn1, nat1, ix_s, ix_z, st_s, st_z, fl_s, fl_z, fl1_s, fl1_z, map_s, map_z, true_and]
  refine jn_eq [.sc (.bool (badB k n s L))] ?_ ?_
  · unfold badB
    cases usN k <;> cases usT k <;> cases usL k
    all_goals
      repeat' (first | (with_reducible refine jn_in ?_) | (with_reducible refine cl_ok (by assumption) rfl ?_) | (with_reducible refine cl_okP (by assumption) rfl ?_) | (with_reducible refine br_if (fun hbr => ?_) (fun hbr => ?_)) | (with_reducible refine br_ifn (fun hbr => ?_) (fun hbr => ?_)) | (with_reducible refine br_nb (fun hbr => ?_) (fun hbr => ?_)) | (with_reducible refine br_b (fun hbr => ?_) (fun hbr => ?_)) | simp (disch := first | omega | (simp only [List.length_take, List.length_drop, List.length_append, List.map_cons, List.map_nil, List.length_map, List.length_cons, List.length_nil, List.length_set, List.length_replicate]; omega) | (simp only [List.length_cons, List.length_nil, Nat.zero_add, Nat.reduceAdd])) only [go_sem, ↓reduceIte, Nat.reduceAdd, Int.reduceNeg, Int.reduceAdd, Int.reduceSub, Int.reduceMul, Int.reduceLT, Int.reduceLE, Int.reduceEq, Int.reduceToNat, Nat.reduceBEq, e_sle, e_sge, e_shl1, e_orI, e_andI, e_shr, wrapu, wrap8, tn1, nat1, ix_s, ix_z, st_s, st_z, fl_s, fl_z, fl1_s, fl1_z, map_s, map_z, true_and])
      all_goals first
        | omega
        | exact b1 (by simp [*])
        | skip
  simp only [u_impl_nodeRight_j0]
  cases hbad : badB k n s L
  rotate_left
  · repeat' (first | (with_reducible refine jn_in ?_) | (with_reducible refine cl_ok (by assumption) rfl ?_) | (with_reducible refine cl_okP (by assumption) rfl ?_) | (with_reducible refine br_if (fun hbr => ?_) (fun hbr => ?_)) | (with_reducible refine br_ifn (fun hbr => ?_) (fun hbr => ?_)) | (with_reducible refine br_nb (fun hbr => ?_) (fun hbr => ?_)) | (with_reducible refine br_b (fun hbr => ?_) (fun hbr => ?_)) | simp (disch := first | omega | (simp only [List.length_take, List.length_drop, List.length_append, List.map_cons, List.map_nil, List.length_map, List.length_cons, List.length_nil, List.length_set, List.length_replicate]; omega) | (simp only [List.length_cons, List.length_nil, Nat.zero_add, Nat.reduceAdd])) only [go_sem, ↓reduceIte, Nat.reduceAdd, Int.reduceNeg, Int.reduceAdd, Int.reduceSub, Int.reduceMul, Int.reduceLT, Int.reduceLE, Int.reduceEq, Int.reduceToNat, Nat.reduceBEq, e_sle, e_sge, e_shl1, e_orI, e_andI, e_shr, wrapu, wrap8, tn1, nat1, ix_s, ix_z, st_s, st_z, fl_s, fl_z, fl1_s, fl1_z, map_s, map_z, true_and])
    exact ret_b (bad_nod hbad)
  have hg := good_nod hbad ⟨by omega, by omega⟩ hk
  rw [hg]
  simp (disch := first | omega | (simp only [List.length_take, List.length_drop, List.length_append, List.map_cons, List.map_nil, List.length_map, List.length_cons, List.length_nil, List.length_set, List.length_replicate]; omega) | (simp only [List.length_cons, List.length_nil, Nat.zero_add, Nat.reduceAdd])) only [go_sem, ↓reduceIte, Nat.reduceAdd, Int.reduceNeg, Int.reduceAdd, Int.reduceSub, Int.reduceMul, Int.reduceLT, Int.reduceLE, Int.reduceEq, Int.reduceToNat, Nat.reduceBEq, e_sle, e_sge, e_shl1, e_orI, e_andI, e_shr, wrapu, wrap8, tn1, nat1, ix_s, ix_z, st_s, st_z, fl_s, fl_z, fl1_s, fl1_z, map_s, map_z, true_and]
  refine br_if (fun h2 => ?_) (fun h2 => ?_)
  · repeat' (first | (with_reducible refine jn_in ?_) | (with_reducible refine cl_ok (by assumption) rfl ?_) | (with_reducible refine cl_okP (by assumption) rfl ?_) | (with_reducible refine br_if (fun hbr => ?_) (fun hbr => ?_)) | (with_reducible refine br_ifn (fun hbr => ?_) (fun hbr => ?_)) | (with_reducible refine br_nb (fun hbr => ?_) (fun hbr => ?_)) | (with_reducible refine br_b (fun hbr => ?_) (fun hbr => ?_)) | simp (disch := first | omega | (simp only [List.length_take, List.length_drop, List.length_append, List.map_cons, List.map_nil, List.length_map, List.length_cons, List.length_nil, List.length_set, List.length_replicate]; omega) | (simp only [List.length_cons, List.length_nil, Nat.zero_add, Nat.reduceAdd])) only [go_sem, ↓reduceIte, Nat.reduceAdd, Int.reduceNeg, Int.reduceAdd, Int.reduceSub, Int.reduceMul, Int.reduceLT, Int.reduceLE, Int.reduceEq, Int.reduceToNat, Nat.reduceBEq, e_sle, e_sge, e_shl1, e_orI, e_andI, e_shr, wrapu, wrap8, tn1, nat1, ix_s, ix_z, st_s, st_z, fl_s, fl_z, fl1_s, fl1_z, map_s, map_z, true_and])
    all_goals first
      | omega
      | (subst h2; exact ret_b (by rw [show usT 2 = false from by decide, show usL 2 = false from by decide, show topK 2 = 999999999 from by decide]; simp [*]; done))
      | (subst h2; exact ret_b (by rw [show topK 2 = 999999999 from by decide, decide_eq_false (by omega), Bool.false_and]))
      | skip
  simp (disch := first | omega | (simp only [List.length_take, List.length_drop, List.length_append, List.map_cons, List.map_nil, List.length_map, List.length_cons, List.length_nil, List.length_set, List.length_replicate]; omega) | (simp only [List.length_cons, List.length_nil, Nat.zero_add, Nat.reduceAdd])) only [go_sem, ↓reduceIte, Nat.reduceAdd, Int.reduceNeg, Int.reduceAdd, Int.reduceSub, Int.reduceMul, Int.reduceLT, Int.reduceLE, Int.reduceEq, Int.reduceToNat, Nat.reduceBEq, e_sle, e_sge, e_shl1, e_orI, e_andI, e_shr, wrapu, wrap8, tn1, nat1, ix_s, ix_z, st_s, st_z, fl_s, fl_z, fl1_s, fl1_z, map_s, map_z, true_and]
  refine br_if (fun h4 => ?_) (fun h4 => ?_)
  · repeat' (first | (with_reducible refine jn_in ?_) | (with_reducible refine cl_ok (by assumption) rfl ?_) | (with_reducible refine cl_okP (by assumption) rfl ?_) | (with_reducible refine br_if (fun hbr => ?_) (fun hbr => ?_)) | (with_reducible refine br_ifn (fun hbr => ?_) (fun hbr => ?_)) | (with_reducible refine br_nb (fun hbr => ?_) (fun hbr => ?_)) | (with_reducible refine br_b (fun hbr => ?_) (fun hbr => ?_)) | simp (disch := first | omega | (simp only [List.length_take, List.length_drop, List.length_append, List.map_cons, List.map_nil, List.length_map, List.length_cons, List.length_nil, List.length_set, List.length_replicate]; omega) | (simp only [List.length_cons, List.length_nil, Nat.zero_add, Nat.reduceAdd])) only [go_sem, ↓reduceIte, Nat.reduceAdd, Int.reduceNeg, Int.reduceAdd, Int.reduceSub, Int.reduceMul, Int.reduceLT, Int.reduceLE, Int.reduceEq, Int.reduceToNat, Nat.reduceBEq, e_sle, e_sge, e_shl1, e_orI, e_andI, e_shr, wrapu, wrap8, tn1, nat1, ix_s, ix_z, st_s, st_z, fl_s, fl_z, fl1_s, fl1_z, map_s, map_z, true_and])
    all_goals first
      | omega
      | (subst h4; exact ret_b (by rw [show usT 4 = false from by decide, show usL 4 = false from by decide, show topK 4 = 2 from by decide]; simp [*]; done))
      | (subst h4; exact ret_b (by rw [show topK 4 = 2 from by decide, decide_eq_false (by omega), Bool.false_and]))
      | skip
  simp (disch := first | omega | (simp only [List.length_take, List.length_drop, List.length_append, List.map_cons, List.map_nil, List.length_map, List.length_cons, List.length_nil, List.length_set, List.length_replicate]; omega) | (simp only [List.length_cons, List.length_nil, Nat.zero_add, Nat.reduceAdd])) only [go_sem, ↓reduceIte, Nat.reduceAdd, Int.reduceNeg, Int.reduceAdd, Int.reduceSub, Int.reduceMul, Int.reduceLT, Int.reduceLE, Int.reduceEq, Int.reduceToNat, Nat.reduceBEq, e_sle, e_sge, e_shl1, e_orI, e_andI, e_shr, wrapu, wrap8, tn1, nat1, ix_s, ix_z, st_s, st_z, fl_s, fl_z, fl1_s, fl1_z, map_s, map_z, true_and]
  refine br_if (fun h5 => ?_) (fun h5 => ?_)
  · repeat' (first | (with_reducible refine jn_in ?_) | (with_reducible refine cl_ok (by assumption) rfl ?_) | (with_reducible refine cl_okP (by assumption) rfl ?_) | (with_reducible refine br_if (fun hbr => ?_) (fun hbr => ?_)) | (with_reducible refine br_ifn (fun hbr => ?_) (fun hbr => ?_)) | (with_reducible refine br_nb (fun hbr => ?_) (fun hbr => ?_)) | (with_reducible refine br_b (fun hbr => ?_) (fun hbr => ?_)) | simp (disch := first | omega | (simp only [List.length_take, List.length_drop, List.length_append, List.map_cons, List.map_nil, List.length_map, List.length_cons, List.length_nil, List.length_set, List.length_replicate]; omega) | (simp only [List.length_cons, List.length_nil, Nat.zero_add, Nat.reduceAdd])) only [go_sem, ↓reduceIte, Nat.reduceAdd, Int.reduceNeg, Int.reduceAdd, Int.reduceSub, Int.reduceMul, Int.reduceLT, Int.reduceLE, Int.reduceEq, Int.reduceToNat, Nat.reduceBEq, e_sle, e_sge, e_shl1, e_orI, e_andI, e_shr, wrapu, wrap8, tn1, nat1, ix_s, ix_z, st_s, st_z, fl_s, fl_z, fl1_s, fl1_z, map_s, map_z, true_and])
    all_goals first
      | omega
      | (subst h5; exact ret_b (by rw [show usT 5 = false from by decide, show usL 5 = false from by decide, show topK 5 = 1 from by decide]; simp [*]; done))
      | (subst h5; exact ret_b (by rw [show topK 5 = 1 from by decide, decide_eq_false (by omega), Bool.false_and]))
      | skip
  have hn : decide (0 ≤ n ∧ n ≤ topK k) = true := by
    have hu : usN k = false := by simp [usN, *]
    unfold badB at hbad
    rw [hu] at hbad
    simp only [Bool.or_eq_false_iff, Bool.and_eq_false_iff, Bool.not_eq_false', decide_eq_false_iff_not, decide_eq_true_eq] at hbad
    have h0 := hbad.1.resolve_left (by decide)
    rw [usN_top hu, h0]; decide
  rw [hn, Bool.true_and]
  cases usT k <;> cases usL k
  all_goals
    repeat' (first | (with_reducible refine jn_in ?_) | (with_reducible refine cl_ok (by assumption) rfl ?_) | (with_reducible refine cl_okP (by assumption) rfl ?_) | (with_reducible refine br_if (fun hbr => ?_) (fun hbr => ?_)) | (with_reducible refine br_ifn (fun hbr => ?_) (fun hbr => ?_)) | (with_reducible refine br_nb (fun hbr => ?_) (fun hbr => ?_)) | (with_reducible refine br_b (fun hbr => ?_) (fun hbr => ?_)) | simp (disch := first | omega | (simp only [List.length_take, List.length_drop, List.length_append, List.map_cons, List.map_nil, List.length_map, List.length_cons, List.length_nil, List.length_set, List.length_replicate]; omega) | (simp only [List.length_cons, List.length_nil, Nat.zero_add, Nat.reduceAdd])) only [go_sem, ↓reduceIte, Nat.reduceAdd, Int.reduceNeg, Int.reduceAdd, Int.reduceSub, Int.reduceMul, Int.reduceLT, Int.reduceLE, Int.reduceEq, Int.reduceToNat, Nat.reduceBEq, e_sle, e_sge, e_shl1, e_orI, e_andI, e_shr, wrapu, wrap8, tn1, nat1, ix_s, ix_z, st_s, st_z, fl_s, fl_z, fl1_s, fl1_z, map_s, map_z, true_and])
    all_goals first
      | omega
      | rfl
      | exact ret_b (by rw [‹txtR k s = true›]; simp)
      | exact ret_b (by rw [‹txtR k s = false›]; simp)
      | exact ret_b (by simp)
      | trace_state
      | skip
end Go.Proofs.Ytkcljmgjbjdccaa

namespace Go.Proofs.Ytkcljmgjbjdccaa
open Go.RowKit
set_option maxRecDepth 100000
theorem kinds36 {k : Int} (h : 0 ≤ k ∧ k ≤ 35) (P : Int → Prop) (h0 : ∀ i : Nat, i < 36 → P (i : Int)) : P k := by
  obtain ⟨i, rfl⟩ := Int.eq_ofNat_of_zero_le h.1
  exact h0 i (by omega)
def kidC (k c : Int) (n : Nat) : Bool := if cntK k ≥ 0 then decide (c = cntK k) else if k = 8 ∨ k = 9 then decide (c = (n : Int) + 1) else if k = 16 then decide (2 ≤ c ∧ c ≤ 3) else decide (0 ≤ c)
theorem kid_cnt {k c : Int} {n : Nat} (h : 0 ≤ k ∧ k ≤ 35) : kidB k c n = kidC k c n := by
  have h16 : decide (c = 2 ∨ c = 3) = decide (2 ≤ c ∧ c ≤ 3) := by rw [decide_eq_decide]; omega
  refine kinds36 h (fun k => kidB k c n = kidC k c n) fun i hi => ?_
  match i, hi with
  | 0, _ | 1, _ | 2, _ | 3, _ | 4, _ | 5, _ | 6, _ | 7, _ | 8, _ | 9, _ | 10, _ | 11, _ | 12, _ | 13, _ | 14, _ | 15, _ | 17, _ | 18, _ | 19, _ | 20, _ | 21, _ | 22, _ | 23, _ | 24, _ | 25, _ | 26, _ | 27, _ | 28, _ | 29, _ | 30, _ | 31, _ | 32, _ | 33, _ | 34, _ | 35, _ => rfl
  | 16, _ => exact h16
  | i + 36, hi => omega
def labC (k c : Int) (L : List ByteArray) : Bool :=
  if k = 8 then allB (labN L) L.length && decide (c = (L.length : Int) + 1) else if k = 9 then allB (labS L) L.length && decide (c = (L.length : Int) + 1)
  else if k = 16 then decide (L.length = 0) && decide (2 ≤ c ∧ c ≤ 3)
  else if k = 26 then decide (L.length = 1) && decide (1 ≤ ((L.getD 0 default).size : Int) ∧ ((L.getD 0 default).size : Int) ≤ 60)
  else if k = 27 then decide (L.length = 1) && (nameB (L.getD 0 default) && nameB (L.getD 0 default ++ ⟨#[60, 45]⟩)) else decide (L.length = 0)
def spB (k n : Int) (s : ByteArray) (c : Int) : Bool := decide (0 ≤ k ∧ k ≤ 35) && (decide (0 ≤ n ∧ n ≤ topK k) && (txtB k s && (decide (0 ≤ c ∧ c ≤ 200) && !(decide (cntK k ≥ 0) && !decide (c = cntK k)))))
theorem shape_nod (k n c : Int) (s : ByteArray) (L : List ByteArray) : (nodB k n s L c && decide (c ≤ 200)) = (spB k n s c && labC k c L) := by
  unfold nodB spB
  by_cases h : 0 ≤ k ∧ k ≤ 35
  rotate_left
  · rw [decide_eq_false h]; simp
  rw [decide_eq_true h, kid_cnt h]
  generalize decide (0 ≤ n ∧ n ≤ topK k) = b1
  generalize txtB k s = b2
  simp only [Bool.true_and]
  have key : (kidC k c L.length && ((if usL k = true then labR k L else decide (L.length = 0)) && decide (c ≤ 200))) = ((decide (0 ≤ c ∧ c ≤ 200) && !(decide (cntK k ≥ 0) && !decide (c = cntK k))) && labC k c L) := by
    by_cases h8 : k = 8
    · subst h8
      have e1 : kidC 8 c L.length = decide (c = (L.length : Int) + 1) := rfl
      have e2 : (if usL 8 = true then labR 8 L else decide (L.length = 0)) = allB (labN L) L.length := rfl
      have e3 : labC 8 c L = (allB (labN L) L.length && decide (c = (L.length : Int) + 1)) := rfl
      have e4 : cntK 8 = -1 := by decide
      rw [e1, e2, e3, e4]
      generalize allB (labN L) L.length = x
      cases x
      · simp
      · rw [Bool.eq_iff_iff]; simp; omega
    by_cases h9 : k = 9
    · subst h9
      have e1 : kidC 9 c L.length = decide (c = (L.length : Int) + 1) := rfl
      have e2 : (if usL 9 = true then labR 9 L else decide (L.length = 0)) = allB (labS L) L.length := rfl
      have e3 : labC 9 c L = (allB (labS L) L.length && decide (c = (L.length : Int) + 1)) := rfl
      have e4 : cntK 9 = -1 := by decide
      rw [e1, e2, e3, e4]
      generalize allB (labS L) L.length = x
      cases x
      · simp
      · rw [Bool.eq_iff_iff]; simp; omega
    by_cases h16 : k = 16
    · subst h16
      have e1 : kidC 16 c L.length = decide (2 ≤ c ∧ c ≤ 3) := rfl
      have e2 : (if usL 16 = true then labR 16 L else decide (L.length = 0)) = decide (L.length = 0) := rfl
      have e3 : labC 16 c L = (decide (L.length = 0) && decide (2 ≤ c ∧ c ≤ 3)) := rfl
      have e4 : cntK 16 = -1 := by decide
      rw [e1, e2, e3, e4]
      rw [Bool.eq_iff_iff]; simp only [Bool.and_eq_true, decide_eq_true_eq, Bool.not_eq_true', Bool.and_eq_false_iff, decide_eq_false_iff_not, Bool.not_eq_false']; omega
    have hkc : kidC k c L.length = if cntK k ≥ 0 then decide (c = cntK k) else decide (0 ≤ c) := by unfold kidC; rw [if_neg (show ¬ (k = 8 ∨ k = 9) by omega), if_neg h16]
    have hc2 : cntK k ≤ 2 := by unfold cntK; split <;> (try split) <;> (try split) <;> omega
    have hlc : labC k c L = (if usL k = true then labR k L else decide (L.length = 0)) := by
      unfold labC
      rw [if_neg h8, if_neg h9, if_neg h16]
      by_cases h26 : k = 26
      · subst h26; rfl
      by_cases h27 : k = 27
      · subst h27; rfl
      rw [if_neg h26, if_neg h27, if_neg (show ¬ usL k = true by simp [usL, *])]
    rw [hlc, hkc]
    generalize (if usL k = true then labR k L else decide (L.length = 0)) = x
    generalize cntK k = m at *
    by_cases hm : m ≥ 0
    · rw [if_pos hm, decide_eq_true hm]
      cases x
      · simp
      · rw [Bool.eq_iff_iff]; simp; omega
    · rw [if_neg hm, decide_eq_false hm]
      cases x
      · simp
      · rw [Bool.eq_iff_iff]; simp
  cases b1 <;> cases b2 <;> simp only [Bool.false_and, Bool.true_and, Bool.and_false] 
  rw [← key, Bool.and_assoc]
theorem spB_bd {k n c : Int} {s : ByteArray} (h : spB k n s c = true) : 0 ≤ c ∧ c ≤ 200 := by
  unfold spB at h
  simp only [Bool.and_eq_true, decide_eq_true_eq] at h
  exact h.2.2.2.1
set_option maxHeartbeats 4000000 in
theorem specShape_m (k n c : Int) (s : ByteArray) (L : List ByteArray) (hz : s.size ≤ 1048576) (hL : L.length ≤ 1048576) (hs : ∀ x ∈ L, x.size ≤ 1048576) : Meets Try.prog 55 [(true, encNod ⟨k, n, s, L, c⟩)] [(false, [.sc (.bool (nodB k n s L c && decide (c ≤ 200)))], true)] := by
  have hC := specCnt_m k
  have hT := specTxt_m k n c s L (by omega)
  have hN := fun i => specName_m (L.getD i default) (by have := getD_le hs i; omega)
  have hN2 := specName_m (L.getD 0 default ++ ⟨#[60, 45]⟩) (by have := getD_le hs 0; rw [ByteArray.size_append]; show _ + 2 ≤ _; omega)
  have hK := fun s => l1Find_m 9 L s (by omega)
  have hI1 := l1In_m k 0 35
  have hI2 := l1In_m n 0 (topK k)
  have hI3 := l1In_m c 0 200
  have hI4 := l1In_m c 2 3
  have hI5 := l1In_m ((L.getD 0 default).size : Int) 1 60
  have b1 : ∀ {a b : Bool}, a = b → [DV.sc (.bool a)] = [.sc (.bool b)] := fun h => by rw [h]
  rw [shape_nod]
  refine meets_upf Try.func55 u_spec_l16Shape_g rfl ?_; simp only [u_spec_l16Shape_u]
  simp only [encNod, encSs] at hT ⊢
  simp (disch := first | omega | (simp only [List.length_take, List.length_drop, List.length_append, List.map_cons, List.map_nil, List.length_map, List.length_cons, List.length_nil, List.length_set, List.length_replicate]; omega) | (simp only [List.length_cons, List.length_nil, Nat.zero_add, Nat.reduceAdd])) only [go_sem, ↓reduceIte, Nat.reduceAdd, Int.reduceNeg, Int.reduceAdd, Int.reduceSub, Int.reduceMul, Int.reduceLT, Int.reduceLE, Int.reduceEq, Int.reduceToNat, Nat.reduceBEq, e_sle, e_sge, e_shl1, e_orI, e_andI, e_shr, wrapu, wrap8, tn1, nat1, ix_s, ix_z, st_s, st_z, fl_s, fl_z, fl1_s, fl1_z, map_s, map_z, true_and]
  refine jn (fun vs => ∃ y, vs = [.sc (.int .i64 (topK k)), y]) ?_ ?_
  · repeat' (first | (with_reducible refine jn_in ?_) | (with_reducible refine cl_ok (by assumption) rfl ?_) | (with_reducible refine cl_okP (by assumption) rfl ?_) | (with_reducible refine br_if (fun hbr => ?_) (fun hbr => ?_)) | (with_reducible refine br_ifn (fun hbr => ?_) (fun hbr => ?_)) | (with_reducible refine br_nb (fun hbr => ?_) (fun hbr => ?_)) | (with_reducible refine br_b (fun hbr => ?_) (fun hbr => ?_)) | simp (disch := first | omega | (simp only [List.length_take, List.length_drop, List.length_append, List.map_cons, List.map_nil, List.length_map, List.length_cons, List.length_nil, List.length_set, List.length_replicate]; omega) | (simp only [List.length_cons, List.length_nil, Nat.zero_add, Nat.reduceAdd])) only [go_sem, ↓reduceIte, Nat.reduceAdd, Int.reduceNeg, Int.reduceAdd, Int.reduceSub, Int.reduceMul, Int.reduceLT, Int.reduceLE, Int.reduceEq, Int.reduceToNat, Nat.reduceBEq, e_sle, e_sge, e_shl1, e_orI, e_andI, e_shr, wrapu, wrap8, tn1, nat1, ix_s, ix_z, st_s, st_z, fl_s, fl_z, fl1_s, fl1_z, map_s, map_z, true_and])
    all_goals first
      | (subst_vars; exact ⟨_, rfl⟩)
      | exact ⟨_, by rw [topK, if_neg ‹¬ k = 2›, if_neg ‹¬ k = 4›, if_neg ‹¬ k = 5›]⟩
      | skip
  rintro vs - ⟨y, rfl⟩
  simp only [u_spec_l16Shape_j4]
  simp (disch := first | omega | (simp only [List.length_take, List.length_drop, List.length_append, List.map_cons, List.map_nil, List.length_map, List.length_cons, List.length_nil, List.length_set, List.length_replicate]; omega) | (simp only [List.length_cons, List.length_nil, Nat.zero_add, Nat.reduceAdd])) only [go_sem, ↓reduceIte, Nat.reduceAdd, Int.reduceNeg, Int.reduceAdd, Int.reduceSub, Int.reduceMul, Int.reduceLT, Int.reduceLE, Int.reduceEq, Int.reduceToNat, Nat.reduceBEq, e_sle, e_sge, e_shl1, e_orI, e_andI, e_shr, wrapu, wrap8, tn1, nat1, ix_s, ix_z, st_s, st_z, fl_s, fl_z, fl1_s, fl1_z, map_s, map_z, true_and]
  refine cl_ok hC rfl ?_
  simp (disch := first | omega | (simp only [List.length_take, List.length_drop, List.length_append, List.map_cons, List.map_nil, List.length_map, List.length_cons, List.length_nil, List.length_set, List.length_replicate]; omega) | (simp only [List.length_cons, List.length_nil, Nat.zero_add, Nat.reduceAdd])) only [go_sem, ↓reduceIte, Nat.reduceAdd, Int.reduceNeg, Int.reduceAdd, Int.reduceSub, Int.reduceMul, Int.reduceLT, Int.reduceLE, Int.reduceEq, Int.reduceToNat, Nat.reduceBEq, e_sle, e_sge, e_shl1, e_orI, e_andI, e_shr, wrapu, wrap8, tn1, nat1, ix_s, ix_z, st_s, st_z, fl_s, fl_z, fl1_s, fl1_z, map_s, map_z, true_and]
  refine jn_eq [.sc (.bool (!spB k n s c))] ?_ ?_
  · unfold spB
    repeat' (first | (with_reducible refine jn_in ?_) | (with_reducible refine cl_ok (by assumption) rfl ?_) | (with_reducible refine cl_okP (by assumption) rfl ?_) | (with_reducible refine br_if (fun hbr => ?_) (fun hbr => ?_)) | (with_reducible refine br_ifn (fun hbr => ?_) (fun hbr => ?_)) | (with_reducible refine br_nb (fun hbr => ?_) (fun hbr => ?_)) | (with_reducible refine br_b (fun hbr => ?_) (fun hbr => ?_)) | simp (disch := first | omega | (simp only [List.length_take, List.length_drop, List.length_append, List.map_cons, List.map_nil, List.length_map, List.length_cons, List.length_nil, List.length_set, List.length_replicate]; omega) | (simp only [List.length_cons, List.length_nil, Nat.zero_add, Nat.reduceAdd])) only [go_sem, ↓reduceIte, Nat.reduceAdd, Int.reduceNeg, Int.reduceAdd, Int.reduceSub, Int.reduceMul, Int.reduceLT, Int.reduceLE, Int.reduceEq, Int.reduceToNat, Nat.reduceBEq, e_sle, e_sge, e_shl1, e_orI, e_andI, e_shr, wrapu, wrap8, tn1, nat1, ix_s, ix_z, st_s, st_z, fl_s, fl_z, fl1_s, fl1_z, map_s, map_z, true_and])
    all_goals first
      | exact b1 (by simp [*])
      | skip
  simp only [u_spec_l16Shape_j3]
  cases hsp : spB k n s c
  · repeat' (first | (with_reducible refine jn_in ?_) | (with_reducible refine cl_ok (by assumption) rfl ?_) | (with_reducible refine cl_okP (by assumption) rfl ?_) | (with_reducible refine br_if (fun hbr => ?_) (fun hbr => ?_)) | (with_reducible refine br_ifn (fun hbr => ?_) (fun hbr => ?_)) | (with_reducible refine br_nb (fun hbr => ?_) (fun hbr => ?_)) | (with_reducible refine br_b (fun hbr => ?_) (fun hbr => ?_)) | simp (disch := first | omega | (simp only [List.length_take, List.length_drop, List.length_append, List.map_cons, List.map_nil, List.length_map, List.length_cons, List.length_nil, List.length_set, List.length_replicate]; omega) | (simp only [List.length_cons, List.length_nil, Nat.zero_add, Nat.reduceAdd])) only [go_sem, ↓reduceIte, Nat.reduceAdd, Int.reduceNeg, Int.reduceAdd, Int.reduceSub, Int.reduceMul, Int.reduceLT, Int.reduceLE, Int.reduceEq, Int.reduceToNat, Nat.reduceBEq, e_sle, e_sge, e_shl1, e_orI, e_andI, e_shr, wrapu, wrap8, tn1, nat1, ix_s, ix_z, st_s, st_z, fl_s, fl_z, fl1_s, fl1_z, map_s, map_z, true_and])
    rfl
  have hbd := spB_bd hsp
  rw [Bool.true_and]
  simp (disch := first | omega | (simp only [List.length_take, List.length_drop, List.length_append, List.map_cons, List.map_nil, List.length_map, List.length_cons, List.length_nil, List.length_set, List.length_replicate]; omega) | (simp only [List.length_cons, List.length_nil, Nat.zero_add, Nat.reduceAdd])) only [go_sem, ↓reduceIte, Nat.reduceAdd, Int.reduceNeg, Int.reduceAdd, Int.reduceSub, Int.reduceMul, Int.reduceLT, Int.reduceLE, Int.reduceEq, Int.reduceToNat, Nat.reduceBEq, e_sle, e_sge, e_shl1, e_orI, e_andI, e_shr, wrapu, wrap8, tn1, nat1, ix_s, ix_z, st_s, st_z, fl_s, fl_z, fl1_s, fl1_z, map_s, map_z, true_and]
  refine br_if (fun h8 => ?_) (fun h8 => ?_)
  · have hl : labC k c L = (allB (labN L) L.length && decide (c = (L.length : Int) + 1)) := by subst h8; rfl
    rw [hl]
    simp (disch := first | omega | (simp only [List.length_take, List.length_drop, List.length_append, List.map_cons, List.map_nil, List.length_map, List.length_cons, List.length_nil, List.length_set, List.length_replicate]; omega) | (simp only [List.length_cons, List.length_nil, Nat.zero_add, Nat.reduceAdd])) only [go_sem, ↓reduceIte, Nat.reduceAdd, Int.reduceNeg, Int.reduceAdd, Int.reduceSub, Int.reduceMul, Int.reduceLT, Int.reduceLE, Int.reduceEq, Int.reduceToNat, Nat.reduceBEq, e_sle, e_sge, e_shl1, e_orI, e_andI, e_shr, wrapu, wrap8, tn1, nat1, ix_s, ix_z, st_s, st_z, fl_s, fl_z, fl1_s, fl1_z, map_s, map_z, true_and]
    refine lp (fun i : Nat => [.sc (.int .i64 i)]) (fun i => i ≤ L.length ∧ allB (labN L) i = true) (fun i => L.length - i) 0 rfl ⟨by omega, rfl⟩ ?_
    rintro i ⟨hi, hb⟩
    simp only [u_spec_l16Shape_l1]
    by_cases hlt : i < L.length
    · have hNi := hN i
      have hKi := hK (L.getD i default)
      repeat' (first | (with_reducible refine jn_in ?_) | (with_reducible refine cl_ok (by assumption) rfl ?_) | (with_reducible refine cl_okP (by assumption) rfl ?_) | (with_reducible refine br_if (fun hbr => ?_) (fun hbr => ?_)) | (with_reducible refine br_ifn (fun hbr => ?_) (fun hbr => ?_)) | (with_reducible refine br_nb (fun hbr => ?_) (fun hbr => ?_)) | (with_reducible refine br_b (fun hbr => ?_) (fun hbr => ?_)) | simp (disch := first | omega | (simp only [List.length_take, List.length_drop, List.length_append, List.map_cons, List.map_nil, List.length_map, List.length_cons, List.length_nil, List.length_set, List.length_replicate]; omega) | (simp only [List.length_cons, List.length_nil, Nat.zero_add, Nat.reduceAdd])) only [go_sem, ↓reduceIte, Nat.reduceAdd, Int.reduceNeg, Int.reduceAdd, Int.reduceSub, Int.reduceMul, Int.reduceLT, Int.reduceLE, Int.reduceEq, Int.reduceToNat, Nat.reduceBEq, e_sle, e_sge, e_shl1, e_orI, e_andI, e_shr, wrapu, wrap8, tn1, nat1, ix_s, ix_z, st_s, st_z, fl_s, fl_z, fl1_s, fl1_z, map_s, map_z, u_spec_l16Shape_j0])
      all_goals first
        | omega
        | exact ret_b (by rw [allB_no hlt (by (first | (simp [-List.getD_eq_getElem?_getD, labN, *]; done) | (simp_all [-List.getD_eq_getElem?_getD, labN]; done) | (simp [-List.getD_eq_getElem?_getD, labN, *]; omega) | (simp_all [-List.getD_eq_getElem?_getD, labN]; omega) | omega)), Bool.false_and])
        | exact ret_b (by rw [decide_eq_false (p := c = ((L.length + 1 : Nat) : Int)) (by omega), Bool.and_false])
        | exact ⟨i + 1, rfl, ⟨by omega, allB_step hb (by (first | (simp [-List.getD_eq_getElem?_getD, labN, *]; done) | (simp_all [-List.getD_eq_getElem?_getD, labN]; done) | (simp [-List.getD_eq_getElem?_getD, labN, *]; omega) | (simp_all [-List.getD_eq_getElem?_getD, labN]; omega) | omega))⟩, by omega⟩
        | skip
    · obtain rfl : i = L.length := by omega
      repeat' (first | (with_reducible refine jn_in ?_) | (with_reducible refine cl_ok (by assumption) rfl ?_) | (with_reducible refine cl_okP (by assumption) rfl ?_) | (with_reducible refine br_if (fun hbr => ?_) (fun hbr => ?_)) | (with_reducible refine br_ifn (fun hbr => ?_) (fun hbr => ?_)) | (with_reducible refine br_nb (fun hbr => ?_) (fun hbr => ?_)) | (with_reducible refine br_b (fun hbr => ?_) (fun hbr => ?_)) | simp (disch := first | omega | (simp only [List.length_take, List.length_drop, List.length_append, List.map_cons, List.map_nil, List.length_map, List.length_cons, List.length_nil, List.length_set, List.length_replicate]; omega) | (simp only [List.length_cons, List.length_nil, Nat.zero_add, Nat.reduceAdd])) only [go_sem, ↓reduceIte, Nat.reduceAdd, Int.reduceNeg, Int.reduceAdd, Int.reduceSub, Int.reduceMul, Int.reduceLT, Int.reduceLE, Int.reduceEq, Int.reduceToNat, Nat.reduceBEq, e_sle, e_sge, e_shl1, e_orI, e_andI, e_shr, wrapu, wrap8, tn1, nat1, ix_s, ix_z, st_s, st_z, fl_s, fl_z, fl1_s, fl1_z, map_s, map_z, true_and])
      all_goals first | omega | exact ret_b (by rw [hb, Bool.true_and]) | skip
  simp (disch := first | omega | (simp only [List.length_take, List.length_drop, List.length_append, List.map_cons, List.map_nil, List.length_map, List.length_cons, List.length_nil, List.length_set, List.length_replicate]; omega) | (simp only [List.length_cons, List.length_nil, Nat.zero_add, Nat.reduceAdd])) only [go_sem, ↓reduceIte, Nat.reduceAdd, Int.reduceNeg, Int.reduceAdd, Int.reduceSub, Int.reduceMul, Int.reduceLT, Int.reduceLE, Int.reduceEq, Int.reduceToNat, Nat.reduceBEq, e_sle, e_sge, e_shl1, e_orI, e_andI, e_shr, wrapu, wrap8, tn1, nat1, ix_s, ix_z, st_s, st_z, fl_s, fl_z, fl1_s, fl1_z, map_s, map_z, true_and]
  refine br_if (fun h9 => ?_) (fun h9 => ?_)
  · have hl : labC k c L = (allB (labS L) L.length && decide (c = (L.length : Int) + 1)) := by subst h9; rfl
    rw [hl]
    simp (disch := first | omega | (simp only [List.length_take, List.length_drop, List.length_append, List.map_cons, List.map_nil, List.length_map, List.length_cons, List.length_nil, List.length_set, List.length_replicate]; omega) | (simp only [List.length_cons, List.length_nil, Nat.zero_add, Nat.reduceAdd])) only [go_sem, ↓reduceIte, Nat.reduceAdd, Int.reduceNeg, Int.reduceAdd, Int.reduceSub, Int.reduceMul, Int.reduceLT, Int.reduceLE, Int.reduceEq, Int.reduceToNat, Nat.reduceBEq, e_sle, e_sge, e_shl1, e_orI, e_andI, e_shr, wrapu, wrap8, tn1, nat1, ix_s, ix_z, st_s, st_z, fl_s, fl_z, fl1_s, fl1_z, map_s, map_z, true_and]
    refine lp (fun i : Nat => [.sc (.int .i64 i)]) (fun i => i ≤ L.length ∧ allB (labS L) i = true) (fun i => L.length - i) 0 rfl ⟨by omega, rfl⟩ ?_
    rintro i ⟨hi, hb⟩
    simp only [u_spec_l16Shape_l2]
    by_cases hlt : i < L.length
    · repeat' (first | (with_reducible refine jn_in ?_) | (with_reducible refine cl_ok (by assumption) rfl ?_) | (with_reducible refine cl_okP (by assumption) rfl ?_) | (with_reducible refine br_if (fun hbr => ?_) (fun hbr => ?_)) | (with_reducible refine br_ifn (fun hbr => ?_) (fun hbr => ?_)) | (with_reducible refine br_nb (fun hbr => ?_) (fun hbr => ?_)) | (with_reducible refine br_b (fun hbr => ?_) (fun hbr => ?_)) | simp (disch := first | omega | (simp only [List.length_take, List.length_drop, List.length_append, List.map_cons, List.map_nil, List.length_map, List.length_cons, List.length_nil, List.length_set, List.length_replicate]; omega) | (simp only [List.length_cons, List.length_nil, Nat.zero_add, Nat.reduceAdd])) only [go_sem, ↓reduceIte, Nat.reduceAdd, Int.reduceNeg, Int.reduceAdd, Int.reduceSub, Int.reduceMul, Int.reduceLT, Int.reduceLE, Int.reduceEq, Int.reduceToNat, Nat.reduceBEq, e_sle, e_sge, e_shl1, e_orI, e_andI, e_shr, wrapu, wrap8, tn1, nat1, ix_s, ix_z, st_s, st_z, fl_s, fl_z, fl1_s, fl1_z, map_s, map_z, true_and])
      all_goals first
        | omega
        | exact ret_b (by rw [allB_no hlt (by (first | (simp [-List.getD_eq_getElem?_getD, labS, *]; done) | (simp_all [-List.getD_eq_getElem?_getD, labS]; done) | (simp [-List.getD_eq_getElem?_getD, labS, *]; omega) | (simp_all [-List.getD_eq_getElem?_getD, labS]; omega) | omega)), Bool.false_and])
        | exact ret_b (by rw [decide_eq_false (p := c = ((L.length + 1 : Nat) : Int)) (by omega), Bool.and_false])
        | exact ⟨i + 1, rfl, ⟨by omega, allB_step hb (by (first | (simp [-List.getD_eq_getElem?_getD, labS, *]; done) | (simp_all [-List.getD_eq_getElem?_getD, labS]; done) | (simp [-List.getD_eq_getElem?_getD, labS, *]; omega) | (simp_all [-List.getD_eq_getElem?_getD, labS]; omega) | omega))⟩, by omega⟩
        | skip
    · obtain rfl : i = L.length := by omega
      repeat' (first | (with_reducible refine jn_in ?_) | (with_reducible refine cl_ok (by assumption) rfl ?_) | (with_reducible refine cl_okP (by assumption) rfl ?_) | (with_reducible refine br_if (fun hbr => ?_) (fun hbr => ?_)) | (with_reducible refine br_ifn (fun hbr => ?_) (fun hbr => ?_)) | (with_reducible refine br_nb (fun hbr => ?_) (fun hbr => ?_)) | (with_reducible refine br_b (fun hbr => ?_) (fun hbr => ?_)) | simp (disch := first | omega | (simp only [List.length_take, List.length_drop, List.length_append, List.map_cons, List.map_nil, List.length_map, List.length_cons, List.length_nil, List.length_set, List.length_replicate]; omega) | (simp only [List.length_cons, List.length_nil, Nat.zero_add, Nat.reduceAdd])) only [go_sem, ↓reduceIte, Nat.reduceAdd, Int.reduceNeg, Int.reduceAdd, Int.reduceSub, Int.reduceMul, Int.reduceLT, Int.reduceLE, Int.reduceEq, Int.reduceToNat, Nat.reduceBEq, e_sle, e_sge, e_shl1, e_orI, e_andI, e_shr, wrapu, wrap8, tn1, nat1, ix_s, ix_z, st_s, st_z, fl_s, fl_z, fl1_s, fl1_z, map_s, map_z, true_and])
      all_goals first | omega | exact ret_b (by rw [hb, Bool.true_and]) | skip
  have hl : labC k c L = (if k = 16 then decide (L.length = 0) && decide (2 ≤ c ∧ c ≤ 3)
      else if k = 26 then decide (L.length = 1) && decide (1 ≤ ((L.getD 0 default).size : Int) ∧ ((L.getD 0 default).size : Int) ≤ 60)
      else if k = 27 then decide (L.length = 1) && (nameB (L.getD 0 default) && nameB (L.getD 0 default ++ ⟨#[60, 45]⟩)) else decide (L.length = 0)) := by unfold labC; rw [if_neg h8, if_neg h9]
  rw [hl]
  simp (disch := first | omega | (simp only [List.length_take, List.length_drop, List.length_append, List.map_cons, List.map_nil, List.length_map, List.length_cons, List.length_nil, List.length_set, List.length_replicate]; omega) | (simp only [List.length_cons, List.length_nil, Nat.zero_add, Nat.reduceAdd])) only [go_sem, ↓reduceIte, Nat.reduceAdd, Int.reduceNeg, Int.reduceAdd, Int.reduceSub, Int.reduceMul, Int.reduceLT, Int.reduceLE, Int.reduceEq, Int.reduceToNat, Nat.reduceBEq, e_sle, e_sge, e_shl1, e_orI, e_andI, e_shr, wrapu, wrap8, tn1, nat1, ix_s, ix_z, st_s, st_z, fl_s, fl_z, fl1_s, fl1_z, map_s, map_z, true_and]
  refine br_if (fun h16 => ?_) (fun h16 => ?_)
  · rw [if_pos h16]
    repeat' (first | (with_reducible refine jn_in ?_) | (with_reducible refine cl_ok (by assumption) rfl ?_) | (with_reducible refine cl_okP (by assumption) rfl ?_) | (with_reducible refine br_if (fun hbr => ?_) (fun hbr => ?_)) | (with_reducible refine br_ifn (fun hbr => ?_) (fun hbr => ?_)) | (with_reducible refine br_nb (fun hbr => ?_) (fun hbr => ?_)) | (with_reducible refine br_b (fun hbr => ?_) (fun hbr => ?_)) | simp (disch := first | omega | (simp only [List.length_take, List.length_drop, List.length_append, List.map_cons, List.map_nil, List.length_map, List.length_cons, List.length_nil, List.length_set, List.length_replicate]; omega) | (simp only [List.length_cons, List.length_nil, Nat.zero_add, Nat.reduceAdd])) only [go_sem, ↓reduceIte, Nat.reduceAdd, Int.reduceNeg, Int.reduceAdd, Int.reduceSub, Int.reduceMul, Int.reduceLT, Int.reduceLE, Int.reduceEq, Int.reduceToNat, Nat.reduceBEq, e_sle, e_sge, e_shl1, e_orI, e_andI, e_shr, wrapu, wrap8, tn1, nat1, ix_s, ix_z, st_s, st_z, fl_s, fl_z, fl1_s, fl1_z, map_s, map_z, true_and])
    all_goals first
      | omega
      | exact ret_b (by rw [decide_eq_true (p := L.length = 0) (by omega), Bool.true_and])
      | exact ret_b (by rw [decide_eq_false (p := L.length = 0) (by omega), Bool.false_and])
      | skip
  rw [if_neg h16]
  simp (disch := first | omega | (simp only [List.length_take, List.length_drop, List.length_append, List.map_cons, List.map_nil, List.length_map, List.length_cons, List.length_nil, List.length_set, List.length_replicate]; omega) | (simp only [List.length_cons, List.length_nil, Nat.zero_add, Nat.reduceAdd])) only [go_sem, ↓reduceIte, Nat.reduceAdd, Int.reduceNeg, Int.reduceAdd, Int.reduceSub, Int.reduceMul, Int.reduceLT, Int.reduceLE, Int.reduceEq, Int.reduceToNat, Nat.reduceBEq, e_sle, e_sge, e_shl1, e_orI, e_andI, e_shr, wrapu, wrap8, tn1, nat1, ix_s, ix_z, st_s, st_z, fl_s, fl_z, fl1_s, fl1_z, map_s, map_z, true_and]
  refine br_if (fun h26 => ?_) (fun h26 => ?_)
  · rw [if_pos h26]
    repeat' (first | (with_reducible refine jn_in ?_) | (with_reducible refine cl_ok (by assumption) rfl ?_) | (with_reducible refine cl_okP (by assumption) rfl ?_) | (with_reducible refine br_if (fun hbr => ?_) (fun hbr => ?_)) | (with_reducible refine br_ifn (fun hbr => ?_) (fun hbr => ?_)) | (with_reducible refine br_nb (fun hbr => ?_) (fun hbr => ?_)) | (with_reducible refine br_b (fun hbr => ?_) (fun hbr => ?_)) | simp (disch := first | omega | (simp only [List.length_take, List.length_drop, List.length_append, List.map_cons, List.map_nil, List.length_map, List.length_cons, List.length_nil, List.length_set, List.length_replicate]; omega) | (simp only [List.length_cons, List.length_nil, Nat.zero_add, Nat.reduceAdd])) only [go_sem, ↓reduceIte, Nat.reduceAdd, Int.reduceNeg, Int.reduceAdd, Int.reduceSub, Int.reduceMul, Int.reduceLT, Int.reduceLE, Int.reduceEq, Int.reduceToNat, Nat.reduceBEq, e_sle, e_sge, e_shl1, e_orI, e_andI, e_shr, wrapu, wrap8, tn1, nat1, ix_s, ix_z, st_s, st_z, fl_s, fl_z, fl1_s, fl1_z, map_s, map_z, Int.toNat_zero])
    all_goals first
      | omega
      | exact ret_b (by rw [decide_eq_true (p := L.length = 1) (by omega), Bool.true_and])
      | exact ret_b (by rw [decide_eq_false (p := L.length = 1) (by omega), Bool.false_and])
      | skip
  rw [if_neg h26]
  simp (disch := first | omega | (simp only [List.length_take, List.length_drop, List.length_append, List.map_cons, List.map_nil, List.length_map, List.length_cons, List.length_nil, List.length_set, List.length_replicate]; omega) | (simp only [List.length_cons, List.length_nil, Nat.zero_add, Nat.reduceAdd])) only [go_sem, ↓reduceIte, Nat.reduceAdd, Int.reduceNeg, Int.reduceAdd, Int.reduceSub, Int.reduceMul, Int.reduceLT, Int.reduceLE, Int.reduceEq, Int.reduceToNat, Nat.reduceBEq, e_sle, e_sge, e_shl1, e_orI, e_andI, e_shr, wrapu, wrap8, tn1, nat1, ix_s, ix_z, st_s, st_z, fl_s, fl_z, fl1_s, fl1_z, map_s, map_z, true_and]
  refine br_if (fun h27 => ?_) (fun h27 => ?_)
  · rw [if_pos h27]
    have hN0 := hN 0
    have h0s := getD_le hs 0
    have e1 : (L.getD 0 default).size + (⟨#[60, 45]⟩ : ByteArray).size ≤ maxLen := by show _ + 2 ≤ _; unfold maxLen; omega
    repeat' (first | (with_reducible refine jn_in ?_) | (with_reducible refine cl_ok (by assumption) rfl ?_) | (with_reducible refine cl_okP (by assumption) rfl ?_) | (with_reducible refine br_if (fun hbr => ?_) (fun hbr => ?_)) | (with_reducible refine br_ifn (fun hbr => ?_) (fun hbr => ?_)) | (with_reducible refine br_nb (fun hbr => ?_) (fun hbr => ?_)) | (with_reducible refine br_b (fun hbr => ?_) (fun hbr => ?_)) | simp (disch := first | omega | (simp only [List.length_take, List.length_drop, List.length_append, List.map_cons, List.map_nil, List.length_map, List.length_cons, List.length_nil, List.length_set, List.length_replicate]; omega) | (simp only [List.length_cons, List.length_nil, Nat.zero_add, Nat.reduceAdd])) only [go_sem, ↓reduceIte, Nat.reduceAdd, Int.reduceNeg, Int.reduceAdd, Int.reduceSub, Int.reduceMul, Int.reduceLT, Int.reduceLE, Int.reduceEq, Int.reduceToNat, Nat.reduceBEq, e_sle, e_sge, e_shl1, e_orI, e_andI, e_shr, wrapu, wrap8, tn1, nat1, ix_s, ix_z, st_s, st_z, fl_s, fl_z, fl1_s, fl1_z, map_s, map_z, Int.toNat_zero, e_cat e1])
    all_goals first
      | omega
      | exact ret_b (by rw [decide_eq_false (by omega), Bool.false_and])
      | exact ret_b (by rw [decide_eq_true (by omega), Bool.true_and]; simp [-List.getD_eq_getElem?_getD, *]; done)
      | skip
  rw [if_neg h27]
  repeat' (first | (with_reducible refine jn_in ?_) | (with_reducible refine cl_ok (by assumption) rfl ?_) | (with_reducible refine cl_okP (by assumption) rfl ?_) | (with_reducible refine br_if (fun hbr => ?_) (fun hbr => ?_)) | (with_reducible refine br_ifn (fun hbr => ?_) (fun hbr => ?_)) | (with_reducible refine br_nb (fun hbr => ?_) (fun hbr => ?_)) | (with_reducible refine br_b (fun hbr => ?_) (fun hbr => ?_)) | simp (disch := first | omega | (simp only [List.length_take, List.length_drop, List.length_append, List.map_cons, List.map_nil, List.length_map, List.length_cons, List.length_nil, List.length_set, List.length_replicate]; omega) | (simp only [List.length_cons, List.length_nil, Nat.zero_add, Nat.reduceAdd])) only [go_sem, ↓reduceIte, Nat.reduceAdd, Int.reduceNeg, Int.reduceAdd, Int.reduceSub, Int.reduceMul, Int.reduceLT, Int.reduceLE, Int.reduceEq, Int.reduceToNat, Nat.reduceBEq, e_sle, e_sge, e_shl1, e_orI, e_andI, e_shr, wrapu, wrap8, tn1, nat1, ix_s, ix_z, st_s, st_z, fl_s, fl_z, fl1_s, fl1_z, map_s, map_z, true_and])
  exact ret_b (by rw [decide_eq_decide]; omega)
end Go.Proofs.Ytkcljmgjbjdccaa

