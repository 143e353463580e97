/- Weights: what the laws' sz functions reckon. No program here. -/
import Derived.Test.YtolkglnkdfcceaaLay
import Derived.Test.YtolkglnkdfcceaaProg
import Derived.Laws.ResultCell
import Derived.Test.YtolkglnkdfcceaaIn
import Derived.Deep.RegionWith
namespace Go.Proofs.Ytolkglnkdfcceaa
open Go.RowKit
set_option linter.unusedVariables false
set_option linter.unusedSimpArgs false

def sumBy {α : Type} (f : α → Nat) (l : List α) : Nat := (l.map f).sum
theorem sumBy_take {α : Type} (f : α → Nat) (l : List α) {k : Nat} {x : α} (h : l[k]? = some x) : sumBy f (l.take (k + 1)) = sumBy f (l.take k) + f x := by
  obtain ⟨hk, rfl⟩ := List.getElem?_eq_some_iff.1 h
  unfold sumBy
  rw [List.take_succ_eq_append_getElem hk, List.map_append, List.sum_append]; simp
theorem sumBy_all {α : Type} (f : α → Nat) (l : List α) {k : Nat} (h : l.length ≤ k) : sumBy f (l.take k) = sumBy f l := by rw [List.take_of_length_le h]

theorem le_sumBy {α : Type} (f : α → Nat) {l : List α} {x : α} (h : x ∈ l) : f x ≤ sumBy f l := by
  induction l with
  | nil => cases h
  | cons a l ih =>
    have e : sumBy f (a :: l) = f a + sumBy f l := by simp [sumBy]
    rw [e]
    rcases List.mem_cons.1 h with rfl | h
    · omega
    · have := ih h; omega
/-- what is left: -1, or the number less the weight -/
def Left (left : Int) (wt : Nat) (e : Ending) : Prop := ∃ r : Int, e = .returned (.int .i64 r) ∧ (r = -1 ∨ (0 ≤ r ∧ r = left - wt))

def SzRel (left : Int) (n : Nat) (sz : Nat → Nat) (v1 v5 : Value) : Prop := ∃ (k : Nat) (r : Int), k ≤ n ∧ v5 = .int .i64 k ∧ v1 = .int .i64 r ∧ 0 ≤ r ∧ r = left - n - sz k

def SzRelW (left : Int) (n : Nat) (sz : Nat → Nat) (w : World) (v1 v5 : Value) (wr : World) : Prop := SzRel left n sz v1 v5 ∧ Below w.heap.size w wr

/-- behind k rounds of 'out[i] = ..' -/
def ToRel {α : Type} (L : Lay α) (t : TypeId) (x0 : α) (l : List α) (n : Nat) (w : World) (v4 : Value) (wr : World) : Prop :=
  ∃ (k : Nat) (es : List (Ent α)), k ≤ n ∧ v4 = .int .i64 k ∧ OwnN L wr w.heap.size t (.slice (some ⟨w.heap.size, 0, none⟩) n n) es ∧ es.map Ent.x = l.take k ++ List.replicate (n - k) x0 ∧ Below w.heap.size w wr

theorem to_start {α : Type} {L : Lay α} {t : TypeId} {x0 : α} {l : List α} {n : Nat} {w w1 : World} {z : Value} (hsz : z.cells.size = L.size)
    (h : w1.ownsRow w.heap.size t L.size (.slice (some ⟨w.heap.size, 0, none⟩) n n) n (madeCells z.cells (n * L.size)).toList) (hz : L.R w1 [] x0 z.cells.toList) (hb : Below w.heap.size w w1) :
    ToRel L t x0 l n w (.int .i64 0) w1 :=
  ⟨0, _, Nat.zero_le _, rfl, OwnN.made hsz h hz, by simp, hb⟩

theorem to_step {α : Type} {L : Lay α} {t : TypeId} {x0 : α} {l : List α} {n k : Nat} {w wr w2 : World} {es : List (Ent α)} {e' : Ent α} (hl : l.length = n) (hk : k < n) (hx : l[k]? = some e'.x)
    (hown : OwnN L wr w.heap.size t (.slice (some ⟨w.heap.size, 0, none⟩) n n) es) (hes : es.map Ent.x = l.take k ++ List.replicate (n - k) x0) (hb : Below w.heap.size w wr)
    (hb2 : Below wr.heap.size wr w2) (hR : L.R w2 e'.f e'.x e'.c) (hO : Ow w2 wr.heap.size e'.f) :
    ToRel L t x0 l n w (.int .i64 ((k : Int) + 1)) (w2.setCells w.heap.size (k * L.size) e'.c) := by
  have hlen : es.length = n := by
    have := congrArg List.length hes
    simp only [List.length_map, List.length_append, List.length_take, List.length_replicate] at this
    omega
  have hg : w.heap.size < wr.heap.size := (own_blk hown.1 rfl).2
  obtain ⟨k1, k2⟩ := OwnN.store (i := k) (hown.keep hb2) hlen hk hR (hO.lo hb.size) (fun b hbm => ⟨by have := (hO.2 b hbm).1; omega, fun hm => by have h1 := hown.2.2.1.lt b hm; have := (hO.2 b hbm).1; omega⟩)
  refine ⟨k + 1, _, hk, rfl, k1, ?_, (hb.trans (hb2.mono hb.size)).grown k2 (by have := hb2.size; omega) (fun g hg => by injection hg with hg; omega)⟩
  rw [List.map_set, hes, take_rep_set hl hx]

theorem to_end {α : Type} {L : Lay α} {t : TypeId} {x0 : α} {l : List α} {n : Nat} {w wr : World} {k : Nat} {es : List (Ent α)} (hl : l.length = n) (hk : ¬ k < n) (hk' : k ≤ n)
    (hown : OwnN L wr w.heap.size t (.slice (some ⟨w.heap.size, 0, none⟩) n n) es) (hes : es.map Ent.x = l.take k ++ List.replicate (n - k) x0) (hb : Below w.heap.size w wr) :
    RetOwn L t w l (.returned (.slice (some ⟨w.heap.size, 0, none⟩) n n)) wr := by
  obtain rfl : k = n := by omega
  refine ⟨_, es, rfl, hown, ?_, hb⟩
  rw [hes, Nat.sub_self, List.replicate_zero, List.append_nil, List.take_of_length_le (by omega)]

theorem own_len {α : Type} {L : Lay α} {w : World} {base : Nat} {t : TypeId} {A : Option Addr} {n c : Nat} {es : List (Ent α)} (h : OwnN L w base t (.slice A n c) es) : es.length = n := by
  obtain ⟨A', c', hv, _, _⟩ := own_shape h.1
  injection hv with _ h2 _; exact h2.symm

theorem own_cell {α : Type} {L : Lay α} {w : World} {base g n c : Nat} {t : TypeId} {es : List (Ent α)} (h : OwnN L w base t (.slice (some ⟨g, 0, none⟩) n c) es) {o : Nat} (ho : o < n * L.size) :
    ∃ u, w.cell? ⟨g, o, none⟩ = some u := by
  have hl := own_len h
  have h1 := h.1
  rw [hl] at h1
  have := h1.cellAt o ho
  rw [List.getElem?_eq_getElem (by rw [flat_len (fun e he => L.len (h.2.1 e he)), hl]; exact ho)] at this
  exact ⟨_, this⟩

theorem own_frozen {α : Type} {L : Lay α} {w : World} {base g n c : Nat} {t : TypeId} {es : List (Ent α)} (h : OwnN L w base t (.slice (some ⟨g, 0, none⟩) n c) es) (o : Nat) :
    w.frozen? ⟨g, o, none⟩ = false := by
  have hl := own_len h
  have h1 := h.1
  rw [hl] at h1
  exact h1.frozenAt o

end Go.Proofs.Ytolkglnkdfcceaa

/- Numbers: plain functions and facts. No program here. -/
namespace Go.Proofs.Ytolkglnkdfcceaa
set_option linter.unusedVariables false
set_option linter.unusedSimpArgs false

structure It where
  num : Int
  den : Int
  text : ByteArray
  deriving DecidableEq

/-- the missing value -/
def it0 : It := ⟨0, 0, ByteArray.empty⟩

def numB (x : It) : Bool := decide (x.text = ByteArray.empty) && (decide (1 ≤ x.den ∧ x.den ≤ 999999999) && (decide (-999999999 ≤ x.num ∧ x.num ≤ 999999999) && decide (Int.gcd x.num x.den = 1)))

def lim (n : Int) : Prop := -4000000000000000000 ≤ n ∧ n ≤ 4000000000000000000
instance (n : Int) : Decidable (lim n) := inferInstanceAs (Decidable (_ ∧ _))

/-- n / d in lowest terms, d not 0 -/
def redN (n d : Int) : It := ⟨(if d < 0 then -n else n) / (Int.gcd n d : Int), (if d < 0 then -d else d) / (Int.gcd n d : Int), ByteArray.empty⟩
def mkN (n d : Int) : It := if d = 0 ∨ ¬ lim n ∨ ¬ lim d then it0 else if numB (redN n d) = true then redN n d else it0

def addN (x y : It) : It := if (numB x && numB y) = true then mkN (x.num * y.den + y.num * x.den) (x.den * y.den) else it0
def negN (x : It) : It := if numB x = true then ⟨-x.num, x.den, ByteArray.empty⟩ else it0
def subN (x y : It) : It := addN x (negN y)
def mulN (x y : It) : It := if (numB x && numB y) = true then mkN (x.num * y.num) (x.den * y.den) else it0
def divN (x y : It) : It := if (numB x && numB y) = true then mkN (x.num * y.den) (x.den * y.num) else it0

theorem numB_it0 : numB it0 = false := by decide

theorem numB_iff {x : It} : numB x = true ↔ x.text = ByteArray.empty ∧ (1 ≤ x.den ∧ x.den ≤ 999999999) ∧ (-999999999 ≤ x.num ∧ x.num ≤ 999999999) ∧ Int.gcd x.num x.den = 1 := by
  simp [numB]

theorem mkN_zero (n : Int) : mkN n 0 = it0 := by simp [mkN]
theorem mkN_neg {n d : Int} (h : d = 0 ∨ ¬ lim n ∨ ¬ lim d) : mkN n d = it0 := by unfold mkN; rw [if_pos h]
theorem mkN_pos {n d : Int} (h0 : d ≠ 0) (h1 : lim n) (h2 : lim d) : mkN n d = if numB (redN n d) = true then redN n d else it0 := by
  unfold mkN; rw [if_neg (by simp [h0, h1, h2])]

theorem gcd_pos {n d : Int} (h : d ≠ 0) : 1 ≤ (Int.gcd n d : Int) ∧ (Int.gcd n d : Int) ∣ n ∧ (Int.gcd n d : Int) ∣ d := by
  refine ⟨?_, Int.gcd_dvd_left .., Int.gcd_dvd_right ..⟩
  have : 0 < Int.gcd n d := Nat.pos_of_ne_zero (fun e => h (Int.eq_zero_of_gcd_eq_zero_right e))
  omega

/-- the reduced fraction has no common divisor -/
theorem redN_gcd {n d : Int} (h : d ≠ 0) : Int.gcd (redN n d).num (redN n d).den = 1 := by
  obtain ⟨h1, h2, h3⟩ := gcd_pos (n := n) h
  have hg : 0 < Int.gcd n d := by omega
  have key : Int.gcd (n / (Int.gcd n d : Int)) (d / (Int.gcd n d : Int)) = 1 := by
    have := Int.gcd_ediv_gcd_ediv_gcd (i := n) (j := d) hg
    exact this
  unfold redN
  simp only
  split
  · rw [Int.neg_ediv_of_dvd h2, Int.neg_ediv_of_dvd h3, Int.neg_gcd, Int.gcd_neg]; exact key
  · exact key

theorem redN_den {n d : Int} (h : d ≠ 0) : 1 ≤ (redN n d).den := by
  obtain ⟨h1, h2, h3⟩ := gcd_pos (n := n) h
  unfold redN
  simp only
  have hd : (Int.gcd n d : Int) ∣ (if d < 0 then -d else d) := by
    split
    · exact (Int.dvd_neg).2 h3
    · exact h3
  have hp : 0 < (if d < 0 then -d else d) := by split <;> omega
  obtain ⟨q, hq⟩ := hd
  rw [hq, Int.mul_ediv_cancel_left _ (by omega)]
  rw [hq] at hp
  have := Int.pos_of_mul_pos_right hp (by omega)
  omega

/-- what is asked of a reduced fraction is its size alone -/
theorem numB_redN {n d : Int} (h : d ≠ 0) : numB (redN n d) = decide (-999999999 ≤ (redN n d).num ∧ (redN n d).num ≤ 999999999 ∧ (redN n d).den ≤ 999999999) := by
  have h1 := redN_gcd (n := n) h
  have h2 := redN_den (n := n) h
  rw [Bool.eq_iff_iff, numB_iff, decide_eq_true_iff]
  constructor
  · rintro ⟨_, ⟨_, a⟩, ⟨b, c⟩, _⟩; exact ⟨b, c, a⟩
  · rintro ⟨a, b, c⟩; exact ⟨rfl, ⟨h2, c⟩, ⟨a, b⟩, h1⟩

theorem tdiv_exact {n g : Int} (h : g ∣ n) : n.tdiv g = n / g := Int.tdiv_eq_ediv_of_dvd h

theorem mkN_numB (n d : Int) : mkN n d = it0 ∨ numB (mkN n d) = true := by
  unfold mkN
  split
  · exact .inl rfl
  · split
    · next h => exact .inr h
    · exact .inl rfl

theorem mul_lim {a b : Int} (h1 : -999999999 ≤ a ∧ a ≤ 999999999) (h2 : -999999999 ≤ b ∧ b ≤ 999999999) : -999999998000000001 ≤ a * b ∧ a * b ≤ 999999998000000001 := by
  have ha : a.natAbs ≤ 999999999 := by omega
  have hb : b.natAbs ≤ 999999999 := by omega
  have := Nat.mul_le_mul ha hb
  rw [← Int.natAbs_mul] at this
  omega

theorem nat_gcd_step (x y : Nat) : Nat.gcd y (x % y) = Nat.gcd x y := by
  rw [Nat.gcd_comm x y, Nat.gcd_rec y x, Nat.gcd_comm]
end Go.Proofs.Ytolkglnkdfcceaa

/- Items in memory; laws.szItem, szItemS, toItem, toItemS, eqItem, eqItemS. -/
namespace Go.Proofs.Ytolkglnkdfcceaa
open Go.RowKit
set_option linter.unusedVariables false
set_option linter.unusedSimpArgs false

abbrev itVal (x : It) : Value := .agg #[.int .i64 x.num, .int .i64 x.den, .string x.text]
def itCells (x : It) : List Value := [.int .i64 x.num, .int .i64 x.den, .string x.text]
def ItOk (x : It) : Prop := In64 x.num ∧ In64 x.den ∧ x.text.size ≤ maxLen

def Lay.item : Lay It where
  size := 3
  R := fun w f x c => f = [] ∧ c = itCells x ∧ ItOk x
  pos := by decide
  len := by rintro w f x c ⟨_, rfl, _⟩; rfl
  one := by rintro w f x c ⟨_, rfl, _⟩ u hu; simp [itCells] at hu; rcases hu with rfl | rfl | rfl <;> rfl
  keep := by rintro w w' f x c h hk; exact h
  lt := by rintro w f x c ⟨rfl, _⟩ b hb; cases hb

/-- element i of a slice of items -/
theorem SlR.itAt {w : World} {fp : List Nat} {xs : List It} {A : Option Addr} {n c : Nat} (h : SlR Lay.item w fp xs A n c) {i : Nat} (hi : i < n) :
    ∃ (b off : Nat) (x : It), A = some ⟨b, off, none⟩ ∧ xs[i]? = some x ∧ ItOk x ∧ b ∈ fp ∧ w.cell? ⟨b, off + i * 3, none⟩ = some (.int .i64 x.num) ∧ w.cell? ⟨b, off + i * 3 + 1, none⟩ = some (.int .i64 x.den) ∧ w.cell? ⟨b, off + i * 3 + 2, none⟩ = some (.string x.text) := by
  obtain ⟨b, off, x, f, cs, h1, h2, -, h4, ⟨-, rfl, h5⟩, h6⟩ := h.at_ hi
  simp only [Lay.item] at h6
  exact ⟨b, off, x, h1, h2, h5, h4, h6 0 _ rfl, h6 1 _ rfl, h6 2 _ rfl⟩

def wtItem (x : It) : Nat := x.text.size
def wtItems (l : List It) : Nat := l.length + sumBy wtItem l
theorem wtItems_le {l : List It} {M : Nat} (h : wtItems l ≤ M) : l.length ≤ M ∧ ∀ x ∈ l, x.text.size ≤ M := by
  unfold wtItems at h
  refine ⟨by omega, fun x hx => ?_⟩
  have h2 : x.text.size ≤ sumBy wtItem l := le_sumBy wtItem hx
  omega

theorem Try.infoIt : (Try.prog.info? 33).map (fun i => (i.zero, i.size, i.bytes)) = some (some (.agg #[.int .i64 0, .int .i64 0, .string ByteArray.empty]), 3, 32) := by kernel_rfl

end Go.Proofs.Ytolkglnkdfcceaa

/- Numbers: contracts of impl.gcd, IsNumber, MakeNumber and the four operations, and of their fellows in spec. -/
namespace Go.Proofs.Ytolkglnkdfcceaa
open Go.RowKit
set_option linter.unusedVariables false
set_option linter.unusedSimpArgs false


def GcdRel (w : World) (G : Nat) (v0 v1 : Value) (wr : World) : Prop := ∃ x y m : Nat, (x : Int) ≤ 4000000000000000000 ∧ (y : Int) ≤ 4000000000000000000 ∧ v0 = .int .i64 x ∧ v1 = .int .i64 y ∧ Nat.gcd x y = G ∧ wr = w.drewN m

theorem gcd_start {a b : Int} {G : Nat} {p q : Int} {w : World} (h : Int.gcd a b = G) (h1 : p = a.natAbs) (h2 : q = b.natAbs) (hx : (a.natAbs : Int) ≤ 4000000000000000000) (hy : (b.natAbs : Int) ≤ 4000000000000000000) :
    GcdRel w G (.int .i64 p) (.int .i64 q) w :=
  ⟨a.natAbs, b.natAbs, 0, hx, hy, by rw [h1], by rw [h2], by rw [← h]; rfl, rfl⟩
theorem gcd_step {x y G : Nat} {w w' : World} (hx : (x : Int) ≤ 4000000000000000000) (hy : (y : Int) ≤ 4000000000000000000) (h0 : ¬ y = 0) (h : Nat.gcd x y = G) (hw : ∃ j, w' = w.drewN j) :
    GcdRel w G (.int .i64 y) (.int .i64 ((x : Int) % y)) w' := by
  obtain ⟨j, hj⟩ := hw
  have hr : x % y ≤ x := Nat.mod_le _ _
  exact ⟨y, x % y, j, hy, by omega, rfl, by rw [Int.natCast_emod], by rw [nat_gcd_step]; exact h, hj⟩

theorem abs_any (a : Int) (w : World) (ha : -9223372036854775807 ≤ a ∧ a ≤ 9223372036854775807) :
    Calls Try.prog 75 #[.int .i64 a] w fun e w' => e = .returned (.int .i64 (a.natAbs : Nat)) ∧ w = w' := by
  by_cases h : a < 0
  all_goals
    go_enter Try.func75, Try.ntmps75
    go_wp2
    go_ret
    exact ⟨ret_i (by omega), rfl⟩

theorem implGcd_any (a b : Int) (w : World) (ha : lim a) (hb : lim b) :
    Calls Try.prog 71 #[.int .i64 a, .int .i64 b] w fun e w' => e = .returned (.int .i64 (Int.gcd a b : Nat)) ∧ ∃ m, w' = w.drewN m := by
  unfold lim at ha hb
  generalize hG : Int.gcd a b = G
  have HG := Lib.hid hG; clear hG
  rcases (show (0 ≤ a ∧ 0 ≤ b) ∨ (0 ≤ a ∧ b < 0) ∨ (a < 0 ∧ 0 ≤ b) ∨ (a < 0 ∧ b < 0) from by omega) with ⟨h1, h2⟩ | ⟨h1, h2⟩ | ⟨h1, h2⟩ | ⟨h1, h2⟩
  all_goals
    go_enter Try.func71, Try.ntmps71
    go_wp2
    go_loopw [0, 1] (GcdRel w G) (fun _ b _ => (intOf b).toNat)
    case atStart => exact gcd_start HG.out (by omega) (by omega) (by omega) (by omega)
    case round =>
      obtain ⟨x, y, m, hx, hy, rfl, rfl, hg, rfl⟩ := hrel
      have HGG := Lib.hid hg; clear hg
      by_cases hy0 : y = 0
      · subst hy0
        have hb0 : (((0 : Nat) : Int) != 0) = false := by simp
        go_wp2
        go_ret
        exact ⟨ret_i (by have := HGG.out; rw [Nat.gcd_zero_right] at this; rw [this]), m, rfl⟩
      · have hb0 : ((y : Int) != 0) = true := by rw [bne_iff_ne]; omega
        have hr : x % y ≤ x := Nat.mod_le _ _
        have hr2 : x % y < y := Nat.mod_lt _ (by omega)
        go_wp2
        go_quiet (fail)
        go_wp2
        go_roundw
        case rel => exact gcd_step hx hy hy0 HGG.out (drewN2 _ _ _)
        case measure => simp [intOf]; omega

theorem specGcd_any (a b : Int) (w : World) (ha : lim a) (hb : lim b) :
    Calls Try.prog 72 #[.int .i64 a, .int .i64 b] w fun e w' => e = .returned (.int .i64 (Int.gcd a b : Nat)) ∧ ∃ m, w' = w.drewN m := by
  unfold lim at ha hb
  generalize hG : Int.gcd a b = G
  have HG := Lib.hid hG; clear hG
  rcases (show (0 ≤ a ∧ 0 ≤ b) ∨ (0 ≤ a ∧ b < 0) ∨ (a < 0 ∧ 0 ≤ b) ∨ (a < 0 ∧ b < 0) from by omega) with ⟨h1, h2⟩ | ⟨h1, h2⟩ | ⟨h1, h2⟩ | ⟨h1, h2⟩
  all_goals
    go_enter Try.func72, Try.ntmps72
    go_wp2_with fail
    refine (abs_any _ _ (by omega)).mono ?_
    rintro e w' ⟨rfl, rfl⟩
    go_wp2_with fail
    refine (abs_any _ _ (by omega)).mono ?_
    rintro e w' ⟨rfl, rfl⟩
    go_wp2_with fail
    go_loopw [5, 6] (GcdRel w G) (fun _ b _ => (intOf b).toNat)
    case atStart => exact gcd_start HG.out (by omega) (by omega) (by omega) (by omega)
    case round =>
      obtain ⟨x, y, m, hx, hy, rfl, rfl, hg, rfl⟩ := hrel
      have HGG := Lib.hid hg; clear hg
      by_cases hy0 : y = 0
      · subst hy0
        have hb0 : (((0 : Nat) : Int) != 0) = false := by simp
        go_wp2
        go_ret
        exact ⟨ret_i (by have := HGG.out; rw [Nat.gcd_zero_right] at this; rw [this]), m, rfl⟩
      · have hb0 : ((y : Int) != 0) = true := by rw [bne_iff_ne]; omega
        have hr : x % y ≤ x := Nat.mod_le _ _
        have hr2 : x % y < y := Nat.mod_lt _ (by omega)
        go_wp2
        go_roundw
        case rel => exact gcd_step hx hy hy0 HGG.out ⟨_, rfl⟩
        case measure => simp [intOf]; omega


theorem numB_false_text {x : It} (h : ¬ x.text = ByteArray.empty) : numB x = false := by simp [numB, h]
theorem numB_false_den {x : It} (h : ¬ (1 ≤ x.den ∧ x.den ≤ 999999999)) : numB x = false := by
  unfold numB; rw [decide_eq_false h]; simp
theorem numB_false_num {x : It} (h : ¬ (-999999999 ≤ x.num ∧ x.num ≤ 999999999)) : numB x = false := by
  unfold numB; rw [decide_eq_false h]; simp
theorem numB_gcd {x : It} (h0 : x.text = ByteArray.empty) (h1 : 1 ≤ x.den ∧ x.den ≤ 999999999) (h2 : -999999999 ≤ x.num ∧ x.num ≤ 999999999) : numB x = decide (((Int.gcd x.num x.den : Nat) : Int) = 1) := by
  unfold numB; rw [decide_eq_true h0, decide_eq_true h1, decide_eq_true h2]; simp; omega

theorem ba_nil {x : ByteArray} (h : ¬ x = ByteArray.empty) : ¬ x.toList = [] := by
  rw [ByteArray.toList_eq]
  intro e; apply h
  cases x with
  | mk d => simp at e; subst e; rfl

/-- the ways through a test 'is a number' -/
theorem num_ways (x : It) : (numB x = false ∧ ¬ x.text.toList = []) ∨ (numB x = false ∧ x.text = ByteArray.empty ∧ x.den < 1) ∨ (numB x = false ∧ x.text = ByteArray.empty ∧ 1 ≤ x.den ∧ 999999999 < x.den) ∨
    (numB x = false ∧ x.text = ByteArray.empty ∧ 1 ≤ x.den ∧ x.den ≤ 999999999 ∧ x.num < -999999999) ∨ (numB x = false ∧ x.text = ByteArray.empty ∧ 1 ≤ x.den ∧ x.den ≤ 999999999 ∧ -999999999 ≤ x.num ∧ 999999999 < x.num) ∨
    (numB x = decide (((Int.gcd x.num x.den : Nat) : Int) = 1) ∧ x.text = ByteArray.empty ∧ 1 ≤ x.den ∧ x.den ≤ 999999999 ∧ -999999999 ≤ x.num ∧ x.num ≤ 999999999) := by
  by_cases h0 : x.text = ByteArray.empty
  · by_cases h1 : 1 ≤ x.den
    · by_cases h2 : x.den ≤ 999999999
      · by_cases h3 : -999999999 ≤ x.num
        · by_cases h4 : x.num ≤ 999999999
          · exact .inr (.inr (.inr (.inr (.inr ⟨numB_gcd h0 ⟨h1, h2⟩ ⟨h3, h4⟩, h0, h1, h2, h3, h4⟩))))
          · exact .inr (.inr (.inr (.inr (.inl ⟨numB_false_num (by omega), h0, h1, h2, h3, by omega⟩))))
        · exact .inr (.inr (.inr (.inl ⟨numB_false_num (by omega), h0, h1, h2, by omega⟩)))
      · exact .inr (.inr (.inl ⟨numB_false_den (by omega), h0, h1, by omega⟩))
    · exact .inr (.inl ⟨numB_false_den (by omega), h0, by omega⟩)
  · exact .inl ⟨numB_false_text h0, ba_nil h0⟩

theorem implIsNum_any (x : It) (w : World) :
    Calls Try.prog 63 #[itVal x] w fun e w' => e = .returned (.bool (numB x)) ∧ Below w.heap.size w w' := by
  rcases num_ways x with ⟨h, h0⟩ | ⟨h, h0, h1⟩ | ⟨h, h0, h1, h2⟩ | ⟨h, h0, h1, h2, h3⟩ | ⟨h, h0, h1, h2, h3, h4⟩ | ⟨h, h0, h1, h2, h3, h4⟩
  all_goals
    have H := Lib.hid h; clear h
    obtain ⟨num, den, text⟩ := x
    simp only at *
    try subst h0
  iterate 5
    · go_enter Try.func63, Try.ntmps63
      go_wp2
      go_ret
      exact ⟨by rw [H.out]; rfl, (Below.refl _ _).alloc (Nat.le_refl _) _⟩
  go_enter Try.func63, Try.ntmps63
  go_wp2_with fail
  refine (implGcd_any _ _ _ (by unfold lim; omega) (by unfold lim; omega)).mono ?_
  rintro e w' ⟨rfl, m, rfl⟩
  go_wp2
  go_ret
  exact ⟨by rw [H.out]; rfl, below_drewN ((Below.refl _ _).alloc (Nat.le_refl _) _) m⟩

theorem specIsNum_any (x : It) (w : World) :
    Calls Try.prog 64 #[itVal x] w fun e w' => e = .returned (.bool (numB x)) ∧ Below w.heap.size w w' := by
  rcases num_ways x with ⟨h, h0⟩ | ⟨h, h0, h1⟩ | ⟨h, h0, h1, h2⟩ | ⟨h, h0, h1, h2, h3⟩ | ⟨h, h0, h1, h2, h3, h4⟩ | ⟨h, h0, h1, h2, h3, h4⟩
  all_goals
    have H := Lib.hid h; clear h
    obtain ⟨num, den, text⟩ := x
    simp only at *
    try subst h0
  · go_enter Try.func64, Try.ntmps64
    go_wp2
    go_ret
    exact ⟨by rw [H.out]; rfl, (Below.refl _ _).alloc (Nat.le_refl _) _⟩
  iterate 2
    · go_enter Try.func64, Try.ntmps64
      go_wp2_with (go_at_call 33; refine (in_b _ _ _ false _ (by simp; omega)).mono ?_; rintro e w' ⟨rfl, rfl⟩)
      go_ret
      exact ⟨by rw [H.out]; rfl, (Below.refl _ _).alloc (Nat.le_refl _) _⟩
  iterate 2
    · go_enter Try.func64, Try.ntmps64
      go_wp2_with fail
      refine (in_b _ _ _ true _ (by simp; omega)).mono ?_
      rintro e w' ⟨rfl, rfl⟩
      go_wp2_with fail
      refine (in_b _ _ _ false _ (by simp; omega)).mono ?_
      rintro e w' ⟨rfl, rfl⟩
      go_wp2
      go_ret
      exact ⟨by rw [H.out]; rfl, (Below.refl _ _).alloc (Nat.le_refl _) _⟩
  go_enter Try.func64, Try.ntmps64
  go_wp2_with (go_at_call 33; refine (in_b _ _ _ true _ (by simp; omega)).mono ?_; rintro e w' ⟨rfl, rfl⟩)
  refine (specGcd_any _ _ _ (by unfold lim; omega) (by unfold lim; omega)).mono ?_
  rintro e w' ⟨rfl, m, rfl⟩
  go_wp2
  go_ret
  exact ⟨by rw [H.out]; rfl, below_drewN ((Below.refl _ _).alloc (Nat.le_refl _) _) m⟩
end Go.Proofs.Ytolkglnkdfcceaa

/- impl.MakeNumber, spec.MakeNumber, and the four operations. -/
namespace Go.Proofs.Ytolkglnkdfcceaa
open Go.RowKit
set_option linter.unusedVariables false
set_option linter.unusedSimpArgs false

/-- a function returns a number -/
def RetIt (x : It) (w : World) (e : Ending) (w' : World) : Prop := e = .returned (itVal x) ∧ Below w.heap.size w w'

theorem make_ways (n d : Int) : (mkN n d = it0 ∧ d = 0) ∨ (mkN n d = it0 ∧ d ≠ 0 ∧ n < -4000000000000000000) ∨ (mkN n d = it0 ∧ d ≠ 0 ∧ -4000000000000000000 ≤ n ∧ 4000000000000000000 < n) ∨
    (mkN n d = it0 ∧ d ≠ 0 ∧ -4000000000000000000 ≤ n ∧ n ≤ 4000000000000000000 ∧ d < -4000000000000000000) ∨ (mkN n d = it0 ∧ d ≠ 0 ∧ -4000000000000000000 ≤ n ∧ n ≤ 4000000000000000000 ∧ -4000000000000000000 ≤ d ∧ 4000000000000000000 < d) ∨
    (mkN n d = (if numB (redN n d) = true then redN n d else it0) ∧ d ≠ 0 ∧ -4000000000000000000 ≤ n ∧ n ≤ 4000000000000000000 ∧ -4000000000000000000 ≤ d ∧ d ≤ 4000000000000000000) := by
  by_cases h0 : d = 0
  · exact .inl ⟨mkN_neg (.inl h0), h0⟩
  · by_cases h1 : -4000000000000000000 ≤ n
    · by_cases h2 : n ≤ 4000000000000000000
      · by_cases h3 : -4000000000000000000 ≤ d
        · by_cases h4 : d ≤ 4000000000000000000
          · exact .inr (.inr (.inr (.inr (.inr ⟨mkN_pos h0 ⟨h1, h2⟩ ⟨h3, h4⟩, h0, h1, h2, h3, h4⟩))))
          · exact .inr (.inr (.inr (.inr (.inl ⟨mkN_neg (.inr (.inr (by unfold lim; omega))), h0, h1, h2, h3, by omega⟩))))
        · exact .inr (.inr (.inr (.inl ⟨mkN_neg (.inr (.inr (by unfold lim; omega))), h0, h1, h2, by omega⟩)))
      · exact .inr (.inr (.inl ⟨mkN_neg (.inr (.inl (by unfold lim; omega))), h0, h1, by omega⟩))
    · exact .inr (.inl ⟨mkN_neg (.inr (.inl (by unfold lim; omega))), h0, by omega⟩)

theorem tdiv_bd {n g : Int} (h1 : -4000000000000000000 ≤ n) (h2 : n ≤ 4000000000000000000) (hg : 1 ≤ g) : -4000000000000000000 ≤ n.tdiv g ∧ n.tdiv g ≤ 4000000000000000000 := by
  have h : (n.tdiv g).natAbs ≤ n.natAbs := by rw [Int.natAbs_tdiv]; exact Nat.div_le_self _ _
  omega
theorem ediv_bd {n g : Int} (h1 : 0 ≤ n) (h2 : n ≤ 4000000000000000000) (hg : 1 ≤ g) : 0 ≤ n / g ∧ n / g ≤ 4000000000000000000 :=
  ⟨Int.ediv_nonneg h1 (by omega), Int.le_trans (Int.ediv_le_self _ h1) h2⟩

theorem red_neg {n d P Q : Int} (hd : d < 0) (h1 : -4000000000000000000 ≤ n) (h2 : n ≤ 4000000000000000000) (h3 : -4000000000000000000 ≤ d) (h4 : d ≤ 4000000000000000000)
    (hP : wrap64 (-n.tdiv (Int.gcd n d : Int)) = P) (hQ : wrap64 (-d.tdiv (Int.gcd n d : Int)) = Q) : redN n d = ⟨P, Q, ByteArray.empty⟩ := by
  obtain ⟨hg, hgn, hgd⟩ := gcd_pos (n := n) (d := d) (by omega)
  have b1 := tdiv_bd h1 h2 hg
  have b2 := tdiv_bd h3 h4 hg
  rw [IntWalk.wrap64_in _ ⟨by omega, by omega⟩] at hP hQ
  unfold redN
  rw [if_pos hd, if_pos hd, ← hP, ← hQ, tdiv_exact hgn, tdiv_exact hgd, Int.neg_ediv_of_dvd hgn, Int.neg_ediv_of_dvd hgd]
theorem red_pos {n d P Q : Int} (hd : 0 < d) (hP : n.tdiv (Int.gcd n d : Int) = P) (hQ : d / (Int.gcd n d : Int) = Q) : redN n d = ⟨P, Q, ByteArray.empty⟩ := by
  obtain ⟨hg, hgn, hgd⟩ := gcd_pos (n := n) (d := d) (by omega)
  unfold redN
  rw [if_neg (by omega), if_neg (by omega), ← hP, ← hQ, tdiv_exact hgn]

theorem implMake_any (n d : Int) (w : World) :
    Calls Try.prog 59 #[.int .i64 n, .int .i64 d] w (RetIt (mkN n d) w) := by
  rcases make_ways n d with ⟨h, h0⟩ | ⟨h, h0, h1⟩ | ⟨h, h0, h1, h2⟩ | ⟨h, h0, h1, h2, h3⟩ | ⟨h, h0, h1, h2, h3, h4⟩ | ⟨h, h0, h1, h2, h3, h4⟩
  · have H := Lib.hid h; clear h
    have b0 : (d == 0) = true := beq_iff_eq.2 h0
    clear h0
    go_enter Try.func59, Try.ntmps59
    go_wp2
    exact bodyPost_ret (v := itVal it0) (by simp [results, Try.results59, go_sem]; exact ⟨rfl, rfl, rfl⟩) rfl ⟨by rw [H.out], (Below.refl _ _).alloc (Nat.le_refl _) _⟩
  iterate 4
    · have H := Lib.hid h; clear h
      have b0 : (d == 0) = false := beq_eq_false_iff_ne.2 h0
      go_enter Try.func59, Try.ntmps59
      go_wp2
      exact bodyPost_ret (v := itVal it0) (by simp [results, Try.results59, go_sem]; exact ⟨rfl, rfl, rfl⟩) rfl ⟨by rw [H.out], (Below.refl _ _).alloc (Nat.le_refl _) _⟩
  have H := Lib.hid h; clear h
  have b0 : (d == 0) = false := beq_eq_false_iff_ne.2 h0
  obtain ⟨hg, hgn, hgd⟩ := gcd_pos (n := n) h0
  rcases (show d < 0 ∨ 0 < d from by omega) with hd | hd
  · have e1 := Lib.hid (show Int.gcd (-n) (-d) = Int.gcd n d from by rw [Int.neg_gcd, Int.gcd_neg])
    obtain ⟨P, hP⟩ : ∃ P, wrap64 (-n.tdiv (Int.gcd n d : Int)) = P := ⟨_, rfl⟩
    obtain ⟨Q, hQ⟩ : ∃ Q, wrap64 (-d.tdiv (Int.gcd n d : Int)) = Q := ⟨_, rfl⟩
    have e2 := Lib.hid (red_neg hd h1 h2 h3 h4 hP hQ)
    go_enter Try.func59, Try.ntmps59
    go_wp2_with fail
    refine (implGcd_any _ _ _ (by unfold lim; omega) (by unfold lim; omega)).mono ?_
    rw [e1.out]
    generalize hG : ((Int.gcd n d : Nat) : Int) = G at *
    clear hG
    rintro e w' ⟨rfl, m, rfl⟩
    go_wp2
    go_region
    go_wp2_with fail
    refine (implIsNum_any ⟨P, Q, ByteArray.empty⟩ _).mono ?_
    rintro e w1 ⟨rfl, hb⟩
    obtain ⟨hc, hf⟩ := bcell hb
    have hz : w.heap.size + 1 < w1.heap.size := by have := hb.size; simp at this; omega
    have g0 : w1.cell? ⟨w.heap.size, 0, none⟩ = some (.int .i64 0) := (hc _ _ (by simp <;> omega)).trans (by simp [go_sem])
    have g1 : w1.cell? ⟨w.heap.size, 1, none⟩ = some (.int .i64 0) := (hc _ _ (by simp <;> omega)).trans (by simp [go_sem])
    have g2 : w1.cell? ⟨w.heap.size, 2, none⟩ = some (.string ByteArray.empty) := (hc _ _ (by simp <;> omega)).trans (by simp [go_sem]; rfl)
    have HB := Lib.hid hb
    clear hb hP hQ hgn hgd
    by_cases hn : numB ⟨P, Q, ByteArray.empty⟩ = true
    · have HM := Lib.hid (show mkN n d = ⟨P, Q, ByteArray.empty⟩ from by rw [H.out, e2.out, if_pos hn])
      go_wp2
      refine bodyPost_ret (v := itVal ⟨P, Q, ByteArray.empty⟩) (by simp [results, Try.results59, go_sem, g0, g1, g2, hz]; rfl) rfl ⟨by rw [HM.out], ?_⟩
      repeat (refine Below.setCell ?_ (by simp <;> omega) _)
      exact ((below_drewN ((Below.refl _ _).alloc (Nat.le_refl _) _) _).alloc (by simp) _).trans (HB.out.mono (by simp; omega))
    · have hn : numB ⟨P, Q, ByteArray.empty⟩ = false := by simpa using hn
      have HM := Lib.hid (show mkN n d = it0 from by rw [H.out, e2.out, if_neg (by simp [hn])])
      go_wp2
      refine bodyPost_ret (v := itVal it0) (by simp [results, Try.results59, go_sem, g0, g1, g2, hz]; exact ⟨rfl, rfl, rfl⟩) rfl ⟨by rw [HM.out], ?_⟩
      repeat (refine Below.setCell ?_ (by simp <;> omega) _)
      exact ((below_drewN ((Below.refl _ _).alloc (Nat.le_refl _) _) _).alloc (by simp) _).trans (HB.out.mono (by simp; omega))
  · obtain ⟨P, hP⟩ : ∃ P, n.tdiv (Int.gcd n d : Int) = P := ⟨_, rfl⟩
    obtain ⟨Q, hQ⟩ : ∃ Q, d / (Int.gcd n d : Int) = Q := ⟨_, rfl⟩
    have e2 := Lib.hid (red_pos hd hP hQ)
    have hPb := tdiv_bd h1 h2 hg
    rw [hP] at hPb
    go_enter Try.func59, Try.ntmps59
    go_wp2_with fail
    refine (implGcd_any _ _ _ (by unfold lim; omega) (by unfold lim; omega)).mono ?_
    generalize hG : ((Int.gcd n d : Nat) : Int) = G at *
    clear hG
    rintro e w' ⟨rfl, m, rfl⟩
    go_wp2
    go_region
    go_wp2_with fail
    refine (implIsNum_any ⟨P, Q, ByteArray.empty⟩ _).mono ?_
    rintro e w1 ⟨rfl, hb⟩
    obtain ⟨hc, hf⟩ := bcell hb
    have hz : w.heap.size + 1 < w1.heap.size := by have := hb.size; simp at this; omega
    have g0 : w1.cell? ⟨w.heap.size, 0, none⟩ = some (.int .i64 0) := (hc _ _ (by simp <;> omega)).trans (by simp [go_sem])
    have g1 : w1.cell? ⟨w.heap.size, 1, none⟩ = some (.int .i64 0) := (hc _ _ (by simp <;> omega)).trans (by simp [go_sem])
    have g2 : w1.cell? ⟨w.heap.size, 2, none⟩ = some (.string ByteArray.empty) := (hc _ _ (by simp <;> omega)).trans (by simp [go_sem]; rfl)
    have HB := Lib.hid hb
    clear hb hP hQ hgn hgd
    by_cases hn : numB ⟨P, Q, ByteArray.empty⟩ = true
    · have HM := Lib.hid (show mkN n d = ⟨P, Q, ByteArray.empty⟩ from by rw [H.out, e2.out, if_pos hn])
      go_wp2
      refine bodyPost_ret (v := itVal ⟨P, Q, ByteArray.empty⟩) (by simp [results, Try.results59, go_sem, g0, g1, g2, hz]; rfl) rfl ⟨by rw [HM.out], ?_⟩
      repeat (refine Below.setCell ?_ (by simp <;> omega) _)
      exact ((below_drewN ((Below.refl _ _).alloc (Nat.le_refl _) _) _).alloc (by simp) _).trans (HB.out.mono (by simp; omega))
    · have hn : numB ⟨P, Q, ByteArray.empty⟩ = false := by simpa using hn
      have HM := Lib.hid (show mkN n d = it0 from by rw [H.out, e2.out, if_neg (by simp [hn])])
      go_wp2
      refine bodyPost_ret (v := itVal it0) (by simp [results, Try.results59, go_sem, g0, g1, g2, hz]; exact ⟨rfl, rfl, rfl⟩) rfl ⟨by rw [HM.out], ?_⟩
      repeat (refine Below.setCell ?_ (by simp <;> omega) _)
      exact ((below_drewN ((Below.refl _ _).alloc (Nat.le_refl _) _) _).alloc (by simp) _).trans (HB.out.mono (by simp; omega))

theorem gcd_le {n d : Int} (h0 : d ≠ 0) (h3 : -4000000000000000000 ≤ d) (h4 : d ≤ 4000000000000000000) : (Int.gcd n d : Int) ≤ 4000000000000000000 := by
  have h := Nat.le_of_dvd (by omega : 0 < d.natAbs) (Int.natAbs_dvd_natAbs.2 (Int.gcd_dvd_right (a := n) (b := d)))
  simp at h
  omega

set_option maxHeartbeats 1000000 in
theorem specMake_any (n d : Int) (w : World) :
    Calls Try.prog 65 #[.int .i64 n, .int .i64 d] w (RetIt (mkN n d) w) := by
  rcases make_ways n d with ⟨h, h0⟩ | ⟨h, h0, h1⟩ | ⟨h, h0, h1, h2⟩ | ⟨h, h0, h1, h2, h3⟩ | ⟨h, h0, h1, h2, h3, h4⟩ | ⟨h, h0, h1, h2, h3, h4⟩
  · have H := Lib.hid h; clear h
    have b0 : (d == 0) = true := beq_iff_eq.2 h0
    clear h0
    go_enter Try.func65, Try.ntmps65
    go_wp2_with fail
    exact bodyPost_ret (v := itVal it0) (by simp [results, Try.results65, go_sem]; exact ⟨rfl, rfl, rfl⟩) rfl ⟨by rw [H.out], (Below.refl _ _).alloc (Nat.le_refl _) _⟩
  iterate 2
    · have H := Lib.hid h; clear h
      have b0 : (d == 0) = false := beq_eq_false_iff_ne.2 h0
      go_enter Try.func65, Try.ntmps65
      go_wp2_with (go_at_call 33; refine (in_b _ _ _ false _ (by simp; omega)).mono ?_; rintro e w' ⟨rfl, rfl⟩)
      exact bodyPost_ret (v := itVal it0) (by simp [results, Try.results65, go_sem]; exact ⟨rfl, rfl, rfl⟩) rfl ⟨by rw [H.out], (Below.refl _ _).alloc (Nat.le_refl _) _⟩
  iterate 2
    · have H := Lib.hid h; clear h
      have b0 : (d == 0) = false := beq_eq_false_iff_ne.2 h0
      go_enter Try.func65, Try.ntmps65
      go_wp2_with fail
      refine (in_b _ _ _ true _ (by simp; omega)).mono ?_
      rintro e w' ⟨rfl, rfl⟩
      go_wp2_with fail
      refine (in_b _ _ _ false _ (by simp; omega)).mono ?_
      rintro e w' ⟨rfl, rfl⟩
      go_wp2
      exact bodyPost_ret (v := itVal it0) (by simp [results, Try.results65, go_sem]; exact ⟨rfl, rfl, rfl⟩) rfl ⟨by rw [H.out], (Below.refl _ _).alloc (Nat.le_refl _) _⟩
  have H := Lib.hid h; clear h
  have b0 : (d == 0) = false := beq_eq_false_iff_ne.2 h0
  obtain ⟨hg, hgn, hgd⟩ := gcd_pos (n := n) h0
  have N := Lib.hid (numB_redN (n := n) h0)
  have hgl := gcd_le (n := n) h0 h3 h4
  rcases (show d < 0 ∨ 0 < d from by omega) with hd | hd
  · obtain ⟨P, hP⟩ : ∃ P, wrap64 (-n.tdiv (Int.gcd n d : Int)) = P := ⟨_, rfl⟩
    obtain ⟨Q, hQ⟩ : ∃ Q, wrap64 (-d.tdiv (Int.gcd n d : Int)) = Q := ⟨_, rfl⟩
    have e2 := Lib.hid (red_neg hd h1 h2 h3 h4 hP hQ)
    go_enter Try.func65, Try.ntmps65
    go_wp2_with (go_at_call 33; refine (in_b _ _ _ true _ (by simp; omega)).mono ?_; rintro e w' ⟨rfl, rfl⟩)
    refine (specGcd_any _ _ _ (by unfold lim; omega) (by unfold lim; omega)).mono ?_
    generalize hG : ((Int.gcd n d : Nat) : Int) = G at *
    clear hG
    rintro e w' ⟨rfl, m, rfl⟩
    go_wp2
    go_region
    go_wp2_with fail
    by_cases c1 : -999999999 ≤ P ∧ P ≤ 999999999
    · refine (in_b _ _ _ true _ (by simp; omega)).mono ?_
      rintro e w' ⟨rfl, rfl⟩
      by_cases c2 : 999999999 < Q
      · have HM := Lib.hid (show mkN n d = it0 from by rw [H.out, if_neg (by rw [N.out, e2.out]; simp; omega)])
        clear hP hQ hgn hgd
        go_wp2
        refine bodyPost_ret (v := itVal it0) (by simp [results, Try.results65, go_sem]; exact ⟨rfl, rfl, rfl⟩) rfl ⟨by rw [HM.out], ?_⟩
        repeat (first | exact Below.refl _ _ | refine Below.setCell ?_ (by simp <;> omega) _ | refine Below.alloc ?_ (by simp <;> omega) _ | refine below_drewN ?_ _ | refine Below.drew ?_)
      · have HM := Lib.hid (show mkN n d = ⟨P, Q, ByteArray.empty⟩ from by rw [H.out, if_pos (by rw [N.out, e2.out]; simp; omega), e2.out])
        clear hP hQ hgn hgd
        go_wp2
        refine bodyPost_ret (v := itVal ⟨P, Q, ByteArray.empty⟩) (by simp [results, Try.results65, go_sem]; rfl) rfl ⟨by rw [HM.out], ?_⟩
        repeat (first | exact Below.refl _ _ | refine Below.setCell ?_ (by simp <;> omega) _ | refine Below.alloc ?_ (by simp <;> omega) _ | refine below_drewN ?_ _ | refine Below.drew ?_)
    · refine (in_b _ _ _ false _ (by simp; omega)).mono ?_
      rintro e w' ⟨rfl, rfl⟩
      have HM := Lib.hid (show mkN n d = it0 from by rw [H.out, if_neg (by rw [N.out, e2.out]; simp; omega)])
      clear hP hQ hgn hgd
      go_wp2
      refine bodyPost_ret (v := itVal it0) (by simp [results, Try.results65, go_sem]; exact ⟨rfl, rfl, rfl⟩) rfl ⟨by rw [HM.out], ?_⟩
      repeat (first | exact Below.refl _ _ | refine Below.setCell ?_ (by simp <;> omega) _ | refine Below.alloc ?_ (by simp <;> omega) _ | refine below_drewN ?_ _ | refine Below.drew ?_)
  · obtain ⟨P, hP⟩ : ∃ P, n.tdiv (Int.gcd n d : Int) = P := ⟨_, rfl⟩
    obtain ⟨Q, hQ⟩ : ∃ Q, d / (Int.gcd n d : Int) = Q := ⟨_, rfl⟩
    have e2 := Lib.hid (red_pos hd hP hQ)
    have hPb := tdiv_bd h1 h2 hg
    rw [hP] at hPb
    go_enter Try.func65, Try.ntmps65
    go_wp2_with (go_at_call 33; refine (in_b _ _ _ true _ (by simp; omega)).mono ?_; rintro e w' ⟨rfl, rfl⟩)
    refine (specGcd_any _ _ _ (by unfold lim; omega) (by unfold lim; omega)).mono ?_
    generalize hG : ((Int.gcd n d : Nat) : Int) = G at *
    clear hG
    rintro e w' ⟨rfl, m, rfl⟩
    go_wp2
    go_region
    go_wp2_with fail
    by_cases c1 : -999999999 ≤ P ∧ P ≤ 999999999
    · refine (in_b _ _ _ true _ (by simp; omega)).mono ?_
      rintro e w' ⟨rfl, rfl⟩
      by_cases c2 : 999999999 < Q
      · have HM := Lib.hid (show mkN n d = it0 from by rw [H.out, if_neg (by rw [N.out, e2.out]; simp; omega)])
        clear hP hQ hgn hgd
        go_wp2
        refine bodyPost_ret (v := itVal it0) (by simp [results, Try.results65, go_sem]; exact ⟨rfl, rfl, rfl⟩) rfl ⟨by rw [HM.out], ?_⟩
        repeat (first | exact Below.refl _ _ | refine Below.setCell ?_ (by simp <;> omega) _ | refine Below.alloc ?_ (by simp <;> omega) _ | refine below_drewN ?_ _ | refine Below.drew ?_)
      · have HM := Lib.hid (show mkN n d = ⟨P, Q, ByteArray.empty⟩ from by rw [H.out, if_pos (by rw [N.out, e2.out]; simp; omega), e2.out])
        clear hP hQ hgn hgd
        go_wp2
        refine bodyPost_ret (v := itVal ⟨P, Q, ByteArray.empty⟩) (by simp [results, Try.results65, go_sem]; rfl) rfl ⟨by rw [HM.out], ?_⟩
        repeat (first | exact Below.refl _ _ | refine Below.setCell ?_ (by simp <;> omega) _ | refine Below.alloc ?_ (by simp <;> omega) _ | refine below_drewN ?_ _ | refine Below.drew ?_)
    · refine (in_b _ _ _ false _ (by simp; omega)).mono ?_
      rintro e w' ⟨rfl, rfl⟩
      have HM := Lib.hid (show mkN n d = it0 from by rw [H.out, if_neg (by rw [N.out, e2.out]; simp; omega)])
      clear hP hQ hgn hgd
      go_wp2
      refine bodyPost_ret (v := itVal it0) (by simp [results, Try.results65, go_sem]; exact ⟨rfl, rfl, rfl⟩) rfl ⟨by rw [HM.out], ?_⟩
      repeat (first | exact Below.refl _ _ | refine Below.setCell ?_ (by simp <;> omega) _ | refine Below.alloc ?_ (by simp <;> omega) _ | refine below_drewN ?_ _ | refine Below.drew ?_)
end Go.Proofs.Ytolkglnkdfcceaa

/- The four operations on numbers. -/
namespace Go.Proofs.Ytolkglnkdfcceaa
open Go.RowKit
set_option linter.unusedVariables false
set_option linter.unusedSimpArgs false

theorem negN_pos {x : It} (h : numB x = true) : negN x = ⟨-x.num, x.den, ByteArray.empty⟩ := by unfold negN; rw [if_pos h]
theorem negN_neg {x : It} (h : numB x = false) : negN x = it0 := by unfold negN; rw [if_neg (by simp [h])]
theorem addN_pos {x y : It} (h : numB x = true) (h' : numB y = true) : addN x y = mkN (x.num * y.den + y.num * x.den) (x.den * y.den) := by unfold addN; rw [if_pos (by simp [h, h'])]
theorem addN_neg {x y : It} (h : numB x = false ∨ numB y = false) : addN x y = it0 := by unfold addN; rw [if_neg (by rcases h with h | h <;> simp [h])]
theorem mulN_pos {x y : It} (h : numB x = true) (h' : numB y = true) : mulN x y = mkN (x.num * y.num) (x.den * y.den) := by unfold mulN; rw [if_pos (by simp [h, h'])]
theorem mulN_neg {x y : It} (h : numB x = false ∨ numB y = false) : mulN x y = it0 := by unfold mulN; rw [if_neg (by rcases h with h | h <;> simp [h])]
theorem divN_pos {x y : It} (h : numB x = true) (h' : numB y = true) : divN x y = mkN (x.num * y.den) (x.den * y.num) := by unfold divN; rw [if_pos (by simp [h, h'])]
theorem divN_neg {x y : It} (h : numB x = false ∨ numB y = false) : divN x y = it0 := by unfold divN; rw [if_neg (by rcases h with h | h <;> simp [h])]

theorem implNeg_any (x : It) (w : World) : Calls Try.prog 73 #[itVal x] w (RetIt (negN x) w) := by
  by_cases hn : numB x = true
  · obtain ⟨h0, h1, h2, -⟩ := numB_iff.1 hn
    have H := Lib.hid (negN_pos hn)
    obtain ⟨num, den, text⟩ := x
    simp only at h0 h1 h2 H
    subst h0
    go_enter Try.func73, Try.ntmps73
    go_wp2_with fail
    refine (implIsNum_any ⟨num, den, ByteArray.empty⟩ _).mono ?_
    rintro e w1 ⟨rfl, hb⟩
    rw [hn]
    obtain ⟨hc, hf⟩ := bcell hb
    have hz : w.heap.size + 1 < w1.heap.size := by have := hb.size; simp at this; omega
    have HB := Lib.hid hb
    clear hb
    go_wp2
    refine bodyPost_ret (v := itVal ⟨-num, den, ByteArray.empty⟩) (by simp [results, Try.results73, go_sem, hc, hz]; rfl) rfl ⟨by rw [H.out], ?_⟩
    repeat (refine Below.setCell ?_ (by simp <;> omega) _)
    refine Below.trans ?_ (HB.out.mono (by simp; omega))
    repeat (first | exact Below.refl _ _ | refine Below.setCell ?_ (by simp <;> omega) _ | refine Below.alloc ?_ (by simp <;> omega) _ | refine below_drewN ?_ _ | refine Below.drew ?_)
  · have hn : numB x = false := by simpa using hn
    have H := Lib.hid (negN_neg hn)
    go_enter Try.func73, Try.ntmps73
    go_wp2_with fail
    refine (implIsNum_any x _).mono ?_
    rintro e w1 ⟨rfl, hb⟩
    rw [hn]
    obtain ⟨hc, hf⟩ := bcell hb
    have hz : w.heap.size + 1 < w1.heap.size := by have := hb.size; simp at this; omega
    have HB := Lib.hid hb
    clear hb
    go_wp2
    refine bodyPost_ret (v := itVal it0) (by simp [results, Try.results73, go_sem, hc, hz]; exact ⟨rfl, rfl, rfl⟩) rfl ⟨by rw [H.out], ?_⟩
    repeat (refine Below.setCell ?_ (by simp <;> omega) _)
    refine Below.trans ?_ (HB.out.mono (by simp; omega))
    repeat (first | exact Below.refl _ _ | refine Below.setCell ?_ (by simp <;> omega) _ | refine Below.alloc ?_ (by simp <;> omega) _ | refine below_drewN ?_ _ | refine Below.drew ?_)

theorem specNeg_any (x : It) (w : World) : Calls Try.prog 74 #[itVal x] w (RetIt (negN x) w) := by
  by_cases hn : numB x = true
  · obtain ⟨h0, h1, h2, -⟩ := numB_iff.1 hn
    have H := Lib.hid (negN_pos hn)
    obtain ⟨num, den, text⟩ := x
    simp only at h0 h1 h2 H
    subst h0
    go_enter Try.func74, Try.ntmps74
    go_wp2_with fail
    refine (specIsNum_any ⟨num, den, ByteArray.empty⟩ _).mono ?_
    rintro e w1 ⟨rfl, hb⟩
    rw [hn]
    obtain ⟨hc, hf⟩ := bcell hb
    have hz : w.heap.size + 1 < w1.heap.size := by have := hb.size; simp at this; omega
    have HB := Lib.hid hb
    clear hb
    go_wp2
    refine bodyPost_ret (v := itVal ⟨-num, den, ByteArray.empty⟩) (by simp [results, Try.results74, go_sem, hc, hz]; rfl) rfl ⟨by rw [H.out], ?_⟩
    repeat (refine Below.setCell ?_ (by simp <;> omega) _)
    refine Below.trans ?_ (HB.out.mono (by simp; omega))
    repeat (first | exact Below.refl _ _ | refine Below.setCell ?_ (by simp <;> omega) _ | refine Below.alloc ?_ (by simp <;> omega) _ | refine below_drewN ?_ _ | refine Below.drew ?_)
  · have hn : numB x = false := by simpa using hn
    have H := Lib.hid (negN_neg hn)
    go_enter Try.func74, Try.ntmps74
    go_wp2_with fail
    refine (specIsNum_any x _).mono ?_
    rintro e w1 ⟨rfl, hb⟩
    rw [hn]
    obtain ⟨hc, hf⟩ := bcell hb
    have hz : w.heap.size + 1 < w1.heap.size := by have := hb.size; simp at this; omega
    have HB := Lib.hid hb
    clear hb
    go_wp2
    refine bodyPost_ret (v := itVal it0) (by simp [results, Try.results74, go_sem, hc, hz]; exact ⟨rfl, rfl, rfl⟩) rfl ⟨by rw [H.out], ?_⟩
    repeat (refine Below.setCell ?_ (by simp <;> omega) _)
    refine Below.trans ?_ (HB.out.mono (by simp; omega))
    repeat (first | exact Below.refl _ _ | refine Below.setCell ?_ (by simp <;> omega) _ | refine Below.alloc ?_ (by simp <;> omega) _ | refine below_drewN ?_ _ | refine Below.drew ?_)

set_option maxHeartbeats 400000 in
theorem implAdd_any (x y : It) (w : World) : Calls Try.prog 42 #[itVal x, itVal y] w (RetIt (addN x y) w) := by
  by_cases hx : numB x = true
  · by_cases hy : numB y = true
    · obtain ⟨e1, r1, r2, -⟩ := numB_iff.1 hx
      obtain ⟨e2, r3, r4, -⟩ := numB_iff.1 hy
      have H := Lib.hid (addN_pos hx hy)
      obtain ⟨n1, d1, t1⟩ := x
      obtain ⟨n2, d2, t2⟩ := y
      simp only at e1 r1 r2 e2 r3 r4 H
      subst e1 e2
      have b_n1d2 := mul_lim (a := n1) (b := d2) (by omega) (by omega)
      have b_n2d1 := mul_lim (a := n2) (b := d1) (by omega) (by omega)
      have b_d1d2 := mul_lim (a := d1) (b := d2) (by omega) (by omega)
      go_enter Try.func42, Try.ntmps42
      go_wp2_with fail
      refine (implIsNum_any ⟨n1, d1, ByteArray.empty⟩ _).mono ?_
      rintro e w1 ⟨rfl, hb1⟩
      rw [hx]
      obtain ⟨hc, hf⟩ := bcell hb1
      have hz : w.heap.size + 2 < w1.heap.size := by have := hb1.size; simp at this; omega
      have HB1 := Lib.hid hb1
      clear hb1
      go_wp2_with fail
      refine (implIsNum_any ⟨n2, d2, ByteArray.empty⟩ _).mono ?_
      rintro e w2 ⟨rfl, hb2⟩
      rw [hy]
      have hb12 := HB1.out.trans (hb2.mono HB1.out.size)
      clear hc hf hb2
      obtain ⟨hc, hf⟩ := bcell hb12
      have hz2 : w.heap.size + 2 < w2.heap.size := by have := hb12.size; simp at this; omega
      have HB2 := Lib.hid hb12
      clear hb12
      go_wp2_with fail
      refine (implMake_any _ _ _).mono ?_
      rintro e w3 ⟨rfl, hb3⟩
      rw [← H.out]
      have hb13 := HB2.out.trans (hb3.mono HB2.out.size)
      clear hc hf hb3
      obtain ⟨hc, hf⟩ := bcell hb13
      have hz3 : w.heap.size + 2 < w3.heap.size := by have := hb13.size; simp at this; omega
      have HB3 := Lib.hid hb13
      clear hb13
      go_wp2
      refine bodyPost_ret (v := itVal (addN ⟨n1, d1, ByteArray.empty⟩ ⟨n2, d2, ByteArray.empty⟩)) (by simp [results, Try.results42, go_sem, hc, hz3]) rfl ⟨rfl, ?_⟩
      repeat (refine Below.setCell ?_ (by simp <;> omega) _)
      refine Below.trans ?_ (HB3.out.mono (by simp; omega))
      repeat (first | exact Below.refl _ _ | refine Below.setCell ?_ (by simp <;> omega) _ | refine Below.alloc ?_ (by simp <;> omega) _ | refine below_drewN ?_ _ | refine Below.drew ?_)
    · have hy : numB y = false := by simpa using hy
      have H := Lib.hid (addN_neg (x := x) (.inr hy))
      go_enter Try.func42, Try.ntmps42
      go_wp2_with fail
      refine (implIsNum_any x _).mono ?_
      rintro e w1 ⟨rfl, hb1⟩
      rw [hx]
      obtain ⟨hc, hf⟩ := bcell hb1
      have hz : w.heap.size + 2 < w1.heap.size := by have := hb1.size; simp at this; omega
      have HB1 := Lib.hid hb1
      clear hb1
      go_wp2_with fail
      refine (implIsNum_any y _).mono ?_
      rintro e w2 ⟨rfl, hb2⟩
      rw [hy]
      have hb12 := HB1.out.trans (hb2.mono HB1.out.size)
      clear hc hf hb2
      obtain ⟨hc, hf⟩ := bcell hb12
      have hz2 : w.heap.size + 2 < w2.heap.size := by have := hb12.size; simp at this; omega
      have HB2 := Lib.hid hb12
      clear hb12
      go_wp2
      refine bodyPost_ret (v := itVal it0) (by simp [results, Try.results42, go_sem, hc, hz2]; exact ⟨rfl, rfl, rfl⟩) rfl ⟨by rw [H.out], ?_⟩
      repeat (refine Below.setCell ?_ (by simp <;> omega) _)
      refine Below.trans ?_ (HB2.out.mono (by simp; omega))
      repeat (first | exact Below.refl _ _ | refine Below.setCell ?_ (by simp <;> omega) _ | refine Below.alloc ?_ (by simp <;> omega) _ | refine below_drewN ?_ _ | refine Below.drew ?_)
  · have hx : numB x = false := by simpa using hx
    have H := Lib.hid (addN_neg (y := y) (.inl hx))
    go_enter Try.func42, Try.ntmps42
    go_wp2_with fail
    refine (implIsNum_any x _).mono ?_
    rintro e w1 ⟨rfl, hb1⟩
    rw [hx]
    obtain ⟨hc, hf⟩ := bcell hb1
    have hz : w.heap.size + 2 < w1.heap.size := by have := hb1.size; simp at this; omega
    have HB1 := Lib.hid hb1
    clear hb1
    go_wp2
    refine bodyPost_ret (v := itVal it0) (by simp [results, Try.results42, go_sem, hc, hz]; exact ⟨rfl, rfl, rfl⟩) rfl ⟨by rw [H.out], ?_⟩
    repeat (refine Below.setCell ?_ (by simp <;> omega) _)
    refine Below.trans ?_ (HB1.out.mono (by simp; omega))
    repeat (first | exact Below.refl _ _ | refine Below.setCell ?_ (by simp <;> omega) _ | refine Below.alloc ?_ (by simp <;> omega) _ | refine below_drewN ?_ _ | refine Below.drew ?_)

set_option maxHeartbeats 400000 in
theorem implMul_any (x y : It) (w : World) : Calls Try.prog 43 #[itVal x, itVal y] w (RetIt (mulN x y) w) := by
  by_cases hx : numB x = true
  · by_cases hy : numB y = true
    · obtain ⟨e1, r1, r2, -⟩ := numB_iff.1 hx
      obtain ⟨e2, r3, r4, -⟩ := numB_iff.1 hy
      have H := Lib.hid (mulN_pos hx hy)
      obtain ⟨n1, d1, t1⟩ := x
      obtain ⟨n2, d2, t2⟩ := y
      simp only at e1 r1 r2 e2 r3 r4 H
      subst e1 e2
      have b_n1n2 := mul_lim (a := n1) (b := n2) (by omega) (by omega)
      have b_d1d2 := mul_lim (a := d1) (b := d2) (by omega) (by omega)
      go_enter Try.func43, Try.ntmps43
      go_wp2_with fail
      refine (implIsNum_any ⟨n1, d1, ByteArray.empty⟩ _).mono ?_
      rintro e w1 ⟨rfl, hb1⟩
      rw [hx]
      obtain ⟨hc, hf⟩ := bcell hb1
      have hz : w.heap.size + 2 < w1.heap.size := by have := hb1.size; simp at this; omega
      have HB1 := Lib.hid hb1
      clear hb1
      go_wp2_with fail
      refine (implIsNum_any ⟨n2, d2, ByteArray.empty⟩ _).mono ?_
      rintro e w2 ⟨rfl, hb2⟩
      rw [hy]
      have hb12 := HB1.out.trans (hb2.mono HB1.out.size)
      clear hc hf hb2
      obtain ⟨hc, hf⟩ := bcell hb12
      have hz2 : w.heap.size + 2 < w2.heap.size := by have := hb12.size; simp at this; omega
      have HB2 := Lib.hid hb12
      clear hb12
      go_wp2_with fail
      refine (implMake_any _ _ _).mono ?_
      rintro e w3 ⟨rfl, hb3⟩
      rw [← H.out]
      have hb13 := HB2.out.trans (hb3.mono HB2.out.size)
      clear hc hf hb3
      obtain ⟨hc, hf⟩ := bcell hb13
      have hz3 : w.heap.size + 2 < w3.heap.size := by have := hb13.size; simp at this; omega
      have HB3 := Lib.hid hb13
      clear hb13
      go_wp2
      refine bodyPost_ret (v := itVal (mulN ⟨n1, d1, ByteArray.empty⟩ ⟨n2, d2, ByteArray.empty⟩)) (by simp [results, Try.results43, go_sem, hc, hz3]) rfl ⟨rfl, ?_⟩
      repeat (refine Below.setCell ?_ (by simp <;> omega) _)
      refine Below.trans ?_ (HB3.out.mono (by simp; omega))
      repeat (first | exact Below.refl _ _ | refine Below.setCell ?_ (by simp <;> omega) _ | refine Below.alloc ?_ (by simp <;> omega) _ | refine below_drewN ?_ _ | refine Below.drew ?_)
    · have hy : numB y = false := by simpa using hy
      have H := Lib.hid (mulN_neg (x := x) (.inr hy))
      go_enter Try.func43, Try.ntmps43
      go_wp2_with fail
      refine (implIsNum_any x _).mono ?_
      rintro e w1 ⟨rfl, hb1⟩
      rw [hx]
      obtain ⟨hc, hf⟩ := bcell hb1
      have hz : w.heap.size + 2 < w1.heap.size := by have := hb1.size; simp at this; omega
      have HB1 := Lib.hid hb1
      clear hb1
      go_wp2_with fail
      refine (implIsNum_any y _).mono ?_
      rintro e w2 ⟨rfl, hb2⟩
      rw [hy]
      have hb12 := HB1.out.trans (hb2.mono HB1.out.size)
      clear hc hf hb2
      obtain ⟨hc, hf⟩ := bcell hb12
      have hz2 : w.heap.size + 2 < w2.heap.size := by have := hb12.size; simp at this; omega
      have HB2 := Lib.hid hb12
      clear hb12
      go_wp2
      refine bodyPost_ret (v := itVal it0) (by simp [results, Try.results43, go_sem, hc, hz2]; exact ⟨rfl, rfl, rfl⟩) rfl ⟨by rw [H.out], ?_⟩
      repeat (refine Below.setCell ?_ (by simp <;> omega) _)
      refine Below.trans ?_ (HB2.out.mono (by simp; omega))
      repeat (first | exact Below.refl _ _ | refine Below.setCell ?_ (by simp <;> omega) _ | refine Below.alloc ?_ (by simp <;> omega) _ | refine below_drewN ?_ _ | refine Below.drew ?_)
  · have hx : numB x = false := by simpa using hx
    have H := Lib.hid (mulN_neg (y := y) (.inl hx))
    go_enter Try.func43, Try.ntmps43
    go_wp2_with fail
    refine (implIsNum_any x _).mono ?_
    rintro e w1 ⟨rfl, hb1⟩
    rw [hx]
    obtain ⟨hc, hf⟩ := bcell hb1
    have hz : w.heap.size + 2 < w1.heap.size := by have := hb1.size; simp at this; omega
    have HB1 := Lib.hid hb1
    clear hb1
    go_wp2
    refine bodyPost_ret (v := itVal it0) (by simp [results, Try.results43, go_sem, hc, hz]; exact ⟨rfl, rfl, rfl⟩) rfl ⟨by rw [H.out], ?_⟩
    repeat (refine Below.setCell ?_ (by simp <;> omega) _)
    refine Below.trans ?_ (HB1.out.mono (by simp; omega))
    repeat (first | exact Below.refl _ _ | refine Below.setCell ?_ (by simp <;> omega) _ | refine Below.alloc ?_ (by simp <;> omega) _ | refine below_drewN ?_ _ | refine Below.drew ?_)

set_option maxHeartbeats 400000 in
theorem implDiv_any (x y : It) (w : World) : Calls Try.prog 67 #[itVal x, itVal y] w (RetIt (divN x y) w) := by
  by_cases hx : numB x = true
  · by_cases hy : numB y = true
    · obtain ⟨e1, r1, r2, -⟩ := numB_iff.1 hx
      obtain ⟨e2, r3, r4, -⟩ := numB_iff.1 hy
      have H := Lib.hid (divN_pos hx hy)
      obtain ⟨n1, d1, t1⟩ := x
      obtain ⟨n2, d2, t2⟩ := y
      simp only at e1 r1 r2 e2 r3 r4 H
      subst e1 e2
      have b_n1d2 := mul_lim (a := n1) (b := d2) (by omega) (by omega)
      have b_d1n2 := mul_lim (a := d1) (b := n2) (by omega) (by omega)
      by_cases hz0 : n2 = 0
      · have HD := Lib.hid (show divN ⟨n1, d1, ByteArray.empty⟩ ⟨n2, d2, ByteArray.empty⟩ = it0 from by rw [H.out, hz0, Int.mul_zero, mkN_zero])
        have bz : (n2 == 0) = true := beq_iff_eq.2 hz0
        clear hz0
        go_enter Try.func67, Try.ntmps67
        go_wp2_with fail
        refine (implIsNum_any ⟨n1, d1, ByteArray.empty⟩ _).mono ?_
        rintro e w1 ⟨rfl, hb1⟩
        rw [hx]
        obtain ⟨hc, hf⟩ := bcell hb1
        have hz : w.heap.size + 2 < w1.heap.size := by have := hb1.size; simp at this; omega
        have HB1 := Lib.hid hb1
        clear hb1
        go_wp2_with fail
        refine (implIsNum_any ⟨n2, d2, ByteArray.empty⟩ _).mono ?_
        rintro e w2 ⟨rfl, hb2⟩
        rw [hy]
        have hb12 := HB1.out.trans (hb2.mono HB1.out.size)
        clear hc hf hb2
        obtain ⟨hc, hf⟩ := bcell hb12
        have hz2 : w.heap.size + 2 < w2.heap.size := by have := hb12.size; simp at this; omega
        have HB2 := Lib.hid hb12
        clear hb12
        go_wp2
        refine bodyPost_ret (v := itVal it0) (by simp [results, Try.results67, go_sem, hc, hz2]; exact ⟨rfl, rfl, rfl⟩) rfl ⟨by rw [HD.out], ?_⟩
        repeat (refine Below.setCell ?_ (by simp <;> omega) _)
        refine Below.trans ?_ (HB2.out.mono (by simp; omega))
        repeat (first | exact Below.refl _ _ | refine Below.setCell ?_ (by simp <;> omega) _ | refine Below.alloc ?_ (by simp <;> omega) _ | refine below_drewN ?_ _ | refine Below.drew ?_)
      have bz : (n2 == 0) = false := beq_eq_false_iff_ne.2 hz0
      go_enter Try.func67, Try.ntmps67
      go_wp2_with fail
      refine (implIsNum_any ⟨n1, d1, ByteArray.empty⟩ _).mono ?_
      rintro e w1 ⟨rfl, hb1⟩
      rw [hx]
      obtain ⟨hc, hf⟩ := bcell hb1
      have hz : w.heap.size + 2 < w1.heap.size := by have := hb1.size; simp at this; omega
      have HB1 := Lib.hid hb1
      clear hb1
      go_wp2_with fail
      refine (implIsNum_any ⟨n2, d2, ByteArray.empty⟩ _).mono ?_
      rintro e w2 ⟨rfl, hb2⟩
      rw [hy]
      have hb12 := HB1.out.trans (hb2.mono HB1.out.size)
      clear hc hf hb2
      obtain ⟨hc, hf⟩ := bcell hb12
      have hz2 : w.heap.size + 2 < w2.heap.size := by have := hb12.size; simp at this; omega
      have HB2 := Lib.hid hb12
      clear hb12
      go_wp2_with fail
      refine (implMake_any _ _ _).mono ?_
      rintro e w3 ⟨rfl, hb3⟩
      rw [← H.out]
      have hb13 := HB2.out.trans (hb3.mono HB2.out.size)
      clear hc hf hb3
      obtain ⟨hc, hf⟩ := bcell hb13
      have hz3 : w.heap.size + 2 < w3.heap.size := by have := hb13.size; simp at this; omega
      have HB3 := Lib.hid hb13
      clear hb13
      go_wp2
      refine bodyPost_ret (v := itVal (divN ⟨n1, d1, ByteArray.empty⟩ ⟨n2, d2, ByteArray.empty⟩)) (by simp [results, Try.results67, go_sem, hc, hz3]) rfl ⟨rfl, ?_⟩
      repeat (refine Below.setCell ?_ (by simp <;> omega) _)
      refine Below.trans ?_ (HB3.out.mono (by simp; omega))
      repeat (first | exact Below.refl _ _ | refine Below.setCell ?_ (by simp <;> omega) _ | refine Below.alloc ?_ (by simp <;> omega) _ | refine below_drewN ?_ _ | refine Below.drew ?_)
    · have hy : numB y = false := by simpa using hy
      have H := Lib.hid (divN_neg (x := x) (.inr hy))
      go_enter Try.func67, Try.ntmps67
      go_wp2_with fail
      refine (implIsNum_any x _).mono ?_
      rintro e w1 ⟨rfl, hb1⟩
      rw [hx]
      obtain ⟨hc, hf⟩ := bcell hb1
      have hz : w.heap.size + 2 < w1.heap.size := by have := hb1.size; simp at this; omega
      have HB1 := Lib.hid hb1
      clear hb1
      go_wp2_with fail
      refine (implIsNum_any y _).mono ?_
      rintro e w2 ⟨rfl, hb2⟩
      rw [hy]
      have hb12 := HB1.out.trans (hb2.mono HB1.out.size)
      clear hc hf hb2
      obtain ⟨hc, hf⟩ := bcell hb12
      have hz2 : w.heap.size + 2 < w2.heap.size := by have := hb12.size; simp at this; omega
      have HB2 := Lib.hid hb12
      clear hb12
      go_wp2
      refine bodyPost_ret (v := itVal it0) (by simp [results, Try.results67, go_sem, hc, hz2]; exact ⟨rfl, rfl, rfl⟩) rfl ⟨by rw [H.out], ?_⟩
      repeat (refine Below.setCell ?_ (by simp <;> omega) _)
      refine Below.trans ?_ (HB2.out.mono (by simp; omega))
      repeat (first | exact Below.refl _ _ | refine Below.setCell ?_ (by simp <;> omega) _ | refine Below.alloc ?_ (by simp <;> omega) _ | refine below_drewN ?_ _ | refine Below.drew ?_)
  · have hx : numB x = false := by simpa using hx
    have H := Lib.hid (divN_neg (y := y) (.inl hx))
    go_enter Try.func67, Try.ntmps67
    go_wp2_with fail
    refine (implIsNum_any x _).mono ?_
    rintro e w1 ⟨rfl, hb1⟩
    rw [hx]
    obtain ⟨hc, hf⟩ := bcell hb1
    have hz : w.heap.size + 2 < w1.heap.size := by have := hb1.size; simp at this; omega
    have HB1 := Lib.hid hb1
    clear hb1
    go_wp2
    refine bodyPost_ret (v := itVal it0) (by simp [results, Try.results67, go_sem, hc, hz]; exact ⟨rfl, rfl, rfl⟩) rfl ⟨by rw [H.out], ?_⟩
    repeat (refine Below.setCell ?_ (by simp <;> omega) _)
    refine Below.trans ?_ (HB1.out.mono (by simp; omega))
    repeat (first | exact Below.refl _ _ | refine Below.setCell ?_ (by simp <;> omega) _ | refine Below.alloc ?_ (by simp <;> omega) _ | refine below_drewN ?_ _ | refine Below.drew ?_)

set_option maxHeartbeats 400000 in
theorem specAdd_any (x y : It) (w : World) : Calls Try.prog 46 #[itVal x, itVal y] w (RetIt (addN x y) w) := by
  by_cases hx : numB x = true
  · by_cases hy : numB y = true
    · obtain ⟨e1, r1, r2, -⟩ := numB_iff.1 hx
      obtain ⟨e2, r3, r4, -⟩ := numB_iff.1 hy
      have H := Lib.hid (addN_pos hx hy)
      obtain ⟨n1, d1, t1⟩ := x
      obtain ⟨n2, d2, t2⟩ := y
      simp only at e1 r1 r2 e2 r3 r4 H
      subst e1 e2
      have b_n1d2 := mul_lim (a := n1) (b := d2) (by omega) (by omega)
      have b_n2d1 := mul_lim (a := n2) (b := d1) (by omega) (by omega)
      have b_d1d2 := mul_lim (a := d1) (b := d2) (by omega) (by omega)
      go_enter Try.func46, Try.ntmps46
      go_wp2_with fail
      refine (specIsNum_any ⟨n1, d1, ByteArray.empty⟩ _).mono ?_
      rintro e w1 ⟨rfl, hb1⟩
      rw [hx]
      obtain ⟨hc, hf⟩ := bcell hb1
      have hz : w.heap.size + 2 < w1.heap.size := by have := hb1.size; simp at this; omega
      have HB1 := Lib.hid hb1
      clear hb1
      go_wp2_with fail
      refine (specIsNum_any ⟨n2, d2, ByteArray.empty⟩ _).mono ?_
      rintro e w2 ⟨rfl, hb2⟩
      rw [hy]
      have hb12 := HB1.out.trans (hb2.mono HB1.out.size)
      clear hc hf hb2
      obtain ⟨hc, hf⟩ := bcell hb12
      have hz2 : w.heap.size + 2 < w2.heap.size := by have := hb12.size; simp at this; omega
      have HB2 := Lib.hid hb12
      clear hb12
      go_wp2_with fail
      refine (specMake_any _ _ _).mono ?_
      rintro e w3 ⟨rfl, hb3⟩
      rw [← H.out]
      have hb13 := HB2.out.trans (hb3.mono HB2.out.size)
      clear hc hf hb3
      obtain ⟨hc, hf⟩ := bcell hb13
      have hz3 : w.heap.size + 2 < w3.heap.size := by have := hb13.size; simp at this; omega
      have HB3 := Lib.hid hb13
      clear hb13
      go_wp2
      refine bodyPost_ret (v := itVal (addN ⟨n1, d1, ByteArray.empty⟩ ⟨n2, d2, ByteArray.empty⟩)) (by simp [results, Try.results46, go_sem, hc, hz3]) rfl ⟨rfl, ?_⟩
      repeat (refine Below.setCell ?_ (by simp <;> omega) _)
      refine Below.trans ?_ (HB3.out.mono (by simp; omega))
      repeat (first | exact Below.refl _ _ | refine Below.setCell ?_ (by simp <;> omega) _ | refine Below.alloc ?_ (by simp <;> omega) _ | refine below_drewN ?_ _ | refine Below.drew ?_)
    · have hy : numB y = false := by simpa using hy
      have H := Lib.hid (addN_neg (x := x) (.inr hy))
      go_enter Try.func46, Try.ntmps46
      go_wp2_with fail
      refine (specIsNum_any x _).mono ?_
      rintro e w1 ⟨rfl, hb1⟩
      rw [hx]
      obtain ⟨hc, hf⟩ := bcell hb1
      have hz : w.heap.size + 2 < w1.heap.size := by have := hb1.size; simp at this; omega
      have HB1 := Lib.hid hb1
      clear hb1
      go_wp2_with fail
      refine (specIsNum_any y _).mono ?_
      rintro e w2 ⟨rfl, hb2⟩
      rw [hy]
      have hb12 := HB1.out.trans (hb2.mono HB1.out.size)
      clear hc hf hb2
      obtain ⟨hc, hf⟩ := bcell hb12
      have hz2 : w.heap.size + 2 < w2.heap.size := by have := hb12.size; simp at this; omega
      have HB2 := Lib.hid hb12
      clear hb12
      go_wp2
      refine bodyPost_ret (v := itVal it0) (by simp [results, Try.results46, go_sem, hc, hz2]; exact ⟨rfl, rfl, rfl⟩) rfl ⟨by rw [H.out], ?_⟩
      repeat (refine Below.setCell ?_ (by simp <;> omega) _)
      refine Below.trans ?_ (HB2.out.mono (by simp; omega))
      repeat (first | exact Below.refl _ _ | refine Below.setCell ?_ (by simp <;> omega) _ | refine Below.alloc ?_ (by simp <;> omega) _ | refine below_drewN ?_ _ | refine Below.drew ?_)
  · have hx : numB x = false := by simpa using hx
    have H := Lib.hid (addN_neg (y := y) (.inl hx))
    go_enter Try.func46, Try.ntmps46
    go_wp2_with fail
    refine (specIsNum_any x _).mono ?_
    rintro e w1 ⟨rfl, hb1⟩
    rw [hx]
    obtain ⟨hc, hf⟩ := bcell hb1
    have hz : w.heap.size + 2 < w1.heap.size := by have := hb1.size; simp at this; omega
    have HB1 := Lib.hid hb1
    clear hb1
    go_wp2
    refine bodyPost_ret (v := itVal it0) (by simp [results, Try.results46, go_sem, hc, hz]; exact ⟨rfl, rfl, rfl⟩) rfl ⟨by rw [H.out], ?_⟩
    repeat (refine Below.setCell ?_ (by simp <;> omega) _)
    refine Below.trans ?_ (HB1.out.mono (by simp; omega))
    repeat (first | exact Below.refl _ _ | refine Below.setCell ?_ (by simp <;> omega) _ | refine Below.alloc ?_ (by simp <;> omega) _ | refine below_drewN ?_ _ | refine Below.drew ?_)

set_option maxHeartbeats 400000 in
theorem specMul_any (x y : It) (w : World) : Calls Try.prog 47 #[itVal x, itVal y] w (RetIt (mulN x y) w) := by
  by_cases hx : numB x = true
  · by_cases hy : numB y = true
    · obtain ⟨e1, r1, r2, -⟩ := numB_iff.1 hx
      obtain ⟨e2, r3, r4, -⟩ := numB_iff.1 hy
      have H := Lib.hid (mulN_pos hx hy)
      obtain ⟨n1, d1, t1⟩ := x
      obtain ⟨n2, d2, t2⟩ := y
      simp only at e1 r1 r2 e2 r3 r4 H
      subst e1 e2
      have b_n1n2 := mul_lim (a := n1) (b := n2) (by omega) (by omega)
      have b_d1d2 := mul_lim (a := d1) (b := d2) (by omega) (by omega)
      go_enter Try.func47, Try.ntmps47
      go_wp2_with fail
      refine (specIsNum_any ⟨n1, d1, ByteArray.empty⟩ _).mono ?_
      rintro e w1 ⟨rfl, hb1⟩
      rw [hx]
      obtain ⟨hc, hf⟩ := bcell hb1
      have hz : w.heap.size + 2 < w1.heap.size := by have := hb1.size; simp at this; omega
      have HB1 := Lib.hid hb1
      clear hb1
      go_wp2_with fail
      refine (specIsNum_any ⟨n2, d2, ByteArray.empty⟩ _).mono ?_
      rintro e w2 ⟨rfl, hb2⟩
      rw [hy]
      have hb12 := HB1.out.trans (hb2.mono HB1.out.size)
      clear hc hf hb2
      obtain ⟨hc, hf⟩ := bcell hb12
      have hz2 : w.heap.size + 2 < w2.heap.size := by have := hb12.size; simp at this; omega
      have HB2 := Lib.hid hb12
      clear hb12
      go_wp2_with fail
      refine (specMake_any _ _ _).mono ?_
      rintro e w3 ⟨rfl, hb3⟩
      rw [← H.out]
      have hb13 := HB2.out.trans (hb3.mono HB2.out.size)
      clear hc hf hb3
      obtain ⟨hc, hf⟩ := bcell hb13
      have hz3 : w.heap.size + 2 < w3.heap.size := by have := hb13.size; simp at this; omega
      have HB3 := Lib.hid hb13
      clear hb13
      go_wp2
      refine bodyPost_ret (v := itVal (mulN ⟨n1, d1, ByteArray.empty⟩ ⟨n2, d2, ByteArray.empty⟩)) (by simp [results, Try.results47, go_sem, hc, hz3]) rfl ⟨rfl, ?_⟩
      repeat (refine Below.setCell ?_ (by simp <;> omega) _)
      refine Below.trans ?_ (HB3.out.mono (by simp; omega))
      repeat (first | exact Below.refl _ _ | refine Below.setCell ?_ (by simp <;> omega) _ | refine Below.alloc ?_ (by simp <;> omega) _ | refine below_drewN ?_ _ | refine Below.drew ?_)
    · have hy : numB y = false := by simpa using hy
      have H := Lib.hid (mulN_neg (x := x) (.inr hy))
      go_enter Try.func47, Try.ntmps47
      go_wp2_with fail
      refine (specIsNum_any x _).mono ?_
      rintro e w1 ⟨rfl, hb1⟩
      rw [hx]
      obtain ⟨hc, hf⟩ := bcell hb1
      have hz : w.heap.size + 2 < w1.heap.size := by have := hb1.size; simp at this; omega
      have HB1 := Lib.hid hb1
      clear hb1
      go_wp2_with fail
      refine (specIsNum_any y _).mono ?_
      rintro e w2 ⟨rfl, hb2⟩
      rw [hy]
      have hb12 := HB1.out.trans (hb2.mono HB1.out.size)
      clear hc hf hb2
      obtain ⟨hc, hf⟩ := bcell hb12
      have hz2 : w.heap.size + 2 < w2.heap.size := by have := hb12.size; simp at this; omega
      have HB2 := Lib.hid hb12
      clear hb12
      go_wp2
      refine bodyPost_ret (v := itVal it0) (by simp [results, Try.results47, go_sem, hc, hz2]; exact ⟨rfl, rfl, rfl⟩) rfl ⟨by rw [H.out], ?_⟩
      repeat (refine Below.setCell ?_ (by simp <;> omega) _)
      refine Below.trans ?_ (HB2.out.mono (by simp; omega))
      repeat (first | exact Below.refl _ _ | refine Below.setCell ?_ (by simp <;> omega) _ | refine Below.alloc ?_ (by simp <;> omega) _ | refine below_drewN ?_ _ | refine Below.drew ?_)
  · have hx : numB x = false := by simpa using hx
    have H := Lib.hid (mulN_neg (y := y) (.inl hx))
    go_enter Try.func47, Try.ntmps47
    go_wp2_with fail
    refine (specIsNum_any x _).mono ?_
    rintro e w1 ⟨rfl, hb1⟩
    rw [hx]
    obtain ⟨hc, hf⟩ := bcell hb1
    have hz : w.heap.size + 2 < w1.heap.size := by have := hb1.size; simp at this; omega
    have HB1 := Lib.hid hb1
    clear hb1
    go_wp2
    refine bodyPost_ret (v := itVal it0) (by simp [results, Try.results47, go_sem, hc, hz]; exact ⟨rfl, rfl, rfl⟩) rfl ⟨by rw [H.out], ?_⟩
    repeat (refine Below.setCell ?_ (by simp <;> omega) _)
    refine Below.trans ?_ (HB1.out.mono (by simp; omega))
    repeat (first | exact Below.refl _ _ | refine Below.setCell ?_ (by simp <;> omega) _ | refine Below.alloc ?_ (by simp <;> omega) _ | refine below_drewN ?_ _ | refine Below.drew ?_)

set_option maxHeartbeats 400000 in
theorem specDiv_any (x y : It) (w : World) : Calls Try.prog 69 #[itVal x, itVal y] w (RetIt (divN x y) w) := by
  by_cases hx : numB x = true
  · by_cases hy : numB y = true
    · obtain ⟨e1, r1, r2, -⟩ := numB_iff.1 hx
      obtain ⟨e2, r3, r4, -⟩ := numB_iff.1 hy
      have H := Lib.hid (divN_pos hx hy)
      obtain ⟨n1, d1, t1⟩ := x
      obtain ⟨n2, d2, t2⟩ := y
      simp only at e1 r1 r2 e2 r3 r4 H
      subst e1 e2
      have b_n1d2 := mul_lim (a := n1) (b := d2) (by omega) (by omega)
      have b_d1n2 := mul_lim (a := d1) (b := n2) (by omega) (by omega)
      go_enter Try.func69, Try.ntmps69
      go_wp2_with fail
      refine (specIsNum_any ⟨n1, d1, ByteArray.empty⟩ _).mono ?_
      rintro e w1 ⟨rfl, hb1⟩
      rw [hx]
      obtain ⟨hc, hf⟩ := bcell hb1
      have hz : w.heap.size + 2 < w1.heap.size := by have := hb1.size; simp at this; omega
      have HB1 := Lib.hid hb1
      clear hb1
      go_wp2_with fail
      refine (specIsNum_any ⟨n2, d2, ByteArray.empty⟩ _).mono ?_
      rintro e w2 ⟨rfl, hb2⟩
      rw [hy]
      have hb12 := HB1.out.trans (hb2.mono HB1.out.size)
      clear hc hf hb2
      obtain ⟨hc, hf⟩ := bcell hb12
      have hz2 : w.heap.size + 2 < w2.heap.size := by have := hb12.size; simp at this; omega
      have HB2 := Lib.hid hb12
      clear hb12
      go_wp2_with fail
      refine (specMake_any _ _ _).mono ?_
      rintro e w3 ⟨rfl, hb3⟩
      rw [← H.out]
      have hb13 := HB2.out.trans (hb3.mono HB2.out.size)
      clear hc hf hb3
      obtain ⟨hc, hf⟩ := bcell hb13
      have hz3 : w.heap.size + 2 < w3.heap.size := by have := hb13.size; simp at this; omega
      have HB3 := Lib.hid hb13
      clear hb13
      go_wp2
      refine bodyPost_ret (v := itVal (divN ⟨n1, d1, ByteArray.empty⟩ ⟨n2, d2, ByteArray.empty⟩)) (by simp [results, Try.results69, go_sem, hc, hz3]) rfl ⟨rfl, ?_⟩
      repeat (refine Below.setCell ?_ (by simp <;> omega) _)
      refine Below.trans ?_ (HB3.out.mono (by simp; omega))
      repeat (first | exact Below.refl _ _ | refine Below.setCell ?_ (by simp <;> omega) _ | refine Below.alloc ?_ (by simp <;> omega) _ | refine below_drewN ?_ _ | refine Below.drew ?_)
    · have hy : numB y = false := by simpa using hy
      have H := Lib.hid (divN_neg (x := x) (.inr hy))
      go_enter Try.func69, Try.ntmps69
      go_wp2_with fail
      refine (specIsNum_any x _).mono ?_
      rintro e w1 ⟨rfl, hb1⟩
      rw [hx]
      obtain ⟨hc, hf⟩ := bcell hb1
      have hz : w.heap.size + 2 < w1.heap.size := by have := hb1.size; simp at this; omega
      have HB1 := Lib.hid hb1
      clear hb1
      go_wp2_with fail
      refine (specIsNum_any y _).mono ?_
      rintro e w2 ⟨rfl, hb2⟩
      rw [hy]
      have hb12 := HB1.out.trans (hb2.mono HB1.out.size)
      clear hc hf hb2
      obtain ⟨hc, hf⟩ := bcell hb12
      have hz2 : w.heap.size + 2 < w2.heap.size := by have := hb12.size; simp at this; omega
      have HB2 := Lib.hid hb12
      clear hb12
      go_wp2
      refine bodyPost_ret (v := itVal it0) (by simp [results, Try.results69, go_sem, hc, hz2]; exact ⟨rfl, rfl, rfl⟩) rfl ⟨by rw [H.out], ?_⟩
      repeat (refine Below.setCell ?_ (by simp <;> omega) _)
      refine Below.trans ?_ (HB2.out.mono (by simp; omega))
      repeat (first | exact Below.refl _ _ | refine Below.setCell ?_ (by simp <;> omega) _ | refine Below.alloc ?_ (by simp <;> omega) _ | refine below_drewN ?_ _ | refine Below.drew ?_)
  · have hx : numB x = false := by simpa using hx
    have H := Lib.hid (divN_neg (y := y) (.inl hx))
    go_enter Try.func69, Try.ntmps69
    go_wp2_with fail
    refine (specIsNum_any x _).mono ?_
    rintro e w1 ⟨rfl, hb1⟩
    rw [hx]
    obtain ⟨hc, hf⟩ := bcell hb1
    have hz : w.heap.size + 2 < w1.heap.size := by have := hb1.size; simp at this; omega
    have HB1 := Lib.hid hb1
    clear hb1
    go_wp2
    refine bodyPost_ret (v := itVal it0) (by simp [results, Try.results69, go_sem, hc, hz]; exact ⟨rfl, rfl, rfl⟩) rfl ⟨by rw [H.out], ?_⟩
    repeat (refine Below.setCell ?_ (by simp <;> omega) _)
    refine Below.trans ?_ (HB1.out.mono (by simp; omega))
    repeat (first | exact Below.refl _ _ | refine Below.setCell ?_ (by simp <;> omega) _ | refine Below.alloc ?_ (by simp <;> omega) _ | refine below_drewN ?_ _ | refine Below.drew ?_)
end Go.Proofs.Ytolkglnkdfcceaa

/- Subtraction; small makers of numbers. -/
namespace Go.Proofs.Ytolkglnkdfcceaa
open Go.RowKit
set_option linter.unusedVariables false
set_option linter.unusedSimpArgs false

set_option maxHeartbeats 400000 in
theorem implSub_any (x y : It) (w : World) : Calls Try.prog 68 #[itVal x, itVal y] w (RetIt (subN x y) w) := by
  go_enter Try.func68, Try.ntmps68
  go_wp2_with fail
  go_region_with (first
    | (go_at_call 73; refine (implNeg_any y _).mono ?_; rintro e w1 ⟨rfl, hb1⟩; obtain ⟨hc, hf⟩ := bcell hb1; have HB1 := Lib.hid hb1; clear hb1)
    | (go_at_call 42; refine (implAdd_any x (negN y) _).mono ?_; rintro e w2 ⟨rfl, hb2⟩; have hb12 := HB1.out.trans (hb2.mono HB1.out.size); clear hc hf hb2; obtain ⟨hc, hf⟩ := bcell hb12; have HB2 := Lib.hid hb12; clear hb12))
  all_goals
    go_wp2
    refine bodyPost_ret (v := itVal (addN x (negN y))) (by simp [results, Try.results68, go_sem, hc]) rfl ⟨rfl, ?_⟩
    repeat (refine Below.setCell ?_ (by simp <;> omega) _)
    refine Below.trans ?_ (HB2.out.mono (by simp; omega))
    repeat (first | exact Below.refl _ _ | refine Below.setCell ?_ (by simp <;> omega) _ | refine Below.alloc ?_ (by simp <;> omega) _ | refine below_drewN ?_ _ | refine Below.drew ?_)

set_option maxHeartbeats 400000 in
theorem specSub_any (x y : It) (w : World) : Calls Try.prog 70 #[itVal x, itVal y] w (RetIt (subN x y) w) := by
  go_enter Try.func70, Try.ntmps70
  go_wp2_with fail
  go_region_with (first
    | (go_at_call 74; refine (specNeg_any y _).mono ?_; rintro e w1 ⟨rfl, hb1⟩; obtain ⟨hc, hf⟩ := bcell hb1; have HB1 := Lib.hid hb1; clear hb1)
    | (go_at_call 46; refine (specAdd_any x (negN y) _).mono ?_; rintro e w2 ⟨rfl, hb2⟩; have hb12 := HB1.out.trans (hb2.mono HB1.out.size); clear hc hf hb2; obtain ⟨hc, hf⟩ := bcell hb12; have HB2 := Lib.hid hb12; clear hb12))
  all_goals
    go_wp2
    refine bodyPost_ret (v := itVal (addN x (negN y))) (by simp [results, Try.results70, go_sem, hc]) rfl ⟨rfl, ?_⟩
    repeat (refine Below.setCell ?_ (by simp <;> omega) _)
    refine Below.trans ?_ (HB2.out.mono (by simp; omega))
    repeat (first | exact Below.refl _ _ | refine Below.setCell ?_ (by simp <;> omega) _ | refine Below.alloc ?_ (by simp <;> omega) _ | refine below_drewN ?_ _ | refine Below.drew ?_)

def intN (n : Int) : It := mkN n 1

theorem intItem_any (n : Int) (w : World) : Calls Try.prog 31 #[.int .i64 n] w (RetIt (intN n) w) := by
  go_enter Try.func31, Try.ntmps31
  go_wp2_with fail
  refine (implMake_any n 1 _).mono ?_
  rintro e w1 ⟨rfl, hb1⟩
  obtain ⟨hc, hf⟩ := bcell hb1
  have HB1 := Lib.hid hb1
  clear hb1
  go_wp2
  refine bodyPost_ret (v := itVal (mkN n 1)) (by simp [results, Try.results31, go_sem, hc]) rfl ⟨rfl, ?_⟩
  repeat (refine Below.setCell ?_ (by simp <;> omega) _)
  refine Below.trans ?_ (HB1.out.mono (by simp))
  repeat (first | exact Below.refl _ _ | refine Below.setCell ?_ (by simp <;> omega) _ | refine Below.alloc ?_ (by simp <;> omega) _ | refine below_drewN ?_ _ | refine Below.drew ?_)

def l2N (n : Int) : It := ⟨n, 1, ByteArray.empty⟩
theorem numB_l2N {n : Int} (h : -999999999 ≤ n ∧ n ≤ 999999999) : numB (l2N n) = true := by
  rw [numB_iff]; exact ⟨rfl, ⟨by show (1 : Int) ≤ 1; omega, by show (1 : Int) ≤ 999999999; omega⟩, h, by simp [l2N]⟩
theorem intN_eq {n : Int} (h : -999999999 ≤ n ∧ n ≤ 999999999) : intN n = l2N n := by
  have e : redN n 1 = l2N n := by simp [redN, l2N]
  unfold intN
  rw [mkN_pos (by decide) (by unfold lim; omega) (by decide), e, if_pos (numB_l2N h)]

theorem l2Num_any (n : Int) (w : World) : Calls Try.prog 35 #[.int .i64 n] w (RetIt (l2N n) w) := by
  go_enter Try.func35, Try.ntmps35
  go_wp2
  refine bodyPost_ret (v := itVal (l2N n)) (by simp [results, Try.results35, go_sem, l2N]; try rfl) rfl ⟨rfl, ?_⟩
  repeat (first | exact Below.refl _ _ | refine Below.setCell ?_ (by simp <;> omega) _ | refine Below.alloc ?_ (by simp <;> omega) _ | refine below_drewN ?_ _ | refine Below.drew ?_)

theorem isMissing_any (x : It) (w : World) : Calls Try.prog 56 #[itVal x] w fun e w' => e = .returned (.bool (decide (x = it0))) ∧ Below w.heap.size w w' := by
  obtain ⟨n, d, t⟩ := x
  by_cases h1 : n = 0
  · subst h1
    by_cases h2 : d = 0
    · subst h2
      by_cases h3 : t = ByteArray.empty
      · subst h3
        have H := Lib.hid (show decide ((⟨0, 0, ByteArray.empty⟩ : It) = it0) = true from by simp [it0])
        go_enter Try.func56, Try.ntmps56
        go_wp2
        go_ret
        exact ⟨by rw [H.out]; rfl, by repeat (first | exact Below.refl _ _ | refine Below.setCell ?_ (by simp <;> omega) _ | refine Below.alloc ?_ (by simp <;> omega) _ | refine below_drewN ?_ _ | refine Below.drew ?_)⟩
      · have H := Lib.hid (show decide ((⟨0, 0, t⟩ : It) = it0) = false from by simp [it0, h3])
        have b := ba_nil h3
        go_enter Try.func56, Try.ntmps56
        go_wp2
        go_ret
        exact ⟨by rw [H.out]; rfl, by repeat (first | exact Below.refl _ _ | refine Below.setCell ?_ (by simp <;> omega) _ | refine Below.alloc ?_ (by simp <;> omega) _ | refine below_drewN ?_ _ | refine Below.drew ?_)⟩
    · have H := Lib.hid (show decide ((⟨0, d, t⟩ : It) = it0) = false from by simp [it0, h2])
      go_enter Try.func56, Try.ntmps56
      go_wp2
      go_ret
      exact ⟨by rw [H.out]; rfl, by repeat (first | exact Below.refl _ _ | refine Below.setCell ?_ (by simp <;> omega) _ | refine Below.alloc ?_ (by simp <;> omega) _ | refine below_drewN ?_ _ | refine Below.drew ?_)⟩
  · have H := Lib.hid (show decide ((⟨n, d, t⟩ : It) = it0) = false from by simp [it0, h1])
    go_enter Try.func56, Try.ntmps56
    go_wp2
    go_ret
    exact ⟨by rw [H.out]; rfl, by repeat (first | exact Below.refl _ _ | refine Below.setCell ?_ (by simp <;> omega) _ | refine Below.alloc ?_ (by simp <;> omega) _ | refine below_drewN ?_ _ | refine Below.drew ?_)⟩
end Go.Proofs.Ytolkglnkdfcceaa

