/- Items in memory; laws.szItem, szItemS, toItem, toItemS, eqItem, eqItemS. -/
import Derived.Test.YtlcnokbhoekpkaaProg
import Derived.Test.YtlcnokbhoekpkaaSum
import Derived.Test.YtlcnokbhoekpkaaNumMath
import Derived.Laws.ResultCell
namespace Go.Proofs.Ytlcnokbhoekpkaa
open Go.RowKit
set_option linter.unusedVariables false
set_option linter.unusedSimpArgs false

abbrev itVal (x : It) : Value := .agg #[.int .i64 x.num, .int .i64 x.den, .string x.text]
def itCells (x : It) : List Value := [.int .i64 x.num, .int .i64 x.den, .string x.text]
def ItOk (x : It) : Prop := In64 x.num ∧ In64 x.den ∧ x.text.size ≤ maxLen

def Lay.item : Lay It where
  size := 3
  R := fun w f x c => f = [] ∧ c = itCells x ∧ ItOk x
  pos := by decide
  len := by rintro w f x c ⟨_, rfl, _⟩; rfl
  one := by rintro w f x c ⟨_, rfl, _⟩ u hu; simp [itCells] at hu; rcases hu with rfl | rfl | rfl <;> rfl
  keep := by rintro w w' f x c h hk; exact h
  lt := by rintro w f x c ⟨rfl, _⟩ b hb; cases hb

/-- element i of a slice of items -/
theorem SlR.itAt {w : World} {fp : List Nat} {xs : List It} {A : Option Addr} {n c : Nat} (h : SlR Lay.item w fp xs A n c) {i : Nat} (hi : i < n) :
    ∃ (b off : Nat) (x : It), A = some ⟨b, off, none⟩ ∧ xs[i]? = some x ∧ ItOk x ∧ b ∈ fp ∧ w.cell? ⟨b, off + i * 3, none⟩ = some (.int .i64 x.num) ∧ w.cell? ⟨b, off + i * 3 + 1, none⟩ = some (.int .i64 x.den) ∧ w.cell? ⟨b, off + i * 3 + 2, none⟩ = some (.string x.text) := by
  obtain ⟨b, off, x, f, cs, h1, h2, -, h4, ⟨-, rfl, h5⟩, h6⟩ := h.at_ hi
  simp only [Lay.item] at h6
  exact ⟨b, off, x, h1, h2, h5, h4, h6 0 _ rfl, h6 1 _ rfl, h6 2 _ rfl⟩

def wtItem (x : It) : Nat := x.text.size
def wtItems (l : List It) : Nat := l.length + sumBy wtItem l
theorem wtItems_le {l : List It} {M : Nat} (h : wtItems l ≤ M) : l.length ≤ M ∧ ∀ x ∈ l, x.text.size ≤ M := by
  unfold wtItems at h
  refine ⟨by omega, fun x hx => ?_⟩
  have h2 : x.text.size ≤ sumBy wtItem l := le_sumBy wtItem hx
  omega

theorem szItem_any (x : It) (left : Int) (w : World) (hx : ItOk x) (h0 : 0 ≤ left) (h1 : left ≤ 1048576) :
    Calls Try.prog 55 #[itVal x, .int .i64 left] w fun e w' => Left left (wtItem x) e ∧ Below w.heap.size w w' := by
  obtain ⟨num, den, text⟩ := x
  obtain ⟨-, -, ht⟩ := hx
  simp only [wtItem] at *
  unfold maxLen at ht
  by_cases hn : left - text.size < 0
  · go_enter Try.func55, Try.ntmps55
    go_wp2
    go_ret
    exact ⟨⟨-1, rfl, .inl rfl⟩, by repeat (first | exact Below.refl _ _ | refine Below.setCell ?_ (by simp <;> omega) _ | refine Below.alloc ?_ (by simp <;> omega) _ | refine below_drewN ?_ _ | refine Below.drew ?_)⟩
  · go_enter Try.func55, Try.ntmps55
    go_wp2
    go_ret
    exact ⟨⟨left - text.size, rfl, .inr ⟨by omega, rfl⟩⟩, by repeat (first | exact Below.refl _ _ | refine Below.setCell ?_ (by simp <;> omega) _ | refine Below.alloc ?_ (by simp <;> omega) _ | refine below_drewN ?_ _ | refine Below.drew ?_)⟩

theorem szItemS_any (A : Option Addr) (n c : Nat) (left : Int) (fp : List Nat) (l : List It) (w : World) (ha : SlR Lay.item w fp l A n c) (h0 : 0 ≤ left) (h1 : left ≤ 1048576) :
    Calls Try.prog 15 #[.slice A n c, .int .i64 left] w fun e w' => Left left (wtItems l) e ∧ Below w.heap.size w w' := by
  have hm := ha.le
  have hl := Lib.hid ha.1
  by_cases hn : left - n < 0
  · go_enter Try.func15, Try.ntmps15
    go_wp2
    go_ret
    exact ⟨⟨-1, rfl, .inl rfl⟩, Below.refl _ _⟩
  · have hd : decide (left - (n : Int) < 0) = false := by simp; omega
    go_enter Try.func15, Try.ntmps15
    go_wp2
    go_loopw [1, 5] (SzRelW left n (fun k => sumBy wtItem (l.take k)) w) (fun _ i _ => n - (intOf i).toNat)
    case atStart => exact ⟨⟨0, left - n, Nat.zero_le _, rfl, rfl, by omega, by simp [sumBy]⟩, Below.refl _ _⟩
    case round =>
      obtain ⟨⟨k, r, hk, rfl, rfl, hr0, hr⟩, hb⟩ := hrel
      have hr1 : r ≤ 1048576 := by omega
      have HR := Lib.hid hr; clear hr
      by_cases hlt : k < n
      · obtain ⟨b, off, x, rfl, hx, hok, -, c0, c1, c2⟩ := (ha.keep (same_below hb ha.lt)).itAt hlt
        have HX := Lib.hid (sumBy_take wtItem l hx)
        clear ha hx
        go_wp2_with fail
        refine (szItem_any x r _ hok hr0 hr1).mono ?_
        rintro e w' ⟨⟨r', rfl, hr'⟩, hb'⟩
        have hb2 := hb.trans (hb'.mono hb.size)
        rcases hr' with rfl | ⟨hr0', hr'⟩
        · go_wp2
          go_ret
          exact ⟨⟨-1, rfl, .inl rfl⟩, hb2⟩
        · have HR' := Lib.hid hr'; clear hr'
          go_wp2
          go_roundw
          case rel => exact ⟨⟨k + 1, r', by omega, by go_num, rfl, hr0', by have h1 := HX.out; have h2 := HR.out; have h3 := HR'.out; simp only at h2 ⊢; omega⟩, hb2⟩
          case measure => simp [intOf]; omega
      · go_wp2
        go_ret
        refine ⟨⟨r, rfl, .inr ⟨hr0, ?_⟩⟩, hb⟩
        rw [HR.out, sumBy_all _ _ (by rw [hl.out]; omega)]; unfold wtItems; rw [hl.out]; omega

theorem toItem_any (x : It) (w : World) (hx : ItOk x) :
    Calls Try.prog 59 #[itVal x] w fun e w' => e = .returned (itVal x) ∧ Below w.heap.size w w' := by
  go_enter Try.func59, Try.ntmps59
  go_wp2
  refine bodyPost_ret (v := itVal x) (by simp [results, Try.results59, go_sem]) rfl ⟨rfl, ?_⟩
  repeat (first | exact Below.refl _ _ | refine Below.setCell ?_ (by simp <;> omega) _ | refine Below.alloc ?_ (by simp <;> omega) _ | refine below_drewN ?_ _ | refine Below.drew ?_)

theorem Try.infoIt : (Try.prog.info? 25).map (fun i => (i.zero, i.size, i.bytes)) = some (some (.agg #[.int .i64 0, .int .i64 0, .string ByteArray.empty]), 3, 32) := by kernel_rfl

theorem toItemS_any (A : Option Addr) (n c : Nat) (fp : List Nat) (l : List It) (w : World) (ha : SlR Lay.item w fp l A n c) (hn : n ≤ 1048576) :
    Calls Try.prog 17 #[.slice A n c] w (RetOwn Lay.item 25 w l) := by
  have hm := ha.le
  have hl := Lib.hid ha.1
  obtain ⟨i0, hi, hz0, hz1, hz2⟩ := info_parts Try.infoIt
  go_enter Try.func17, Try.ntmps17
  go_wp2_with (at_make; refine wpList_make_full _ rfl _ _ 27 rfl w.heap.size 25 i0 (.agg #[.int .i64 0, .int .i64 0, .string ByteArray.empty]) 3 Try.underlying27 hi hz0 hz1 _ _ _ _ n rfl rfl (by omega) (by omega) (by rw [hz2]; omega) (by unfold maxLen; omega) (Nat.le_refl _) ?_; intro w1 hown1 hgr1)
  have hb1 : Below w.heap.size w w1 := (Below.refl _ _).grown hgr1 (Nat.le_refl _) (by simp)
  clear hi hz0 hz1 hz2 hgr1
  go_loopw [4] (ToRel Lay.item 25 it0 l n w) (fun i _ => n - (intOf i).toNat)
  case atStart => exact to_start (L := Lay.item) rfl hown1 ⟨rfl, rfl, by simp [ItOk, it0, In64]⟩ hb1
  case round =>
    clear hown1 hb1
    obtain ⟨k, es, hk, rfl, hown, hes, hb⟩ := hrel
    by_cases hlt : k < n
    · obtain ⟨b, off, x, rfl, hx, hok, -, c0, c1, c2⟩ := (ha.keep (same_below hb ha.lt)).itAt hlt
      have HA := Lib.hid ha
      clear ha
      go_wp2_with fail
      refine (toItem_any x _ hok).mono ?_
      rintro e w2 ⟨rfl, hb2⟩
      have R := to_step (e' := ⟨x, [], itCells x⟩) hl.out hlt hx hown hes hb hb2 ⟨rfl, rfl, hok⟩ (Ow.nil _ _)
      have hown2 := hown.keep hb2
      obtain ⟨u0, d0⟩ := own_cell hown2 (o := k * 3) (by simp [Lay.item]; omega)
      obtain ⟨u1, d1⟩ := own_cell hown2 (o := k * 3 + 1) (by simp [Lay.item]; omega)
      obtain ⟨u2, d2⟩ := own_cell hown2 (o := k * 3 + 2) (by simp [Lay.item]; omega)
      have e0 := own_frozen hown2 (k * 3)
      have e1 := own_frozen hown2 (k * 3 + 1)
      have e2 := own_frozen hown2 (k * 3 + 2)
      simp only [Lay.item, itCells, World.setCells] at R
      clear hown hown2 hes hb hb2 hx
      go_wp2
      go_roundw
      case rel => exact R
      case measure => simp [intOf]; omega
    · go_wp2
      go_ret
      exact to_end hl.out hlt hk hown hes hb

theorem eqItem_same (x : It) (w : World) :
    Calls Try.prog 19 #[itVal x, itVal x] w fun e w' => e = .returned (.bool true) ∧ Below w.heap.size w w' := by
  go_enter Try.func19, Try.ntmps19
  go_wp2
  go_ret
  exact ⟨rfl, by repeat (first | exact Below.refl _ _ | refine Below.setCell ?_ (by simp <;> omega) _ | refine Below.alloc ?_ (by simp <;> omega) _ | refine below_drewN ?_ _ | refine Below.drew ?_)⟩

set_option maxRecDepth 100000 in
theorem eqItemS_same (A B : Option Addr) (n c d : Nat) (f g : List Nat) (l : List It) (w : World) (ha : SlR Lay.item w f l A n c) (hb : SlR Lay.item w g l B n d) :
    Calls Try.prog 20 #[.slice A n c, .slice B n d] w fun e w' => e = .returned (.bool true) ∧ Below w.heap.size w w' := by
  have hm := ha.le
  go_enter Try.func20, Try.ntmps20
  go_wp2
  go_loopw [5] (fun i wr => ∃ k : Nat, k ≤ n ∧ i = .int .i64 k ∧ Below w.heap.size w wr) (fun i _ => n - (intOf i).toNat)
  case atStart => exact ⟨0, Nat.zero_le _, rfl, Below.refl _ _⟩
  case round =>
    obtain ⟨k, hk, rfl, hbr⟩ := hrel
    by_cases hlt : k < n
    · obtain ⟨b1, o1, x, rfl, hx, -, -, c0, c1, c2⟩ := (ha.keep (same_below hbr ha.lt)).itAt hlt
      obtain ⟨b2, o2, y, rfl, hy, -, -, d0, d1, d2⟩ := (hb.keep (same_below hbr hb.lt)).itAt hlt
      obtain rfl : x = y := by rw [hx] at hy; exact Option.some.inj hy
      clear ha hb hx hy
      go_wp2_with fail
      go_still_tail 8, (by kernel_rfl)
      change wpList _ _ _ _ _ wr.drew
      go_wp2_with fail
      refine (eqItem_same x _).mono ?_
      rintro e w' ⟨rfl, hb'⟩
      go_wp2
      go_roundw
      case rel => exact ⟨k + 1, by omega, by go_num, (below_drewN hbr 1).trans (hb'.mono hbr.size)⟩
      case measure => simp [intOf]; omega
    · go_wp2
      go_ret
      exact ⟨rfl, hbr⟩
end Go.Proofs.Ytlcnokbhoekpkaa
