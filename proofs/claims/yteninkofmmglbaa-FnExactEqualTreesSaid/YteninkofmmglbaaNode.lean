/- Nodes in memory; laws.szStringS, szNode, szNodeS. -/
import Derived.Test.YteninkofmmglbaaProg
import Derived.Test.YteninkofmmglbaaLay
namespace Go.Proofs.Yteninkofmmglbaa
open Go.RowKit
set_option linter.unusedVariables false
set_option linter.unusedSimpArgs false

structure Nd where
  kind : Int
  num : Int
  text : ByteArray
  labels : List ByteArray
  kids : Int
  deriving DecidableEq

def ndCells (x : Nd) (A : Option Addr) (n c : Nat) : List Value := [.int .i64 x.kind, .int .i64 x.num, .string x.text, .slice A n c, .int .i64 x.kids]
def NdOk (x : Nd) : Prop := In64 x.kind ∧ In64 x.num ∧ In64 x.kids ∧ x.text.size ≤ maxLen

def Lay.node : Lay Nd where
  size := 5
  R := fun w f x c => ∃ A n cp, c = ndCells x A n cp ∧ SlR Lay.str w f x.labels A n cp ∧ NdOk x
  pos := by decide
  len := by rintro w f x c ⟨_, _, _, rfl, _⟩; rfl
  one := by rintro w f x c ⟨_, _, _, rfl, _⟩ u hu; simp [ndCells] at hu; rcases hu with rfl | rfl | rfl | rfl | rfl <;> rfl
  keep := by rintro w w' f x c ⟨A, n, cp, rfl, h, h2⟩ hk; exact ⟨A, n, cp, rfl, h.keep hk, h2⟩
  lt := by rintro w f x c ⟨A, n, cp, rfl, h, _⟩; exact h.lt

theorem ret_i {k : IntKind} {a b : Int} (h : a = b) : Ending.returned (.int k a) = .returned (.int k b) := by rw [h]

def sumBy {α : Type} (f : α → Nat) (l : List α) : Nat := (l.map f).sum
theorem sumBy_take {α : Type} (f : α → Nat) (l : List α) {k : Nat} {x : α} (h : l[k]? = some x) : sumBy f (l.take (k + 1)) = sumBy f (l.take k) + f x := by
  obtain ⟨hk, rfl⟩ := List.getElem?_eq_some_iff.1 h
  unfold sumBy
  rw [List.take_succ_eq_append_getElem hk, List.map_append, List.sum_append]; simp
theorem sumBy_all {α : Type} (f : α → Nat) (l : List α) {k : Nat} (h : l.length ≤ k) : sumBy f (l.take k) = sumBy f l := by rw [List.take_of_length_le h]

def wtStrs (l : List ByteArray) : Nat := l.length + sumBy ByteArray.size l
def wtNode (x : Nd) : Nat := x.text.size + wtStrs x.labels
def wtNodes (l : List Nd) : Nat := l.length + sumBy wtNode l

theorem le_sumBy {α : Type} (f : α → Nat) {l : List α} {x : α} (h : x ∈ l) : f x ≤ sumBy f l := by
  induction l with
  | nil => cases h
  | cons a l ih =>
    have e : sumBy f (a :: l) = f a + sumBy f l := by simp [sumBy]
    rw [e]
    rcases List.mem_cons.1 h with rfl | h
    · omega
    · have := ih h; omega
theorem wtNodes_le {l : List Nd} {M : Nat} (h : wtNodes l ≤ M) : l.length ≤ M ∧ ∀ x ∈ l, x.labels.length ≤ M ∧ x.text.size ≤ M := by
  unfold wtNodes at h
  refine ⟨by omega, fun x hx => ?_⟩
  have h2 : x.text.size + (x.labels.length + sumBy ByteArray.size x.labels) ≤ sumBy wtNode l := le_sumBy wtNode hx
  omega

/-- what is left: -1, or the number less the weight -/
def Left (left : Int) (wt : Nat) (e : Ending) : Prop := ∃ r : Int, e = .returned (.int .i64 r) ∧ (r = -1 ∨ (0 ≤ r ∧ r = left - wt))

def SzRel (left : Int) (n : Nat) (sz : Nat → Nat) (v1 v5 : Value) : Prop := ∃ (k : Nat) (r : Int), k ≤ n ∧ v5 = .int .i64 k ∧ v1 = .int .i64 r ∧ 0 ≤ r ∧ r = left - n - sz k

theorem szStringS_any (A : Option Addr) (n c : Nat) (left : Int) (fp : List Nat) (l : List ByteArray) (w : World) (ha : SlR Lay.str w fp l A n c) (h0 : 0 ≤ left) (h1 : left ≤ 1048576) :
    Calls Try.prog 54 #[.slice A n c, .int .i64 left] w fun e w' => Left left (wtStrs l) e ∧ w = w' := by
  have hm := ha.le
  have hl := Lib.hid ha.1
  by_cases hn : left - n < 0
  · go_enter Try.func54, Try.ntmps54
    go_wp2
    go_ret
    exact ⟨⟨-1, rfl, .inl rfl⟩, rfl⟩
  · have hd : decide (left - (n : Int) < 0) = false := by simp; omega
    go_enter Try.func54, Try.ntmps54
    go_wp2
    go_loop [1, 5] (SzRel left n (fun k => sumBy ByteArray.size (l.take k))) (fun _ i => n - (intOf i).toNat)
    case atStart => exact ⟨0, left - n, Nat.zero_le _, rfl, rfl, by omega, by simp [sumBy]⟩
    case round =>
      obtain ⟨k, r, hk, rfl, rfl, hr0, hr⟩ := hrel
      have hr1 : r ≤ 1048576 := by omega
      have HR := Lib.hid hr; clear hr
      by_cases hlt : k < n
      · obtain ⟨b, off, x, rfl, hx, hxs, -, c1⟩ := ha.strAt hlt
        have HX := Lib.hid (sumBy_take ByteArray.size l hx)
        clear ha hx
        go_wp2
        · go_ret
          exact ⟨⟨-1, rfl, .inl rfl⟩, rfl⟩
        · go_round
          case rel => exact ⟨k + 1, r - x.size, by omega, by go_num, rfl, by omega, by have h1 := HX.out; have h2 := HR.out; simp only at h2 ⊢; omega⟩
          case measure => simp [intOf]; omega
      · go_wp2
        go_ret
        refine ⟨⟨r, rfl, .inr ⟨hr0, ?_⟩⟩, rfl⟩
        rw [HR.out, sumBy_all _ _ (by rw [hl.out]; omega)]; unfold wtStrs; rw [hl.out]; omega

/-- a node as a value -/
abbrev ndVal (x : Nd) (A : Option Addr) (n c : Nat) : Value := .agg #[.int .i64 x.kind, .int .i64 x.num, .string x.text, .slice A n c, .int .i64 x.kids]

theorem szNode_any (x : Nd) (A : Option Addr) (n c : Nat) (left : Int) (fp : List Nat) (w : World) (ha : SlR Lay.str w fp x.labels A n c) (hx : NdOk x) (h0 : 0 ≤ left) (h1 : left ≤ 1048576) :
    Calls Try.prog 32 #[ndVal x A n c, .int .i64 left] w fun e w' => Left left (wtNode x) e ∧ Below w.heap.size w w' := by
  obtain ⟨kind, num, text, labels, kids⟩ := x
  obtain ⟨-, -, -, ht⟩ := hx
  simp only [ndVal, wtNode] at *
  unfold maxLen at ht
  have hA := Lib.hid ha
  by_cases hn : left - text.size < 0
  · go_enter Try.func32, Try.ntmps32
    go_wp2
    go_ret
    exact ⟨⟨-1, rfl, .inl rfl⟩, (Below.refl _ _).alloc (Nat.le_refl _) _⟩
  · go_enter Try.func32, Try.ntmps32
    go_wp2_with fail
    refine (szStringS_any A n c _ fp labels _ (hA.out.keep (same_alloc _ hA.out.lt)) (by omega) (by omega)).mono ?_
    rintro e w' ⟨⟨r, rfl, hr⟩, rfl⟩
    rcases hr with rfl | ⟨hr0, hr⟩
    · go_wp2
      go_ret
      exact ⟨⟨-1, rfl, .inl rfl⟩, (Below.refl _ _).alloc (Nat.le_refl _) _⟩
    · have HR := Lib.hid hr; clear hr
      go_wp2
      go_ret
      exact ⟨⟨r, rfl, .inr ⟨hr0, by have := HR.out; omega⟩⟩, (Below.refl _ _).alloc (Nat.le_refl _) _⟩

def SzRelW (left : Int) (n : Nat) (sz : Nat → Nat) (w : World) (v1 v5 : Value) (wr : World) : Prop := SzRel left n sz v1 v5 ∧ Below w.heap.size w wr

theorem szNodeS_any (A : Option Addr) (n c : Nat) (left : Int) (fp : List Nat) (l : List Nd) (w : World) (ha : SlR Lay.node w fp l A n c) (h0 : 0 ≤ left) (h1 : left ≤ 1048576) :
    Calls Try.prog 10 #[.slice A n c, .int .i64 left] w fun e w' => Left left (wtNodes l) e ∧ Below w.heap.size w w' := by
  have hm := ha.le
  have hl := Lib.hid ha.1
  by_cases hn : left - n < 0
  · go_enter Try.func10, Try.ntmps10
    go_wp2
    go_ret
    exact ⟨⟨-1, rfl, .inl rfl⟩, Below.refl _ _⟩
  · have hd : decide (left - (n : Int) < 0) = false := by simp; omega
    go_enter Try.func10, Try.ntmps10
    go_wp2
    go_loopw [1, 5] (SzRelW left n (fun k => sumBy wtNode (l.take k)) w) (fun _ i _ => n - (intOf i).toNat)
    case atStart => exact ⟨⟨0, left - n, Nat.zero_le _, rfl, rfl, by omega, by simp [sumBy]⟩, Below.refl _ _⟩
    case round =>
      obtain ⟨⟨k, r, hk, rfl, rfl, hr0, hr⟩, hb⟩ := hrel
      have hr1 : r ≤ 1048576 := by omega
      have HR := Lib.hid hr; clear hr
      by_cases hlt : k < n
      · have hak := ha.keep (same_below hb ha.lt)
        obtain ⟨b, off, x, f, cs, rfl, hx, hf, -, ⟨A', n', c', rfl, hsl, hok⟩, hc⟩ := hak.at_ hlt
        have HX := Lib.hid (sumBy_take wtNode l hx)
        simp only [Lay.node] at hc
        have c0 := hc 0 _ rfl; rw [Nat.add_zero] at c0
        have c1 := hc 1 _ rfl
        have c2 := hc 2 _ rfl
        have c3 := hc 3 _ rfl
        have c4 := hc 4 _ rfl
        have HS := Lib.hid hsl
        clear ha hak hx hc hsl
        go_wp2_with fail
        refine (szNode_any x A' n' c' r f _ HS.out hok hr0 hr1).mono ?_
        rintro e w' ⟨⟨r', rfl, hr'⟩, hb'⟩
        have hb2 := hb.trans (hb'.mono hb.size)
        rcases hr' with rfl | ⟨hr0', hr'⟩
        · go_wp2
          go_ret
          exact ⟨⟨-1, rfl, .inl rfl⟩, hb2⟩
        · have HR' := Lib.hid hr'; clear hr'
          go_wp2
          go_roundw
          case rel => exact ⟨⟨k + 1, r', by omega, by go_num, rfl, hr0', by have h1 := HX.out; have h2 := HR.out; have h3 := HR'.out; simp only at h2 ⊢; omega⟩, hb2⟩
          case measure => simp [intOf]; omega
      · go_wp2
        go_ret
        refine ⟨⟨r, rfl, .inr ⟨hr0, ?_⟩⟩, hb⟩
        rw [HR.out, sumBy_all _ _ (by rw [hl.out]; omega)]; unfold wtNodes; rw [hl.out]; omega

theorem eqStringS_same (A B : Option Addr) (n c d : Nat) (f g : List Nat) (l : List ByteArray) (w : World) (ha : SlR Lay.str w f l A n c) (hb : SlR Lay.str w g l B n d) :
    Calls Try.prog 19 #[.slice A n c, .slice B n d] w fun e w' => e = .returned (.bool true) ∧ ∃ m, w' = w.drewN m := by
  have hm := ha.le
  go_enter Try.func19, Try.ntmps19
  go_wp2
  go_loopw [5] (fun i wr => ∃ k m : Nat, k ≤ n ∧ i = .int .i64 k ∧ wr = w.drewN m) (fun i _ => n - (intOf i).toNat)
  case atStart => exact ⟨0, 0, Nat.zero_le _, rfl, rfl⟩
  case round =>
    obtain ⟨k, m, hk, rfl, rfl⟩ := hrel
    by_cases hlt : k < n
    · obtain ⟨b1, o1, x, rfl, hx, hxs, -, c1⟩ := ha.strAt hlt
      obtain ⟨b2, o2, y, rfl, hy, hys, -, c2⟩ := hb.strAt hlt
      obtain rfl : x = y := by rw [hx] at hy; exact Option.some.inj hy
      clear ha hb hx hy
      go_wp2
      go_quiet (fail)
      go_wp2
      go_roundw
      case rel => exact ⟨k + 1, _, by omega, by go_num, rfl⟩
      case measure => simp [intOf]; omega
    · go_wp2
      go_ret
      exact ⟨rfl, m, rfl⟩

theorem eqNode_same (x : Nd) (A B : Option Addr) (n c d : Nat) (f g : List Nat) (w : World) (ha : SlR Lay.str w f x.labels A n c) (hb : SlR Lay.str w g x.labels B n d) (hx : NdOk x) :
    Calls Try.prog 36 #[ndVal x A n c, ndVal x B n d] w fun e w' => e = .returned (.bool true) ∧ Below w.heap.size w w' := by
  obtain ⟨kind, num, text, labels, kids⟩ := x
  simp only [ndVal] at *
  have hA := Lib.hid ha
  have hB := Lib.hid hb
  clear ha hb
  go_enter Try.func36, Try.ntmps36
  go_wp2_with fail
  refine (eqStringS_same A B n c d f g labels _ ((hA.out.alloc _).alloc _) ((hB.out.alloc _).alloc _)).mono ?_
  rintro e w' ⟨rfl, m, rfl⟩
  go_wp2
  go_ret
  exact ⟨rfl, below_drewN (((Below.refl _ _).alloc (Nat.le_refl _) _).alloc (by simp) _) m⟩

theorem eqNodeS_same (A B : Option Addr) (n c d : Nat) (f g : List Nat) (l : List Nd) (w : World) (ha : SlR Lay.node w f l A n c) (hb : SlR Lay.node w g l B n d) :
    Calls Try.prog 14 #[.slice A n c, .slice B n d] w fun e w' => e = .returned (.bool true) ∧ Below w.heap.size w w' := by
  have hm := ha.le
  go_enter Try.func14, Try.ntmps14
  go_wp2
  go_loopw [5] (fun i wr => ∃ k : Nat, k ≤ n ∧ i = .int .i64 k ∧ Below w.heap.size w wr) (fun i _ => n - (intOf i).toNat)
  case atStart => exact ⟨0, Nat.zero_le _, rfl, Below.refl _ _⟩
  case round =>
    obtain ⟨k, hk, rfl, hbr⟩ := hrel
    by_cases hlt : k < n
    · obtain ⟨b1, o1, x, f1, cs, rfl, hx, -, -, ⟨A', n', c', rfl, hsl, hok⟩, hc⟩ := (ha.keep (same_below hbr ha.lt)).at_ hlt
      obtain ⟨b2, o2, y, f2, ds, rfl, hy, -, -, ⟨B', m', d', rfl, hsl', hok'⟩, hd⟩ := (hb.keep (same_below hbr hb.lt)).at_ hlt
      obtain rfl : x = y := by rw [hx] at hy; exact Option.some.inj hy
      obtain rfl : n' = m' := by rw [← hsl.1, ← hsl'.1]
      simp only [Lay.node] at hc hd
      have c0 := hc 0 _ rfl; rw [Nat.add_zero] at c0
      have c1 := hc 1 _ rfl
      have c2 := hc 2 _ rfl
      have c3 := hc 3 _ rfl
      have c4 := hc 4 _ rfl
      have d0 := hd 0 _ rfl; rw [Nat.add_zero] at d0
      have d1 := hd 1 _ rfl
      have d2 := hd 2 _ rfl
      have d3 := hd 3 _ rfl
      have d4 := hd 4 _ rfl
      have HS := Lib.hid hsl
      have HS' := Lib.hid hsl'
      clear ha hb hx hy hc hd hsl hsl'
      go_wp2_with fail
      go_still_tail 8, (by kernel_rfl)
      change wpList _ _ _ _ _ wr.drew
      go_wp2_with fail
      refine (eqNode_same x A' B' n' c' d' f1 f2 _ (HS.out.drewN 1) (HS'.out.drewN 1) hok).mono ?_
      rintro e w' ⟨rfl, hb'⟩
      go_wp2
      go_roundw
      case rel => exact ⟨k + 1, by omega, by go_num, (below_drewN hbr 1).trans (hb'.mono hbr.size)⟩
      case measure => simp [intOf]; omega
    · go_wp2
      go_ret
      exact ⟨rfl, hbr⟩
end Go.Proofs.Yteninkofmmglbaa
