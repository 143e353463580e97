/- spec.ShuffleOf and impl.ShuffleOf, spec.SampleOf and impl.SampleOf. -/
import Derived.Test.YtjfbmepjojnfiaaRndMath
import Derived.Test.YtjfbmepjojnfiaaIntS
namespace Go.Proofs.Ytjfbmepjojnfiaa
open Go.RowKit
set_option linter.unusedVariables false
set_option linter.unusedSimpArgs false

/-- 1, 2, .., k -/
def upTo (k : Nat) : List Int := (List.range k).map fun j : Nat => (j : Int) + 1
theorem upTo_len (k : Nat) : (upTo k).length = k := by simp [upTo]
theorem upTo_succ (k : Nat) : upTo (k + 1) = upTo k ++ [(k : Int) + 1] := by simp [upTo, List.range_succ]

def swapAt (zs : List Int) (i k : Nat) : List Int := (zs.set i (zs.getD k 0)).set k (zs.getD i 0)
theorem swapAt_len (zs : List Int) (i k : Nat) : (swapAt zs i k).length = zs.length := by simp [swapAt]

/-- the rounds i, i - 1, .., 1 -/
def shufGo : Nat → List Int → Int → List Int × Int
  | 0, zs, s => (zs, s)
  | i + 1, zs, s => shufGo i (swapAt zs (i + 1) (belowA s ((i : Int) + 1 + 1)).toNat) (belowB s ((i : Int) + 1 + 1))

def shufOk (s n : Int) : Bool := decide (0 ≤ s ∧ s ≤ 65535) && decide (0 ≤ n ∧ n ≤ 40)
def shufOf (s n : Int) : List Int × Int := if shufOk s n = true then shufGo (n.toNat - 1) (upTo n.toNat) s else ([], 0)

theorem shufGo_len (i : Nat) : ∀ (zs : List Int) (s : Int), (shufGo i zs s).1.length = zs.length := by
  induction i with
  | zero => intro zs s; rfl
  | succ i ih => intro zs s; rw [shufGo, ih, swapAt_len]

theorem below_ok {s n : Int} (h1 : 0 ≤ s) (h2 : s ≤ 65535) (h3 : 1 ≤ n) (h4 : n ≤ 65535) : 0 ≤ belowA s n ∧ belowA s n < n ∧ 0 ≤ belowB s n ∧ belowB s n ≤ 65535 := by
  have h : belowOk s n = true := by simp [belowOk]; omega
  have hr := nextS_in h1 h2
  unfold belowA belowB
  rw [if_pos h, if_pos h]
  exact ⟨Int.emod_nonneg _ (by omega), Int.emod_lt_of_pos _ (by omega), hr.1, hr.2⟩

theorem Try.infoI : (Try.prog.info? 3).map (fun i => (i.zero, i.size, i.bytes)) = some (some (.int .i64 0), 1, 8) := by kernel_rfl

/-- behind k rounds of the first loop -/
def FillRel (w : World) (n : Nat) (v6 v7 : Value) (wr : World) : Prop :=
  ∃ k : Nat, k ≤ n ∧ v7 = .int .i64 ((k : Int) + 1) ∧ wr.ownsRow w.heap.size 3 1 v6 k (ints (upTo k)) ∧ Below w.heap.size w wr

/-- ahead of round i of the second loop -/
def SwapRel (w : World) (n : Nat) (tgt : List Int × Int) (v0 v6 v8 : Value) (wr : World) : Prop :=
  ∃ (i : Nat) (I s : Int) (zs : List Int), (I = i ∨ (I = -1 ∧ i = 0)) ∧ (i < n ∨ i = 0) ∧ 0 ≤ s ∧ s ≤ 65535 ∧ zs.length = n ∧ v0 = .int .i64 s ∧ v8 = .int .i64 I ∧
    wr.ownsRow w.heap.size 3 1 v6 n (ints zs) ∧ Below w.heap.size w wr ∧ shufGo i zs s = tgt


theorem own_empty (w : World) (e : TypeId) : (w.alloc (.cells #[] e)).ownsRow w.heap.size e 1 (.slice (some ⟨w.heap.size, 0, none⟩) 0 0) 0 (ints []) :=
  World.ownsRow_lit w #[] 0 (Nat.le_refl _) (Nat.zero_le _) rfl

theorem shuf_pos {s n : Int} (h : 0 ≤ s ∧ s ≤ 65535) (h3 : 0 ≤ n ∧ n ≤ 40) : shufOf s n = shufGo (n.toNat - 1) (upTo n.toNat) s := by
  unfold shufOf; rw [if_pos (by simp [shufOk]; omega)]
theorem shuf_neg {s n : Int} (h : ¬ ((0 ≤ s ∧ s ≤ 65535) ∧ 0 ≤ n ∧ n ≤ 40)) : shufOf s n = ([], 0) := by
  unfold shufOf; rw [if_neg (by simp [shufOk]; omega)]

/-- what a round of the second loop does -/
theorem swap_step {w wr : World} {n i g cap k : Nat} {s s' : Int} {zs : List Int} {tgt : List Int × Int} {a b : Int} (hi : i + 1 < n) (hl : zs.length = n) (hk : k ≤ i + 1)
    (hA : belowA s ((i : Int) + 1 + 1) = k) (hB : belowB s ((i : Int) + 1 + 1) = s') (hs1 : 0 ≤ s') (hs2 : s' ≤ 65535)
    (ha : zs[i + 1]? = some a) (hb : zs[k]? = some b)
    (hown : wr.ownsRow w.heap.size 3 1 (.slice (some ⟨g, 0, none⟩) n cap) n (ints zs)) (hbel : Below w.heap.size w wr) (hg : w.heap.size ≤ g) (ht : shufGo (i + 1) zs s = tgt) :
    SwapRel w n tgt (.int .i64 s') (.slice (some ⟨g, 0, none⟩) n cap) (.int .i64 (i : Int)) ((wr.setCell ⟨g, i + 1, none⟩ (.int .i64 b)).setCell ⟨g, k, none⟩ (.int .i64 a)) := by
  have h1 := hown.stored (i + 1) (.int .i64 b)
  have h2 := h1.1.stored k (.int .i64 a)
  rw [ints_set, ints_set] at h2
  refine ⟨i, i, s', _, .inl rfl, .inl (by omega), hs1, hs2, ?_, rfl, rfl, h2.1, (hbel.setCell hg _).setCell hg _, ?_⟩
  · simp [hl]
  · rw [← ht, shufGo, hA, hB, Int.toNat_natCast, swapAt, List.getD_eq_getElem?_getD, List.getD_eq_getElem?_getD, ha, hb]; rfl

theorem SwapRel.drew {w wr : World} {n : Nat} {tgt : List Int × Int} {v0 v6 v8 : Value} (h : SwapRel w n tgt v0 v6 v8 wr) : SwapRel w n tgt v0 v6 v8 wr.drew := by
  obtain ⟨i, I, s, zs, h1, h2, h3, h4, h5, h6, h7, h8, h9, h10⟩ := h
  exact ⟨i, I, s, zs, h1, h2, h3, h4, h5, h6, h7, h8.drew, h9.drew, h10⟩

theorem fill_step {w wr w1 : World} {n k : Nat} {v v' : Value} {o : Obj} (hk : k < n) (hown : wr.ownsRow w.heap.size 3 1 v k (ints (upTo k))) (hb : Below w.heap.size w wr)
    (hown' : w1.ownsRow w.heap.size 3 1 v' (k + 1) (ints (upTo k) ++ [.int .i64 ((k : Int) + 1)])) (hg : (wr.alloc o).grownBy w1 v.ownBlock) :
    FillRel w n v' (.int .i64 ((k : Int) + 1 + 1)) w1 := by
  refine ⟨k + 1, hk, by go_num, ?_, (hb.alloc hb.size _).grown hg (by simp; have := hb.size; omega) (fun g hg => (own_blk hown hg).1)⟩
  rw [upTo_succ, ints_app]; exact hown'

set_option maxHeartbeats 400000 in
theorem specShuf_any (s n : Int) (w : World) :
    Calls Try.prog 14 #[.int .i64 s, .int .i64 n] w fun e w' => ∃ v, e = .returned (.tuple #[v, .int .i64 (shufOf s n).2]) ∧
      w'.ownsRow w.heap.size 3 1 v (shufOf s n).1.length (ints (shufOf s n).1) ∧ Below w.heap.size w w' := by
  by_cases h : 0 ≤ s ∧ s ≤ 65535
  · by_cases h3 : 0 ≤ n ∧ n ≤ 40
    · obtain ⟨n, rfl⟩ := Int.eq_ofNat_of_zero_le h3.1
      have hn : n ≤ 40 := by omega
      have H := Lib.hid (shuf_pos h h3); rw [Int.toNat_natCast] at H
      obtain ⟨h1, h2⟩ := h
      clear h3
      obtain ⟨i0, hi, hz0, hz1, hz2⟩ := info_parts Try.infoI
      go_enter Try.func14, Try.ntmps14
      go_wp2_with fail
      refine (in_b _ _ _ true _ (by simp; omega)).mono ?_
      rintro e w' ⟨rfl, rfl⟩
      go_wp2_with fail
      refine (in_b _ _ _ true _ (by simp; omega)).mono ?_
      rintro e w' ⟨rfl, rfl⟩
      go_wp2_with fail
      go_loopw [6, 7] (FillRel w n) (fun _ i _ => n + 1 - (intOf i).toNat)
      case atStart => exact ⟨0, Nat.zero_le _, rfl, own_empty w _, (Below.refl _ _).alloc (Nat.le_refl _) _⟩
      case round =>
        obtain ⟨k, hk, rfl, hown, hb⟩ := hrel
        by_cases hlt : k < n
        · go_wp2_with (at_builtin; refine wpList_append_own _ rfl _ _ 28 rfl w.heap.size 3 i0 (.int .i64 0) 1 8 Try.underlying28 hi hz0 hz1 hz2 rfl (by decide) _ _ _ rfl (hown.alloc _) ⟨wr.heap.size, 0, none⟩ 1 1 [.int .i64 ((k : Int) + 1)] rfl rfl (cell_one_new _ _ _) (by intro u hu; simp at hu; subst hu; rfl) (by unfold maxLen; omega) (by omega) (by have := hb.size; simp; omega) ?_)
          intro v' w1 hown' hgrow _
          have R := fill_step hlt hown hb hown' hgrow
          clear hown hb hown' hgrow
          go_wp2
          go_roundw
          case rel => exact R
          case measure => simp [intOf]; omega
        · obtain rfl : k = n := by omega
          clear hi hz0 hz1 hz2
          obtain ⟨A, c, rfl, -, -⟩ := own_shape hown
          go_wp2
          go_loopw [0, 8] (fun v0 v8 wr => SwapRel w k (shufOf s k) v0 (.slice A k c) v8 wr) (fun _ i _ => (intOf i).toNat)
          case atStart => exact ⟨k - 1, (k : Int) - 1, s, _, by omega, by omega, h1, h2, upTo_len k, rfl, rfl, hown, hb, H.out.symm⟩
          case round =>
            clear hown hb
            obtain ⟨i, I, s', zs, hI, hik, hs1, hs2, hl, rfl, rfl, hown, hb, ht⟩ := hrel
            by_cases hi0 : 0 < i
            · obtain ⟨i, rfl⟩ : ∃ j, i = j + 1 := ⟨i - 1, by omega⟩
              obtain rfl : I = (i : Int) + 1 := by omega
              obtain ⟨q1, q2, q3, q4⟩ := below_ok hs1 hs2 (n := (i : Int) + 1 + 1) (by omega) (by omega)
              obtain ⟨kk, hkk⟩ := Int.eq_ofNat_of_zero_le q1
              obtain ⟨g, cap, hv, hg1, hg2⟩ := hown.form (by omega)
              injection hv with e1 e2 e3
              subst e1 e3
              have R := fun s2 hB => swap_step (w := w) (k := kk) (by omega) hl (by omega) hkk (s' := s2) hB (by rw [← hB]; omega) (by rw [← hB]; omega) (List.getElem?_eq_getElem (by omega)) (List.getElem?_eq_getElem (by omega)) hown hb hg1 ht
              have c1 := (hown.cellAt (i + 1) (by omega)).trans (ints_get zs (by omega))
              have c2 := (hown.cellAt kk (by omega)).trans (ints_get zs (by omega))
              have f1 := hown.frozenAt (i + 1)
              have f2 := hown.frozenAt kk
              have R' := R _ rfl
              clear R
              generalize hz1 : zs[i + 1] = za at c1 R'
              generalize hz2 : zs[kk] = zb at c2 R'
              obtain ⟨vv, c3⟩ : ∃ vv, (wr.setCell ⟨g, i + 1, none⟩ (.int .i64 zb)).cell? ⟨g, kk, none⟩ = some vv := by
                refine ⟨_, (((hown.stored (i + 1) (.int .i64 zb)).1).cellAt kk (by omega)).trans (List.getElem?_eq_getElem (by simp [ints_len]; omega))⟩
              have HK := Lib.hid hkk; have HT := Lib.hid ht; have HL := Lib.hid hl
              have hkl : kk ≤ i + 1 := by omega
              clear hkk ht hl hown hb hz1 hz2 hI
              go_wp2_with fail
              refine (specBelow_any _ _ _).mono ?_
              rintro e w' ⟨rfl, rfl⟩
              rw [HK.out]
              go_wp2
              go_roundw
              case rel => exact R'
              case measure => simp [intOf]
            · go_wp2
              go_ret2
              obtain rfl : i = 0 := by omega
              rw [shufGo] at ht
              rw [← ht]
              exact ⟨_, rfl, by rw [hl]; exact hown, hb⟩
    · have H1 := Lib.hid (shuf_neg (s := s) (n := n) (by omega))
      go_enter Try.func14, Try.ntmps14
      go_wp2_with fail
      refine (in_b _ _ _ true _ (by simp; omega)).mono ?_
      rintro e w' ⟨rfl, rfl⟩
      go_wp2_with fail
      refine (in_b _ _ _ false _ (by simp; omega)).mono ?_
      rintro e w' ⟨rfl, rfl⟩
      go_wp2_with fail
      go_ret2
      rw [H1.out]
      exact ⟨_, rfl, own_empty w _, (Below.refl _ _).alloc (Nat.le_refl _) _⟩
  · have H1 := Lib.hid (shuf_neg (s := s) (n := n) (by omega))
    go_enter Try.func14, Try.ntmps14
    go_wp2_with fail
    refine (in_b _ _ _ false _ (by simp; omega)).mono ?_
    rintro e w' ⟨rfl, rfl⟩
    go_wp2_with fail
    go_ret2
    rw [H1.out]
    exact ⟨_, rfl, own_empty w _, (Below.refl _ _).alloc (Nat.le_refl _) _⟩

set_option maxHeartbeats 400000 in
theorem implShuf_any (s n : Int) (w : World) :
    Calls Try.prog 15 #[.int .i64 s, .int .i64 n] w fun e w' => ∃ v, e = .returned (.tuple #[v, .int .i64 (shufOf s n).2]) ∧
      w'.ownsRow w.heap.size 3 1 v (shufOf s n).1.length (ints (shufOf s n).1) ∧ Below w.heap.size w w' := by
  by_cases h : 0 ≤ s ∧ s ≤ 65535
  · by_cases h3 : n < 0
    · have H1 := Lib.hid (shuf_neg (s := s) (n := n) (by omega))
      go_enter Try.func15, Try.ntmps15
      go_wp2_with (go_at_call 22; refine (isState_b _ true _ (by simp; omega)).mono ?_; rintro e w' ⟨rfl, rfl⟩)
      go_ret2
      rw [H1.out]
      exact ⟨_, rfl, World.ownsRow_nil _ _ _ _, Below.refl _ _⟩
    · by_cases h4 : 40 < n
      · have H1 := Lib.hid (shuf_neg (s := s) (n := n) (by omega))
        go_enter Try.func15, Try.ntmps15
        go_wp2_with (go_at_call 22; refine (isState_b _ true _ (by simp; omega)).mono ?_; rintro e w' ⟨rfl, rfl⟩)
        go_ret2
        rw [H1.out]
        exact ⟨_, rfl, World.ownsRow_nil _ _ _ _, Below.refl _ _⟩
      · obtain ⟨n, rfl⟩ := Int.eq_ofNat_of_zero_le (by omega : 0 ≤ n)
        have hn : n ≤ 40 := by omega
        have H := Lib.hid (shuf_pos (s := s) (n := n) h (by omega)); rw [Int.toNat_natCast] at H
        obtain ⟨h1, h2⟩ := h
        have hd1 : decide ((n : Int) < 0) = false := by simp
        have hd2 : decide (40 < (n : Int)) = false := by simp; omega
        clear h3 h4
        obtain ⟨i0, hi, hz0, hz1, hz2⟩ := info_parts Try.infoI
        go_enter Try.func15, Try.ntmps15
        go_wp2_with (go_at_call 22; refine (isState_b _ true _ (by simp; omega)).mono ?_; rintro e w' ⟨rfl, rfl⟩)
        go_loopw [6, 7] (FillRel w n) (fun _ i _ => n + 1 - (intOf i).toNat)
        case atStart => exact ⟨0, Nat.zero_le _, rfl, World.ownsRow_nil _ _ _ _, Below.refl _ _⟩
        case round =>
          obtain ⟨k, hk, rfl, hown, hb⟩ := hrel
          by_cases hlt : k < n
          · go_wp2_with (at_builtin; refine wpList_append_own _ rfl _ _ 28 rfl w.heap.size 3 i0 (.int .i64 0) 1 8 Try.underlying28 hi hz0 hz1 hz2 rfl (by decide) _ _ _ rfl (hown.alloc _) ⟨wr.heap.size, 0, none⟩ 1 1 [.int .i64 ((k : Int) + 1)] rfl rfl (cell_one_new _ _ _) (by intro u hu; simp at hu; subst hu; rfl) (by unfold maxLen; omega) (by omega) (by have := hb.size; simp; omega) ?_)
            intro v' w1 hown' hgrow _
            have R := fill_step hlt hown hb hown' hgrow
            clear hown hb hown' hgrow
            go_wp2
            go_roundw
            case rel => exact R
            case measure => simp [intOf]; omega
          · obtain rfl : k = n := by omega
            clear hi hz0 hz1 hz2
            obtain ⟨A, c, rfl, -, -⟩ := own_shape hown
            go_wp2
            go_loopw [0, 8] (fun v0 v8 wr => SwapRel w k (shufOf s k) v0 (.slice A k c) v8 wr) (fun _ i _ => (intOf i).toNat)
            case atStart => exact ⟨k - 1, (k : Int) - 1, s, _, by omega, by omega, h1, h2, upTo_len k, rfl, rfl, hown, hb, H.out.symm⟩
            case round =>
              clear hown hb
              obtain ⟨i, I, s', zs, hI, hik, hs1, hs2, hl, rfl, rfl, hown, hb, ht⟩ := hrel
              by_cases hi0 : 0 < i
              · obtain ⟨i, rfl⟩ : ∃ j, i = j + 1 := ⟨i - 1, by omega⟩
                obtain rfl : I = (i : Int) + 1 := by omega
                obtain ⟨q1, q2, q3, q4⟩ := below_ok hs1 hs2 (n := (i : Int) + 1 + 1) (by omega) (by omega)
                obtain ⟨kk, hkk⟩ := Int.eq_ofNat_of_zero_le q1
                obtain ⟨g, cap, hv, hg1, hg2⟩ := hown.form (by omega)
                injection hv with e1 e2 e3
                subst e1 e3
                have R := fun s2 hB => swap_step (w := w) (k := kk) (by omega) hl (by omega) hkk (s' := s2) hB (by rw [← hB]; omega) (by rw [← hB]; omega) (List.getElem?_eq_getElem (by omega)) (List.getElem?_eq_getElem (by omega)) hown hb hg1 ht
                have c1 := (hown.cellAt (i + 1) (by omega)).trans (ints_get zs (by omega))
                have c2 := (hown.cellAt kk (by omega)).trans (ints_get zs (by omega))
                have f1 := hown.frozenAt (i + 1)
                have f2 := hown.frozenAt kk
                have R' := R _ rfl
                clear R
                generalize hz1 : zs[i + 1] = za at c1 R'
                generalize hz2 : zs[kk] = zb at c2 R'
                obtain ⟨vv, c3⟩ : ∃ vv, (wr.setCell ⟨g, i + 1, none⟩ (.int .i64 zb)).cell? ⟨g, kk, none⟩ = some vv := by
                  refine ⟨_, (((hown.stored (i + 1) (.int .i64 zb)).1).cellAt kk (by omega)).trans (List.getElem?_eq_getElem (by simp [ints_len]; omega))⟩
                have HK := Lib.hid hkk; have HT := Lib.hid ht; have HL := Lib.hid hl
                have hkl : kk ≤ i + 1 := by omega
                clear hkk ht hl hown hb hz1 hz2 hI
                go_wp2_with fail
                refine (implBelow_any _ _ _).mono ?_
                rintro e w' ⟨rfl, rfl⟩
                rw [HK.out]
                go_wp2
                go_region
                go_wp2
                go_roundw
                case rel => exact SwapRel.drew R'
                case measure => simp [intOf]
              · go_wp2
                go_ret2
                obtain rfl : i = 0 := by omega
                rw [shufGo] at ht
                rw [← ht]
                exact ⟨_, rfl, by rw [hl]; exact hown, hb⟩
  · have H1 := Lib.hid (shuf_neg (s := s) (n := n) (by omega))
    go_enter Try.func15, Try.ntmps15
    go_wp2_with (go_at_call 22; refine (isState_b _ false _ (by simp; omega)).mono ?_; rintro e w' ⟨rfl, rfl⟩)
    go_ret2
    rw [H1.out]
    exact ⟨_, rfl, World.ownsRow_nil _ _ _ _, Below.refl _ _⟩

def sampOf (s n k : Int) : List Int × Int := if 0 ≤ k ∧ k ≤ (shufOf s n).1.length then ((shufOf s n).1.take k.toNat, (shufOf s n).2) else ([], 0)
theorem samp_pos {s n : Int} {k : Nat} (h : k ≤ (shufOf s n).1.length) : sampOf s n k = ((shufOf s n).1.take k, (shufOf s n).2) := by
  unfold sampOf; rw [if_pos (by omega)]; rfl
theorem samp_neg {s n k : Int} (h : ¬ (0 ≤ k ∧ k ≤ (shufOf s n).1.length)) : sampOf s n k = ([], 0) := by
  unfold sampOf; rw [if_neg h]

theorem shufOf_le (s n : Int) : (shufOf s n).1.length ≤ 40 := by
  unfold shufOf
  split
  · next h => rw [shufGo_len, upTo_len]; simp [shufOk] at h; omega
  · simp

theorem sampOf_le (s n k : Int) : (sampOf s n k).1.length ≤ 40 := by
  unfold sampOf
  split
  · have := shufOf_le s n; simp only [List.length_take]; omega
  · simp

theorem implSamp_any (s n k : Int) (w : World) :
    Calls Try.prog 20 #[.int .i64 s, .int .i64 n, .int .i64 k] w fun e w' => ∃ v, e = .returned (.tuple #[v, .int .i64 (sampOf s n k).2]) ∧
      w'.ownsRow w.heap.size 3 1 v (sampOf s n k).1.length (ints (sampOf s n k).1) ∧ Below w.heap.size w w' := by
  have hle := shufOf_le s n
  by_cases h0 : k < 0
  · have H := Lib.hid (samp_neg (s := s) (n := n) (k := k) (by omega))
    go_enter Try.func20, Try.ntmps20
    go_wp2_with fail
    refine (implShuf_any _ _ _).mono ?_
    rintro e w1 ⟨v, rfl, hown, hb⟩
    obtain ⟨A, c, rfl, hc1, hc2⟩ := own_shape hown
    go_wp2
    go_ret2
    rw [H.out]
    exact ⟨_, rfl, World.ownsRow_nil _ _ _ _, hb⟩
  · obtain ⟨k, rfl⟩ := Int.eq_ofNat_of_zero_le (by omega : 0 ≤ k)
    by_cases h1 : k ≤ (shufOf s n).1.length
    · have H := Lib.hid (samp_pos h1)
      generalize hL : (shufOf s n) = L at *
      have HL := Lib.hid hL
      clear hL
      go_enter Try.func20, Try.ntmps20
      go_wp2_with fail
      refine (implShuf_any _ _ _).mono ?_
      rw [HL.out]
      rintro e w1 ⟨v, rfl, hown, hb⟩
      obtain ⟨A, c, rfl, hc1, hc2⟩ := own_shape hown
      unfold maxLen at hc2
      go_wp2
      go_ret2
      rw [H.out]
      have hl : (L.1.take k).length = k := by rw [List.length_take]; omega
      have hcut := own_cut hown h1
      rw [Nat.mul_one, ints_take] at hcut
      exact ⟨_, rfl, by rw [hl]; exact hcut, hb⟩
    · have H := Lib.hid (samp_neg (s := s) (n := n) (k := k) (by omega))
      go_enter Try.func20, Try.ntmps20
      go_wp2_with fail
      refine (implShuf_any _ _ _).mono ?_
      rintro e w1 ⟨v, rfl, hown, hb⟩
      obtain ⟨A, c, rfl, hc1, hc2⟩ := own_shape hown
      go_wp2
      go_ret2
      rw [H.out]
      exact ⟨_, rfl, World.ownsRow_nil _ _ _ _, hb⟩

theorem specSamp_any (s n k : Int) (w : World) :
    Calls Try.prog 19 #[.int .i64 s, .int .i64 n, .int .i64 k] w fun e w' => ∃ v, e = .returned (.tuple #[v, .int .i64 (sampOf s n k).2]) ∧
      w'.ownsRow w.heap.size 3 1 v (sampOf s n k).1.length (ints (sampOf s n k).1) ∧ Below w.heap.size w w' := by
  have hle := shufOf_le s n
  by_cases h0 : 0 ≤ k ∧ k ≤ (shufOf s n).1.length
  · obtain ⟨k, rfl⟩ := Int.eq_ofNat_of_zero_le h0.1
    have h1 : k ≤ (shufOf s n).1.length := by omega
    have H := Lib.hid (samp_pos h1)
    generalize hL : (shufOf s n) = L at *
    have HL := Lib.hid hL
    clear hL
    obtain ⟨i0, hi, hz0, hz1, hz2⟩ := info_parts Try.infoI
    go_enter Try.func19, Try.ntmps19
    go_wp2_with fail
    refine (specShuf_any _ _ _).mono ?_
    rw [HL.out]
    rintro e w1 ⟨v, rfl, hown, hb⟩
    obtain ⟨A, c, rfl, hc1, hc2⟩ := own_shape hown
    have hrd := (Rd.of_own hown).cutTo h1
    have hc3 := hc2
    unfold maxLen at hc3
    go_wp2_with (first
      | (go_at_call 21; refine (in_b _ _ _ true _ (by simp; omega)).mono ?_; rintro e w' ⟨rfl, rfl⟩)
      | (at_builtin; refine wpList_append_any _ rfl _ _ 28 rfl w.heap.size 3 i0 (.int .i64 0) 1 8 Try.underlying28 hi hz0 hz1 hz2 rfl (by decide) _ 0 [] rfl (own_mono (own_empty w1 _) hb.size) _ A k c _ rfl (hrd.keep (fun b hb => Below.heap_alloc _ _ _ hb.2.1)) (by rw [Nat.mul_one, ints_take]; exact ints_one _) (by unfold maxLen; omega) (by omega) (by have := hb.size; simp; omega) ?_; intro v2 w2 hown2 hgr2 hat2))
    go_ret2
    rw [H.out]
    have hl : (L.1.take k).length = k := by rw [List.length_take]; omega
    rw [Nat.mul_one, ints_take, List.nil_append, Nat.zero_add] at hown2
    refine ⟨_, rfl, by rw [hl]; exact hown2, (hb.alloc hb.size _).grown hgr2 (by have := hb.size; simp; omega) ?_⟩
    intro g hg
    exact (own_blk (own_mono (own_empty w1 3) hb.size) hg).1
  · have H := Lib.hid (samp_neg (s := s) (n := n) (k := k) (by omega))
    go_enter Try.func19, Try.ntmps19
    go_wp2_with fail
    refine (specShuf_any _ _ _).mono ?_
    rintro e w1 ⟨v, rfl, hown, hb⟩
    obtain ⟨A, c, rfl, hc1, hc2⟩ := own_shape hown
    go_wp2_with fail
    refine (in_b _ _ _ false _ (by simp; omega)).mono ?_
    rintro e w' ⟨rfl, rfl⟩
    go_wp2_with fail
    go_ret2
    rw [H.out]
    exact ⟨_, rfl, own_mono (own_empty w1 _) hb.size, hb.alloc hb.size _⟩
end Go.Proofs.Ytjfbmepjojnfiaa
