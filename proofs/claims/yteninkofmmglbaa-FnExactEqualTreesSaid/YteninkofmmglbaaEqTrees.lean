/- impl.sameNode, impl.EqualTrees, spec.EqualTrees. -/
import Derived.Test.YteninkofmmglbaaNode
import Derived.Test.YteninkofmmglbaaTexts
namespace Go.Proofs.Yteninkofmmglbaa
open Go.RowKit
set_option linter.unusedVariables false
set_option linter.unusedSimpArgs false

theorem nd_false {x y : Nd} (h : ¬ (x = y)) : decide (x = y) = false := by simp [h]

theorem sameNode_any (x y : Nd) (A B : Option Addr) (n m c d : Nat) (f g : List Nat) (w : World) (ha : SlR Lay.str w f x.labels A n c) (hb : SlR Lay.str w g y.labels B m d) :
    Calls Try.prog 35 #[ndVal x A n c, ndVal y B m d] w fun e w' => e = .returned (.bool (decide (x = y))) ∧ Below w.heap.size w w' := by
  obtain ⟨k1, n1, t1, l1, j1⟩ := x
  obtain ⟨k2, n2, t2, l2, j2⟩ := y
  simp only [ndVal] at *
  have hA := Lib.hid ha; clear ha
  have hB := Lib.hid hb; clear hb
  by_cases h1 : k1 = k2
  · subst h1
    by_cases h2 : n1 = n2
    · subst h2
      by_cases h3 : t1 = t2
      · subst h3
        by_cases h4 : j1 = j2
        · subst h4
          have hd : decide ((⟨k1, n1, t1, l1, j1⟩ : Nd) = ⟨k1, n1, t1, l2, j1⟩) = decide (l1 = l2) := by simp
          have HD := Lib.hid hd; clear hd
          go_enter Try.func35, Try.ntmps35
          go_wp2_with fail
          refine (sameTexts_any A B n m c d f g l1 l2 _ ((hA.out.alloc _).alloc _) ((hB.out.alloc _).alloc _)).mono ?_
          rintro e w' ⟨rfl, m, rfl⟩
          go_wp2
          go_ret
          exact ⟨by rw [HD.out]; rfl, below_drewN (((Below.refl _ _).alloc (Nat.le_refl _) _).alloc (by simp) _) m⟩
        · have hd := Lib.hid (nd_false (x := ⟨k1, n1, t1, l1, j1⟩) (y := ⟨k1, n1, t1, l2, j2⟩) (by simp [h4]))
          have b1 : (j1 == j2) = false := beq_eq_false_iff_ne.2 h4
          go_enter Try.func35, Try.ntmps35
          go_wp2
          go_ret
          exact ⟨by rw [hd.out]; rfl, ((Below.refl _ _).alloc (Nat.le_refl _) _).alloc (by simp) _⟩
      · have hd := Lib.hid (nd_false (x := ⟨k1, n1, t1, l1, j1⟩) (y := ⟨k1, n1, t2, l2, j2⟩) (by simp [h3]))
        have b1 := ba_ne h3
        go_enter Try.func35, Try.ntmps35
        go_wp2
        go_ret
        exact ⟨by rw [hd.out]; rfl, ((Below.refl _ _).alloc (Nat.le_refl _) _).alloc (by simp) _⟩
    · have hd := Lib.hid (nd_false (x := ⟨k1, n1, t1, l1, j1⟩) (y := ⟨k1, n2, t2, l2, j2⟩) (by simp [h2]))
      have b1 : (n1 == n2) = false := beq_eq_false_iff_ne.2 h2
      go_enter Try.func35, Try.ntmps35
      go_wp2
      go_ret
      exact ⟨by rw [hd.out]; rfl, ((Below.refl _ _).alloc (Nat.le_refl _) _).alloc (by simp) _⟩
  · have hd := Lib.hid (nd_false (x := ⟨k1, n1, t1, l1, j1⟩) (y := ⟨k2, n2, t2, l2, j2⟩) (by simp [h1]))
    have b1 : (k1 == k2) = false := beq_eq_false_iff_ne.2 h1
    go_enter Try.func35, Try.ntmps35
    go_wp2
    go_ret
    exact ⟨by rw [hd.out]; rfl, ((Below.refl _ _).alloc (Nat.le_refl _) _).alloc (by simp) _⟩

theorem implEqual_any (A B : Option Addr) (n m c d : Nat) (f g : List Nat) (l l' : List Nd) (w : World) (ha : SlR Lay.node w f l A n c) (hb : SlR Lay.node w g l' B m d) :
    Calls Try.prog 13 #[.slice A n c, .slice B m d] w fun e w' => e = .returned (.bool (decide (l = l'))) ∧ Below w.heap.size w w' := by
  have hm := ha.le
  have hm' := hb.le
  by_cases hnm : n = m
  · subst hnm
    have hl := Lib.hid ha.1
    have hl' := Lib.hid hb.1
    go_enter Try.func13, Try.ntmps13
    go_wp2
    go_loopw [5, 13] (fun _ i wr => ∃ k : Nat, k ≤ n ∧ i = .int .i64 k ∧ Below w.heap.size w wr ∧ l.take k = l'.take k) (fun _ i _ => n - (intOf i).toNat)
    case atStart => exact ⟨0, Nat.zero_le _, rfl, Below.refl _ _, rfl⟩
    case round =>
      obtain ⟨k, hk, rfl, hbr, ht⟩ := hrel
      have HT := Lib.hid ht; clear ht
      by_cases hlt : k < n
      · obtain ⟨b1, o1, x, f1, cs, rfl, hx, -, -, ⟨A', n', c', rfl, hsl, hok⟩, hc⟩ := (ha.keep (same_below hbr ha.lt)).at_ hlt
        obtain ⟨b2, o2, y, f2, ds, rfl, hy, -, -, ⟨B', m', d', rfl, hsl', hok'⟩, hd⟩ := (hb.keep (same_below hbr hb.lt)).at_ hlt
        simp only [Lay.node] at hc hd
        have c0 := hc 0 _ rfl; rw [Nat.add_zero] at c0; have c1 := hc 1 _ rfl; have c2 := hc 2 _ rfl; have c3 := hc 3 _ rfl; have c4 := hc 4 _ rfl
        have d0 := hd 0 _ rfl; rw [Nat.add_zero] at d0; have d1 := hd 1 _ rfl; have d2 := hd 2 _ rfl; have d3 := hd 3 _ rfl; have d4 := hd 4 _ rfl
        have HS := Lib.hid hsl
        have HS' := Lib.hid hsl'
        have HX := Lib.hid hx
        have HY := Lib.hid hy
        clear ha hb hx hy hc hd hsl hsl'
        go_wp2_with fail
        go_still_tail 8, (by kernel_rfl)
        change wpList _ _ _ _ _ wr.drew
        go_wp2_with fail
        refine (sameNode_any x y A' B' n' m' c' d' f1 f2 _ (HS.out.drewN 1) (HS'.out.drewN 1)).mono ?_
        rintro e w' ⟨rfl, hb'⟩
        have hb2 := (below_drewN hbr 1).trans (hb'.mono hbr.size)
        by_cases hxy : x = y
        · subst hxy
          have ht : decide (x = x) = true := by simp
          go_wp2
          go_roundw
          case rel => exact ⟨k + 1, by omega, by go_num, hb2, take_succ_eq HT.out HX.out HY.out⟩
          case measure => simp [intOf]; omega
        · have ht : decide (x = y) = false := by simp [hxy]
          go_wp2
          go_ret
          exact ⟨by rw [ne_of_at HX.out HY.out hxy]; rfl, hb2⟩
      · go_wp2
        go_ret
        exact ⟨by rw [eq_of_take HT.out (by rw [hl.out]; omega) (by rw [hl'.out]; omega)]; simp, hbr⟩
  · have hne : decide (l = l') = false := by
      rw [decide_eq_false_iff_not]; rintro rfl; exact hnm (by rw [← ha.1, ← hb.1])
    have HN := Lib.hid hne
    clear hne
    go_enter Try.func13, Try.ntmps13
    go_wp2
    go_ret
    exact ⟨by rw [HN.out]; rfl, Below.refl _ _⟩

theorem specEqual_any (A B : Option Addr) (n m c d : Nat) (f g : List Nat) (l l' : List Nd) (w : World) (ha : SlR Lay.node w f l A n c) (hb : SlR Lay.node w g l' B m d) :
    Calls Try.prog 11 #[.slice A n c, .slice B m d] w fun e w' => e = .returned (.bool (decide (l = l'))) ∧ ∃ m, w' = w.drewN m := by
  have hm := ha.le
  have hm' := hb.le
  by_cases hnm : n = m
  · subst hnm
    have hl := Lib.hid ha.1
    have hl' := Lib.hid hb.1
    go_enter Try.func11, Try.ntmps11
    go_wp2
    go_loopw [5] (fun i wr => ∃ k m : Nat, k ≤ n ∧ i = .int .i64 k ∧ wr = w.drewN m ∧ l.take k = l'.take k) (fun i _ => n - (intOf i).toNat)
    case atStart => exact ⟨0, 0, Nat.zero_le _, rfl, rfl, rfl⟩
    case round =>
      obtain ⟨k, m, hk, rfl, hw, ht⟩ := hrel
      have ha' : SlR Lay.node wr f l A n c := by rw [hw]; exact ha.drewN m
      have hb' : SlR Lay.node wr g l' B n d := by rw [hw]; exact hb.drewN m
      have HW := Lib.hid hw
      have HT := Lib.hid ht; clear ht ha hb hw
      by_cases hlt : k < n
      · obtain ⟨b1, o1, x, f1, cs, rfl, hx, -, -, ⟨A', n', c', rfl, hsl, hok⟩, hc⟩ := ha'.at_ hlt
        obtain ⟨b2, o2, y, f2, ds, rfl, hy, -, -, ⟨B', m', d', rfl, hsl', hok'⟩, hd⟩ := hb'.at_ hlt
        simp only [Lay.node] at hc hd
        have c0 := hc 0 _ rfl; rw [Nat.add_zero] at c0; have c1 := hc 1 _ rfl; have c2 := hc 2 _ rfl; have c3 := hc 3 _ rfl; have c4 := hc 4 _ rfl
        have d0 := hd 0 _ rfl; rw [Nat.add_zero] at d0; have d1 := hd 1 _ rfl; have d2 := hd 2 _ rfl; have d3 := hd 3 _ rfl; have d4 := hd 4 _ rfl
        have HS := Lib.hid hsl
        have HS' := Lib.hid hsl'
        have HX := Lib.hid hx
        have HY := Lib.hid hy
        clear ha' hb' hx hy hc hd hsl hsl'
        obtain ⟨k1, n1, t1, l1, j1⟩ := x
        obtain ⟨k2, n2, t2, l2, j2⟩ := y
        simp only at c0 c1 c2 c4 d0 d1 d2 d4 HS HS'
        by_cases h1 : k1 = k2
        · subst h1
          have b1 : (k1 != k1) = false := by simp
          by_cases h2 : n1 = n2
          · subst h2
            have b2 : (n1 != n1) = false := by simp
            by_cases h3 : t1 = t2
            · subst h3
              by_cases h4 : j1 = j2
              · subst h4
                have b4 : (j1 != j1) = false := by simp
                by_cases h5 : l1 = l2
                · subst h5
                  go_wp2
                  go_quiet ((go_at_call 33; exact Calls.quiet_of (l4Strings_any A' B' n' m' c' d' f1 f2 l1 l1 _ (HS.out.drewN _) (HS'.out.drewN _))))
                  have ht : decide (l1 = l1) = true := by simp
                  go_wp2
                  go_roundw
                  case rel => exact ⟨k + 1, _, by omega, by go_num, by rw [HW.out, World.drewN_drewN], take_succ_eq HT.out HX.out HY.out⟩
                  case measure => simp [intOf]; omega
                · have hxy : ¬ ((⟨k1, n1, t1, l1, j1⟩ : Nd) = ⟨k1, n1, t1, l2, j1⟩) := by simp [h5]
                  go_wp2
                  go_quiet ((go_at_call 33; exact Calls.quiet_of (l4Strings_any A' B' n' m' c' d' f1 f2 l1 l2 _ (HS.out.drewN _) (HS'.out.drewN _))))
                  have ht : decide (l1 = l2) = false := by simp [h5]
                  go_wp2
                  go_ret
                  exact ⟨by rw [ne_of_at HX.out HY.out hxy]; rfl, by rw [HW.out]; exact drewN2 _ _ _⟩
              · have hxy : ¬ ((⟨k1, n1, t1, l1, j1⟩ : Nd) = ⟨k1, n1, t1, l2, j2⟩) := by simp [h4]
                have b4 : (j1 != j2) = true := bne_iff_ne.2 h4
                go_wp2
                go_quiet (fail)
                go_wp2
                go_ret
                exact ⟨by rw [ne_of_at HX.out HY.out hxy]; rfl, by rw [HW.out]; exact drewN2 _ _ _⟩
            · have hxy : ¬ ((⟨k1, n1, t1, l1, j1⟩ : Nd) = ⟨k1, n1, t2, l2, j2⟩) := by simp [h3]
              have b3 := ba_ne h3
              go_wp2
              go_quiet (fail)
              go_wp2
              go_ret
              exact ⟨by rw [ne_of_at HX.out HY.out hxy]; rfl, by rw [HW.out]; exact drewN2 _ _ _⟩
          · have hxy : ¬ ((⟨k1, n1, t1, l1, j1⟩ : Nd) = ⟨k1, n2, t2, l2, j2⟩) := by simp [h2]
            have b2 : (n1 != n2) = true := bne_iff_ne.2 h2
            go_wp2
            go_quiet (fail)
            go_wp2
            go_ret
            exact ⟨by rw [ne_of_at HX.out HY.out hxy]; rfl, by rw [HW.out]; exact drewN2 _ _ _⟩
        · have hxy : ¬ ((⟨k1, n1, t1, l1, j1⟩ : Nd) = ⟨k2, n2, t2, l2, j2⟩) := by simp [h1]
          have b1 : (k1 != k2) = true := bne_iff_ne.2 h1
          go_wp2
          go_quiet (fail)
          go_wp2
          go_ret
          exact ⟨by rw [ne_of_at HX.out HY.out hxy]; rfl, by rw [HW.out]; exact drewN2 _ _ _⟩
      · go_wp2
        go_ret
        exact ⟨by rw [eq_of_take HT.out (by rw [hl.out]; omega) (by rw [hl'.out]; omega)]; simp, m, HW.out⟩
  · have hne : decide (l = l') = false := by
      rw [decide_eq_false_iff_not]; rintro rfl; exact hnm (by rw [← ha.1, ← hb.1])
    have HN := Lib.hid hne
    clear hne
    go_enter Try.func11, Try.ntmps11
    go_wp2
    go_ret
    exact ⟨by rw [HN.out]; rfl, 0, rfl⟩
end Go.Proofs.Yteninkofmmglbaa
