/- FitMatrix, both packages. -/
import Derived.Test.YtmanijpmkeheeaaUFit
import Derived.Test.YtmanijpmkeheeaaAug
namespace Go.Proofs.Ytmanijpmkeheeaa
open Go.RowKit
set_option linter.unusedVariables false
set_option linter.unusedSimpArgs false
set_option maxRecDepth 100000

def fitL (c : Nat) (f : Nat → Nat → It) (st : List Stp) : Nat → List It
  | 0 => List.replicate c it0
  | i + 1 => if (st.getD i default).1 < c then (fitL c f st i).set (st.getD i default).1 (f i c) else fitL c f st i
theorem fitL_len (c : Nat) (f : Nat → Nat → It) (st : List Stp) : ∀ i, (fitL c f st i).length = c
  | 0 => by simp [fitL]
  | i + 1 => by
    unfold fitL
    split
    · rw [List.length_set, fitL_len c f st i]
    · exact fitL_len c f st i
def fitE (c : Nat) (la lb : List It) : Option (List It) := match augR c c 1 la lb with
  | none => none
  | some x => some (fitL c x.1 x.2 x.2.length)
def fitO (x : Mt) (y : List It) : Option (List It) :=
  if mtB x = true ∧ (y.length : Int) = x.rows ∧ allN y = true then
    if mulB (turnM x) x = true ∧ mulB (turnM x) ⟨y.length, 1, y⟩ = true then fitE x.cols.toNat (mulM (turnM x) x).cells (mulM (turnM x) ⟨y.length, 1, y⟩).cells
    else none
  else none
def fitR (x : Mt) (y : List It) : List It := (fitO x y).getD []
theorem fitR_len (x : Mt) (y : List It) : (fitR x y).length ≤ 144 := by
  unfold fitR fitO
  split
  · rename_i h
    obtain ⟨g1, g2, g3, g4, -⟩ := mtB_dims h.1
    split
    · unfold fitE
      split
      · simp
      · simp only [Option.getD_some, fitL_len]; omega
    · simp
  · simp
theorem fit_none {x : Mt} {y : List It} (h : ¬ (mtB x = true ∧ (y.length : Int) = x.rows ∧ allN y = true)) : fitO x y = none := by unfold fitO; rw [if_neg h]
theorem fit_none2 {x : Mt} {y : List It} (h : ¬ (mulB (turnM x) x = true ∧ mulB (turnM x) ⟨y.length, 1, y⟩ = true)) : fitO x y = none := by
  unfold fitO
  rw [if_neg h]
  split <;> rfl
theorem mulM_dim {a b : Mt} (h : mulB a b = true) : ∃ l, mulM a b = ⟨a.rows, b.cols, l⟩ ∧ l.length = a.rows.toNat * b.cols.toNat := ⟨_, mulM_true h, by simp [mulL, gridL_len]⟩
theorem turn_true {x : Mt} (h : mtB x = true) : (turnM x).rows = x.cols ∧ (turnM x).cols = x.rows := by unfold turnM; rw [if_pos h]; exact ⟨rfl, rfl⟩
theorem fit_some {n c : Nat} {l y la lb : List It} (h1 : mtB ⟨n, c, l⟩ = true) (h2 : (y.length : Int) = n) (h3 : allN y = true) (h4 : mulB (turnM ⟨n, c, l⟩) ⟨n, c, l⟩ = true) (h5 : mulB (turnM ⟨n, c, l⟩) ⟨y.length, 1, y⟩ = true)
    (h6 : (mulM (turnM ⟨n, c, l⟩) ⟨n, c, l⟩).cells = la) (h7 : (mulM (turnM ⟨n, c, l⟩) ⟨y.length, 1, y⟩).cells = lb) : fitO ⟨n, c, l⟩ y = fitE c la lb := by
  unfold fitO; rw [if_pos ⟨h1, h2, h3⟩, if_pos ⟨h4, h5⟩, h6, h7]; rfl
theorem rep_it0 (c : Nat) : (List.replicate c it0).map encIt = List.replicate c [.sc (.int .i64 0), .sc (.int .i64 0), .sc (.string ⟨#[]⟩)] := by rw [List.map_replicate]; rfl
set_option maxHeartbeats 2000000 in
theorem implFit_m (x : Mt) (y : List It) (hy : y.length ≤ 100000000) : Meets Try.prog 39 [(true, encMt x), (false, [encIts y])] [(false, [encIts (fitR x y)], true), (false, [.sc (.bool (fitO x y).isSome)], true)] := by
  obtain ⟨r, c, l⟩ := x
  have hm := isMt_m ⟨r, c, l⟩
  have ht := implTurn_m ⟨r, c, l⟩
  have hm1 := implMul_m (turnM ⟨r, c, l⟩) ⟨r, c, l⟩
  have hm2 := implMul_m (turnM ⟨r, c, l⟩) ⟨y.length, 1, y⟩
  have hco := columnMatrix_m y (by omega)
  unfold fitR
  refine meets_upf Try.func39 u_impl_FitMatrix_g rfl ?_; simp only [u_impl_FitMatrix_u]
  simp only [encMt, encIts] at hm ht hm1 hm2 hco ⊢
  simp (disch := first | omega | (simp only [List.length_take, List.length_drop, List.length_append, List.map_cons, List.map_nil, List.length_map, List.length_cons, List.length_nil, List.length_set, List.length_replicate]; omega) | (simp only [List.length_cons, List.length_nil, Nat.zero_add, Nat.reduceAdd])) only [go_sem, ↓reduceIte, Nat.reduceAdd, Int.reduceNeg, Int.reduceAdd, Int.reduceSub, Int.reduceMul, Int.reduceLT, Int.reduceLE, Int.reduceEq, Int.reduceToNat, Nat.reduceBEq, true_and]
  refine cl_ok hm rfl ?_
  cases hA : mtB ⟨r, c, l⟩
  · rw [fit_none (by simp [hA])]
    simp (disch := first | omega | (simp only [List.length_take, List.length_drop, List.length_append, List.map_cons, List.map_nil, List.length_map, List.length_cons, List.length_nil, List.length_set, List.length_replicate]; omega) | (simp only [List.length_cons, List.length_nil, Nat.zero_add, Nat.reduceAdd])) only [go_sem, ↓reduceIte, Nat.reduceAdd, Int.reduceNeg, Int.reduceAdd, Int.reduceSub, Int.reduceMul, Int.reduceLT, Int.reduceLE, Int.reduceEq, Int.reduceToNat, Nat.reduceBEq, true_and]
    rfl
  simp (disch := first | omega | (simp only [List.length_take, List.length_drop, List.length_append, List.map_cons, List.map_nil, List.length_map, List.length_cons, List.length_nil, List.length_set, List.length_replicate]; omega) | (simp only [List.length_cons, List.length_nil, Nat.zero_add, Nat.reduceAdd])) only [go_sem, ↓reduceIte, Nat.reduceAdd, Int.reduceNeg, Int.reduceAdd, Int.reduceSub, Int.reduceMul, Int.reduceLT, Int.reduceLE, Int.reduceEq, Int.reduceToNat, Nat.reduceBEq, true_and]
  refine br_ifn (fun h1 => ?_) (fun h1 => ?_)
  rotate_left
  · rw [fit_none (by simp only; rintro ⟨-, h, -⟩; exact h1 h)]
    simp (disch := first | omega | (simp only [List.length_take, List.length_drop, List.length_append, List.map_cons, List.map_nil, List.length_map, List.length_cons, List.length_nil, List.length_set, List.length_replicate]; omega) | (simp only [List.length_cons, List.length_nil, Nat.zero_add, Nat.reduceAdd])) only [go_sem, ↓reduceIte, Nat.reduceAdd, Int.reduceNeg, Int.reduceAdd, Int.reduceSub, Int.reduceMul, Int.reduceLT, Int.reduceLE, Int.reduceEq, Int.reduceToNat, Nat.reduceBEq, true_and]
    rfl
  obtain ⟨g1, g2, g3, g4, g5⟩ := mtB_dims hA
  simp only at g1 g2 g3 g4 g5
  have hal := allNumbers_m y (by omega)
  simp only [encIts] at hal
  simp (disch := first | omega | (simp only [List.length_take, List.length_drop, List.length_append, List.map_cons, List.map_nil, List.length_map, List.length_cons, List.length_nil, List.length_set, List.length_replicate]; omega) | (simp only [List.length_cons, List.length_nil, Nat.zero_add, Nat.reduceAdd])) only [go_sem, ↓reduceIte, Nat.reduceAdd, Int.reduceNeg, Int.reduceAdd, Int.reduceSub, Int.reduceMul, Int.reduceLT, Int.reduceLE, Int.reduceEq, Int.reduceToNat, Nat.reduceBEq, true_and]
  refine cl_ok hal rfl ?_
  cases hN : allN y
  · rw [fit_none (by simp [hN])]
    simp (disch := first | omega | (simp only [List.length_take, List.length_drop, List.length_append, List.map_cons, List.map_nil, List.length_map, List.length_cons, List.length_nil, List.length_set, List.length_replicate]; omega) | (simp only [List.length_cons, List.length_nil, Nat.zero_add, Nat.reduceAdd])) only [go_sem, ↓reduceIte, Nat.reduceAdd, Int.reduceNeg, Int.reduceAdd, Int.reduceSub, Int.reduceMul, Int.reduceLT, Int.reduceLE, Int.reduceEq, Int.reduceToNat, Nat.reduceBEq, true_and]
    rfl
  simp (disch := first | omega | (simp only [List.length_take, List.length_drop, List.length_append, List.map_cons, List.map_nil, List.length_map, List.length_cons, List.length_nil, List.length_set, List.length_replicate]; omega) | (simp only [List.length_cons, List.length_nil, Nat.zero_add, Nat.reduceAdd])) only [go_sem, ↓reduceIte, Nat.reduceAdd, Int.reduceNeg, Int.reduceAdd, Int.reduceSub, Int.reduceMul, Int.reduceLT, Int.reduceLE, Int.reduceEq, Int.reduceToNat, Nat.reduceBEq, true_and]
  refine cl_ok ht rfl ?_
  simp (disch := first | omega | (simp only [List.length_take, List.length_drop, List.length_append, List.map_cons, List.map_nil, List.length_map, List.length_cons, List.length_nil, List.length_set, List.length_replicate]; omega) | (simp only [List.length_cons, List.length_nil, Nat.zero_add, Nat.reduceAdd])) only [go_sem, ↓reduceIte, Nat.reduceAdd, Int.reduceNeg, Int.reduceAdd, Int.reduceSub, Int.reduceMul, Int.reduceLT, Int.reduceLE, Int.reduceEq, Int.reduceToNat, Nat.reduceBEq, true_and]
  refine cl_ok hm1 rfl ?_
  simp (disch := first | omega | (simp only [List.length_take, List.length_drop, List.length_append, List.map_cons, List.map_nil, List.length_map, List.length_cons, List.length_nil, List.length_set, List.length_replicate]; omega) | (simp only [List.length_cons, List.length_nil, Nat.zero_add, Nat.reduceAdd])) only [go_sem, ↓reduceIte, Nat.reduceAdd, Int.reduceNeg, Int.reduceAdd, Int.reduceSub, Int.reduceMul, Int.reduceLT, Int.reduceLE, Int.reduceEq, Int.reduceToNat, Nat.reduceBEq, true_and]
  refine cl_ok hco rfl ?_
  simp (disch := first | omega | (simp only [List.length_take, List.length_drop, List.length_append, List.map_cons, List.map_nil, List.length_map, List.length_cons, List.length_nil, List.length_set, List.length_replicate]; omega) | (simp only [List.length_cons, List.length_nil, Nat.zero_add, Nat.reduceAdd])) only [go_sem, ↓reduceIte, Nat.reduceAdd, Int.reduceNeg, Int.reduceAdd, Int.reduceSub, Int.reduceMul, Int.reduceLT, Int.reduceLE, Int.reduceEq, Int.reduceToNat, Nat.reduceBEq, true_and]
  refine cl_ok hm2 rfl ?_
  cases hB1 : mulB (turnM ⟨r, c, l⟩) ⟨r, c, l⟩
  · rw [fit_none2 (by simp [hB1])]
    simp (disch := first | omega | (simp only [List.length_take, List.length_drop, List.length_append, List.map_cons, List.map_nil, List.length_map, List.length_cons, List.length_nil, List.length_set, List.length_replicate]; omega) | (simp only [List.length_cons, List.length_nil, Nat.zero_add, Nat.reduceAdd])) only [go_sem, ↓reduceIte, Nat.reduceAdd, Int.reduceNeg, Int.reduceAdd, Int.reduceSub, Int.reduceMul, Int.reduceLT, Int.reduceLE, Int.reduceEq, Int.reduceToNat, Nat.reduceBEq, true_and]
    rfl
  simp (disch := first | omega | (simp only [List.length_take, List.length_drop, List.length_append, List.map_cons, List.map_nil, List.length_map, List.length_cons, List.length_nil, List.length_set, List.length_replicate]; omega) | (simp only [List.length_cons, List.length_nil, Nat.zero_add, Nat.reduceAdd])) only [go_sem, ↓reduceIte, Nat.reduceAdd, Int.reduceNeg, Int.reduceAdd, Int.reduceSub, Int.reduceMul, Int.reduceLT, Int.reduceLE, Int.reduceEq, Int.reduceToNat, Nat.reduceBEq, true_and]
  cases hB2 : mulB (turnM ⟨r, c, l⟩) ⟨y.length, 1, y⟩
  · rw [fit_none2 (by simp [hB2])]
    simp (disch := first | omega | (simp only [List.length_take, List.length_drop, List.length_append, List.map_cons, List.map_nil, List.length_map, List.length_cons, List.length_nil, List.length_set, List.length_replicate]; omega) | (simp only [List.length_cons, List.length_nil, Nat.zero_add, Nat.reduceAdd])) only [go_sem, ↓reduceIte, Nat.reduceAdd, Int.reduceNeg, Int.reduceAdd, Int.reduceSub, Int.reduceMul, Int.reduceLT, Int.reduceLE, Int.reduceEq, Int.reduceToNat, Nat.reduceBEq, true_and]
    rfl
  simp (disch := first | omega | (simp only [List.length_take, List.length_drop, List.length_append, List.map_cons, List.map_nil, List.length_map, List.length_cons, List.length_nil, List.length_set, List.length_replicate]; omega) | (simp only [List.length_cons, List.length_nil, Nat.zero_add, Nat.reduceAdd])) only [go_sem, ↓reduceIte, Nat.reduceAdd, Int.reduceNeg, Int.reduceAdd, Int.reduceSub, Int.reduceMul, Int.reduceLT, Int.reduceLE, Int.reduceEq, Int.reduceToNat, Nat.reduceBEq, true_and]
  obtain ⟨n, rfl⟩ := Int.eq_ofNat_of_zero_le g1
  obtain ⟨c, rfl⟩ := Int.eq_ofNat_of_zero_le g3
  obtain ⟨k1, k2⟩ := turn_true hA
  obtain ⟨la, e1, e2⟩ := mulM_dim hB1
  obtain ⟨lb, e3, e4⟩ := mulM_dim hB2
  rw [fit_some hA h1 hN hB1 hB2 (congrArg Mt.cells e1) (congrArg Mt.cells e3)]
  simp only at k1 k2
  rw [k1] at e1 e2 e3 e4
  simp only at e1 e2 e3 e4
  rw [e1, e3]
  have hbe := implBeside_m c c 1 c la lb (by omega) (by omega) (by omega) (by simpa using e2) (by simpa using e4)
  have hau := implAug_m c c 1 la lb (by omega) (by omega) (by omega) (by simpa using e2) (by simpa using e4)
  unfold fitE
  simp only [encMt, encIts] at hbe hau
  refine cl_ok hbe rfl ?_
  simp (disch := first | omega | (simp only [List.length_take, List.length_drop, List.length_append, List.map_cons, List.map_nil, List.length_map, List.length_cons, List.length_nil, List.length_set, List.length_replicate]; omega) | (simp only [List.length_cons, List.length_nil, Nat.zero_add, Nat.reduceAdd])) only [go_sem, ↓reduceIte, Nat.reduceAdd, Int.reduceNeg, Int.reduceAdd, Int.reduceSub, Int.reduceMul, Int.reduceLT, Int.reduceLE, Int.reduceEq, Int.reduceToNat, Nat.reduceBEq, true_and]
  cases hd : augR c c 1 la lb with
  | none =>
    rw [hd] at hau
    simp only [resI, encMt, encIts] at hau
    refine cl_ok hau rfl ?_
    simp (disch := first | omega | (simp only [List.length_take, List.length_drop, List.length_append, List.map_cons, List.map_nil, List.length_map, List.length_cons, List.length_nil, List.length_set, List.length_replicate]; omega) | (simp only [List.length_cons, List.length_nil, Nat.zero_add, Nat.reduceAdd])) only [go_sem, ↓reduceIte, Nat.reduceAdd, Int.reduceNeg, Int.reduceAdd, Int.reduceSub, Int.reduceMul, Int.reduceLT, Int.reduceLE, Int.reduceEq, Int.reduceToNat, Nat.reduceBEq, true_and]
    rfl
  | some x =>
    obtain ⟨f, st⟩ := x
    rw [hd] at hau
    simp only [resI, encMt, encIts, encSts] at hau
    obtain ⟨l1, l2⟩ := redS_len hd
    refine cl_ok hau rfl ?_
    simp (disch := first | omega | (simp only [List.length_take, List.length_drop, List.length_append, List.map_cons, List.map_nil, List.length_map, List.length_cons, List.length_nil, List.length_set, List.length_replicate]; omega) | (simp only [List.length_cons, List.length_nil, Nat.zero_add, Nat.reduceAdd])) only [go_sem, ↓reduceIte, Nat.reduceAdd, Int.reduceNeg, Int.reduceAdd, Int.reduceSub, Int.reduceMul, Int.reduceLT, Int.reduceLE, Int.reduceEq, Int.reduceToNat, Nat.reduceBEq, true_and]
    refine lp_n st.length (fun i => [.sc (.int .i64 (i : Nat)), .sl 41 3 ((fitL c f st i).map encIt)]) (by rw [fitL, rep_it0]; rfl) fun i hi => ?_
    have hsl := fitL_len c f st i
    simp only [u_impl_FitMatrix_l1]
    simp (disch := first | omega | (simp only [List.length_take, List.length_drop, List.length_append, List.map_cons, List.map_nil, List.length_map, List.length_cons, List.length_nil, List.length_set, List.length_replicate]; omega) | (simp only [List.length_cons, List.length_nil, Nat.zero_add, Nat.reduceAdd])) only [go_sem, ↓reduceIte, Nat.reduceAdd, Int.reduceNeg, Int.reduceAdd, Int.reduceSub, Int.reduceMul, Int.reduceLT, Int.reduceLE, Int.reduceEq, Int.reduceToNat, Nat.reduceBEq, true_and]
    refine br_if (fun h => ?_) (fun h => ?_)
    · have hlt : i < st.length := by omega
      have hp := piv_lt hd hlt
      have hs := cellAt_g (r := (c : Int)) f (show i < c by omega) (show c < c + 1 by omega) (by omega) (by omega)
      simp only [encMt, encIts] at hs
      refine jn (fun vs => ∃ y0 y1 y2 y3 y4 y5, vs = [y0, .sl 41 3 ((fitL c f st (i + 1)).map encIt), y1, y2, y3, y4, y5]) ?_ ?_
      · simp (disch := first | omega | (simp only [List.length_take, List.length_drop, List.length_append, List.map_cons, List.map_nil, List.length_map, List.length_cons, List.length_nil, List.length_set, List.length_replicate]; omega) | (simp only [List.length_cons, List.length_nil, Nat.zero_add, Nat.reduceAdd])) only [go_sem, ↓reduceIte, Nat.reduceAdd, Int.reduceNeg, Int.reduceAdd, Int.reduceSub, Int.reduceMul, Int.reduceLT, Int.reduceLE, Int.reduceEq, Int.reduceToNat, Nat.reduceBEq, ix_st, encSt]
        refine br_if (fun h2 => ?_) (fun h2 => ?_)
        · simp (disch := first | omega | (simp only [List.length_take, List.length_drop, List.length_append, List.map_cons, List.map_nil, List.length_map, List.length_cons, List.length_nil, List.length_set, List.length_replicate]; omega) | (simp only [List.length_cons, List.length_nil, Nat.zero_add, Nat.reduceAdd])) only [go_sem, ↓reduceIte, Nat.reduceAdd, Int.reduceNeg, Int.reduceAdd, Int.reduceSub, Int.reduceMul, Int.reduceLT, Int.reduceLE, Int.reduceEq, Int.reduceToNat, Nat.reduceBEq, true_and]
          refine cl_ok hs rfl ?_
          simp (disch := first | omega | (simp only [List.length_take, List.length_drop, List.length_append, List.map_cons, List.map_nil, List.length_map, List.length_cons, List.length_nil, List.length_set, List.length_replicate]; omega) | (simp only [List.length_cons, List.length_nil, Nat.zero_add, Nat.reduceAdd])) only [go_sem, ↓reduceIte, Nat.reduceAdd, Int.reduceNeg, Int.reduceAdd, Int.reduceSub, Int.reduceMul, Int.reduceLT, Int.reduceLE, Int.reduceEq, Int.reduceToNat, Nat.reduceBEq, encIt, st_it]
          rw [fitL, if_pos (by omega), List.map_set]
          exact ⟨_, _, _, _, _, _, rfl⟩
        · simp (disch := first | omega | (simp only [List.length_take, List.length_drop, List.length_append, List.map_cons, List.map_nil, List.length_map, List.length_cons, List.length_nil, List.length_set, List.length_replicate]; omega) | (simp only [List.length_cons, List.length_nil, Nat.zero_add, Nat.reduceAdd])) only [go_sem, ↓reduceIte, Nat.reduceAdd, Int.reduceNeg, Int.reduceAdd, Int.reduceSub, Int.reduceMul, Int.reduceLT, Int.reduceLE, Int.reduceEq, Int.reduceToNat, Nat.reduceBEq, true_and]
          rw [fitL, if_neg (by omega)]
          exact ⟨_, _, _, _, _, _, rfl⟩
      · rintro vs - ⟨y0, y1, y2, y3, y4, y5, rfl⟩
        simp only [u_impl_FitMatrix_j0]
        simp (disch := first | omega | (simp only [List.length_take, List.length_drop, List.length_append, List.map_cons, List.map_nil, List.length_map, List.length_cons, List.length_nil, List.length_set, List.length_replicate]; omega) | (simp only [List.length_cons, List.length_nil, Nat.zero_add, Nat.reduceAdd])) only [go_sem, ↓reduceIte, Nat.reduceAdd, Int.reduceNeg, Int.reduceAdd, Int.reduceSub, Int.reduceMul, Int.reduceLT, Int.reduceLE, Int.reduceEq, Int.reduceToNat, Nat.reduceBEq, nat1]
        exact hlt
    · obtain rfl : i = st.length := by omega
      simp (disch := first | omega | (simp only [List.length_take, List.length_drop, List.length_append, List.map_cons, List.map_nil, List.length_map, List.length_cons, List.length_nil, List.length_set, List.length_replicate]; omega) | (simp only [List.length_cons, List.length_nil, Nat.zero_add, Nat.reduceAdd])) only [go_sem, ↓reduceIte, Nat.reduceAdd, Int.reduceNeg, Int.reduceAdd, Int.reduceSub, Int.reduceMul, Int.reduceLT, Int.reduceLE, Int.reduceEq, Int.reduceToNat, Nat.reduceBEq, true_and]
      rfl
set_option maxHeartbeats 2000000 in
theorem specFit_m (x : Mt) (y : List It) (hy : y.length ≤ 100000000) : Meets Try.prog 37 [(true, encMt x), (false, [encIts y])] [(false, [encIts (fitR x y)], true), (false, [.sc (.bool (fitO x y).isSome)], true)] := by
  obtain ⟨r, c, l⟩ := x
  have hm := specIsMt_m ⟨r, c, l⟩
  have hm1 := specMul_m (turnM ⟨r, c, l⟩) ⟨r, c, l⟩
  have hm2 := specMul_m (turnM ⟨r, c, l⟩) ⟨y.length, 1, y⟩
  have hco := l23Column_m y (by omega)
  unfold fitR
  refine meets_upf Try.func37 u_spec_FitMatrix_g rfl ?_; simp only [u_spec_FitMatrix_u]
  simp only [encMt, encIts] at hm hm1 hm2 hco ⊢
  simp (disch := first | omega | (simp only [List.length_take, List.length_drop, List.length_append, List.map_cons, List.map_nil, List.length_map, List.length_cons, List.length_nil, List.length_set, List.length_replicate]; omega) | (simp only [List.length_cons, List.length_nil, Nat.zero_add, Nat.reduceAdd])) only [go_sem, ↓reduceIte, Nat.reduceAdd, Int.reduceNeg, Int.reduceAdd, Int.reduceSub, Int.reduceMul, Int.reduceLT, Int.reduceLE, Int.reduceEq, Int.reduceToNat, Nat.reduceBEq, true_and]
  refine cl_ok hm rfl ?_
  cases hA : mtB ⟨r, c, l⟩
  · rw [fit_none (by simp [hA])]
    simp (disch := first | omega | (simp only [List.length_take, List.length_drop, List.length_append, List.map_cons, List.map_nil, List.length_map, List.length_cons, List.length_nil, List.length_set, List.length_replicate]; omega) | (simp only [List.length_cons, List.length_nil, Nat.zero_add, Nat.reduceAdd])) only [go_sem, ↓reduceIte, Nat.reduceAdd, Int.reduceNeg, Int.reduceAdd, Int.reduceSub, Int.reduceMul, Int.reduceLT, Int.reduceLE, Int.reduceEq, Int.reduceToNat, Nat.reduceBEq, true_and]
    rfl
  simp (disch := first | omega | (simp only [List.length_take, List.length_drop, List.length_append, List.map_cons, List.map_nil, List.length_map, List.length_cons, List.length_nil, List.length_set, List.length_replicate]; omega) | (simp only [List.length_cons, List.length_nil, Nat.zero_add, Nat.reduceAdd])) only [go_sem, ↓reduceIte, Nat.reduceAdd, Int.reduceNeg, Int.reduceAdd, Int.reduceSub, Int.reduceMul, Int.reduceLT, Int.reduceLE, Int.reduceEq, Int.reduceToNat, Nat.reduceBEq, true_and]
  refine br_ifn (fun h1 => ?_) (fun h1 => ?_)
  rotate_left
  · rw [fit_none (by simp only; rintro ⟨-, h, -⟩; exact h1 h)]
    simp (disch := first | omega | (simp only [List.length_take, List.length_drop, List.length_append, List.map_cons, List.map_nil, List.length_map, List.length_cons, List.length_nil, List.length_set, List.length_replicate]; omega) | (simp only [List.length_cons, List.length_nil, Nat.zero_add, Nat.reduceAdd])) only [go_sem, ↓reduceIte, Nat.reduceAdd, Int.reduceNeg, Int.reduceAdd, Int.reduceSub, Int.reduceMul, Int.reduceLT, Int.reduceLE, Int.reduceEq, Int.reduceToNat, Nat.reduceBEq, true_and]
    rfl
  obtain ⟨g1, g2, g3, g4, g5⟩ := mtB_dims hA
  simp only at g1 g2 g3 g4 g5
  have hal := l14Known_m y.length 1 y (by omega)
  simp only [encMt, encIts] at hal
  simp (disch := first | omega | (simp only [List.length_take, List.length_drop, List.length_append, List.map_cons, List.map_nil, List.length_map, List.length_cons, List.length_nil, List.length_set, List.length_replicate]; omega) | (simp only [List.length_cons, List.length_nil, Nat.zero_add, Nat.reduceAdd])) only [go_sem, ↓reduceIte, Nat.reduceAdd, Int.reduceNeg, Int.reduceAdd, Int.reduceSub, Int.reduceMul, Int.reduceLT, Int.reduceLE, Int.reduceEq, Int.reduceToNat, Nat.reduceBEq, true_and]
  refine cl_ok hco rfl ?_
  simp (disch := first | omega | (simp only [List.length_take, List.length_drop, List.length_append, List.map_cons, List.map_nil, List.length_map, List.length_cons, List.length_nil, List.length_set, List.length_replicate]; omega) | (simp only [List.length_cons, List.length_nil, Nat.zero_add, Nat.reduceAdd])) only [go_sem, ↓reduceIte, Nat.reduceAdd, Int.reduceNeg, Int.reduceAdd, Int.reduceSub, Int.reduceMul, Int.reduceLT, Int.reduceLE, Int.reduceEq, Int.reduceToNat, Nat.reduceBEq, true_and]
  refine cl_ok hal rfl ?_
  cases hN : allN y
  · rw [fit_none (by simp [hN])]
    simp (disch := first | omega | (simp only [List.length_take, List.length_drop, List.length_append, List.map_cons, List.map_nil, List.length_map, List.length_cons, List.length_nil, List.length_set, List.length_replicate]; omega) | (simp only [List.length_cons, List.length_nil, Nat.zero_add, Nat.reduceAdd])) only [go_sem, ↓reduceIte, Nat.reduceAdd, Int.reduceNeg, Int.reduceAdd, Int.reduceSub, Int.reduceMul, Int.reduceLT, Int.reduceLE, Int.reduceEq, Int.reduceToNat, Nat.reduceBEq, true_and]
    rfl
  obtain ⟨n, rfl⟩ := Int.eq_ofNat_of_zero_le g1
  obtain ⟨c, rfl⟩ := Int.eq_ofNat_of_zero_le g3
  have ht := l14Turn_m n c l (by exact_mod_cast g5) (by omega) (by omega)
  have htm : turnM ⟨n, c, l⟩ = ⟨c, n, turnL n c l (c * n)⟩ := by unfold turnM; rw [if_pos hA]; rfl
  rw [← htm] at ht
  simp only [encMt, encIts] at ht
  simp (disch := first | omega | (simp only [List.length_take, List.length_drop, List.length_append, List.map_cons, List.map_nil, List.length_map, List.length_cons, List.length_nil, List.length_set, List.length_replicate]; omega) | (simp only [List.length_cons, List.length_nil, Nat.zero_add, Nat.reduceAdd])) only [go_sem, ↓reduceIte, Nat.reduceAdd, Int.reduceNeg, Int.reduceAdd, Int.reduceSub, Int.reduceMul, Int.reduceLT, Int.reduceLE, Int.reduceEq, Int.reduceToNat, Nat.reduceBEq, true_and]
  refine cl_ok ht rfl ?_
  simp (disch := first | omega | (simp only [List.length_take, List.length_drop, List.length_append, List.map_cons, List.map_nil, List.length_map, List.length_cons, List.length_nil, List.length_set, List.length_replicate]; omega) | (simp only [List.length_cons, List.length_nil, Nat.zero_add, Nat.reduceAdd])) only [go_sem, ↓reduceIte, Nat.reduceAdd, Int.reduceNeg, Int.reduceAdd, Int.reduceSub, Int.reduceMul, Int.reduceLT, Int.reduceLE, Int.reduceEq, Int.reduceToNat, Nat.reduceBEq, true_and]
  refine cl_ok hm1 rfl ?_
  simp (disch := first | omega | (simp only [List.length_take, List.length_drop, List.length_append, List.map_cons, List.map_nil, List.length_map, List.length_cons, List.length_nil, List.length_set, List.length_replicate]; omega) | (simp only [List.length_cons, List.length_nil, Nat.zero_add, Nat.reduceAdd])) only [go_sem, ↓reduceIte, Nat.reduceAdd, Int.reduceNeg, Int.reduceAdd, Int.reduceSub, Int.reduceMul, Int.reduceLT, Int.reduceLE, Int.reduceEq, Int.reduceToNat, Nat.reduceBEq, true_and]
  refine cl_ok hco rfl ?_
  simp (disch := first | omega | (simp only [List.length_take, List.length_drop, List.length_append, List.map_cons, List.map_nil, List.length_map, List.length_cons, List.length_nil, List.length_set, List.length_replicate]; omega) | (simp only [List.length_cons, List.length_nil, Nat.zero_add, Nat.reduceAdd])) only [go_sem, ↓reduceIte, Nat.reduceAdd, Int.reduceNeg, Int.reduceAdd, Int.reduceSub, Int.reduceMul, Int.reduceLT, Int.reduceLE, Int.reduceEq, Int.reduceToNat, Nat.reduceBEq, true_and]
  refine cl_ok hm2 rfl ?_
  cases hB1 : mulB (turnM ⟨n, c, l⟩) ⟨n, c, l⟩
  · rw [fit_none2 (by simp [hB1])]
    simp (disch := first | omega | (simp only [List.length_take, List.length_drop, List.length_append, List.map_cons, List.map_nil, List.length_map, List.length_cons, List.length_nil, List.length_set, List.length_replicate]; omega) | (simp only [List.length_cons, List.length_nil, Nat.zero_add, Nat.reduceAdd])) only [go_sem, ↓reduceIte, Nat.reduceAdd, Int.reduceNeg, Int.reduceAdd, Int.reduceSub, Int.reduceMul, Int.reduceLT, Int.reduceLE, Int.reduceEq, Int.reduceToNat, Nat.reduceBEq, true_and]
    rfl
  simp (disch := first | omega | (simp only [List.length_take, List.length_drop, List.length_append, List.map_cons, List.map_nil, List.length_map, List.length_cons, List.length_nil, List.length_set, List.length_replicate]; omega) | (simp only [List.length_cons, List.length_nil, Nat.zero_add, Nat.reduceAdd])) only [go_sem, ↓reduceIte, Nat.reduceAdd, Int.reduceNeg, Int.reduceAdd, Int.reduceSub, Int.reduceMul, Int.reduceLT, Int.reduceLE, Int.reduceEq, Int.reduceToNat, Nat.reduceBEq, true_and]
  cases hB2 : mulB (turnM ⟨n, c, l⟩) ⟨y.length, 1, y⟩
  · rw [fit_none2 (by simp [hB2])]
    simp (disch := first | omega | (simp only [List.length_take, List.length_drop, List.length_append, List.map_cons, List.map_nil, List.length_map, List.length_cons, List.length_nil, List.length_set, List.length_replicate]; omega) | (simp only [List.length_cons, List.length_nil, Nat.zero_add, Nat.reduceAdd])) only [go_sem, ↓reduceIte, Nat.reduceAdd, Int.reduceNeg, Int.reduceAdd, Int.reduceSub, Int.reduceMul, Int.reduceLT, Int.reduceLE, Int.reduceEq, Int.reduceToNat, Nat.reduceBEq, true_and]
    rfl
  simp (disch := first | omega | (simp only [List.length_take, List.length_drop, List.length_append, List.map_cons, List.map_nil, List.length_map, List.length_cons, List.length_nil, List.length_set, List.length_replicate]; omega) | (simp only [List.length_cons, List.length_nil, Nat.zero_add, Nat.reduceAdd])) only [go_sem, ↓reduceIte, Nat.reduceAdd, Int.reduceNeg, Int.reduceAdd, Int.reduceSub, Int.reduceMul, Int.reduceLT, Int.reduceLE, Int.reduceEq, Int.reduceToNat, Nat.reduceBEq, true_and]
  obtain ⟨k1, k2⟩ := turn_true hA
  obtain ⟨la, e1, e2⟩ := mulM_dim hB1
  obtain ⟨lb, e3, e4⟩ := mulM_dim hB2
  rw [fit_some hA h1 hN hB1 hB2 (congrArg Mt.cells e1) (congrArg Mt.cells e3)]
  simp only at k1 k2
  rw [k1] at e1 e2 e3 e4
  simp only at e1 e2 e3 e4
  rw [e1, e3]
  have hbe := specBeside_m c c 1 c la lb (by omega) (by omega) (by omega) (by simpa using e2) (by simpa using e4)
  have hau := specAug_m c c 1 la lb (by omega) (by omega) (by omega) (by simpa using e2) (by simpa using e4)
  unfold fitE
  simp only [encMt, encIts] at hbe hau
  refine cl_ok hbe rfl ?_
  simp (disch := first | omega | (simp only [List.length_take, List.length_drop, List.length_append, List.map_cons, List.map_nil, List.length_map, List.length_cons, List.length_nil, List.length_set, List.length_replicate]; omega) | (simp only [List.length_cons, List.length_nil, Nat.zero_add, Nat.reduceAdd])) only [go_sem, ↓reduceIte, Nat.reduceAdd, Int.reduceNeg, Int.reduceAdd, Int.reduceSub, Int.reduceMul, Int.reduceLT, Int.reduceLE, Int.reduceEq, Int.reduceToNat, Nat.reduceBEq, true_and]
  cases hd : augR c c 1 la lb with
  | none =>
    rw [hd] at hau
    simp only [resS, encMt, encIts, encZs] at hau
    refine cl_ok hau rfl ?_
    simp (disch := first | omega | (simp only [List.length_take, List.length_drop, List.length_append, List.map_cons, List.map_nil, List.length_map, List.length_cons, List.length_nil, List.length_set, List.length_replicate]; omega) | (simp only [List.length_cons, List.length_nil, Nat.zero_add, Nat.reduceAdd])) only [go_sem, ↓reduceIte, Nat.reduceAdd, Int.reduceNeg, Int.reduceAdd, Int.reduceSub, Int.reduceMul, Int.reduceLT, Int.reduceLE, Int.reduceEq, Int.reduceToNat, Nat.reduceBEq, true_and]
    refine lp_n c (fun i => [.sc (.int .i64 (i : Nat)), .sl 41 3 ((List.replicate i it0).map encIt)]) rfl fun i hi => ?_
    simp only [u_spec_FitMatrix_l2]
    simp (disch := first | omega | (simp only [List.length_take, List.length_drop, List.length_append, List.map_cons, List.map_nil, List.length_map, List.length_cons, List.length_nil, List.length_set, List.length_replicate]; omega) | (simp only [List.length_cons, List.length_nil, Nat.zero_add, Nat.reduceAdd])) only [go_sem, ↓reduceIte, Nat.reduceAdd, Int.reduceNeg, Int.reduceAdd, Int.reduceSub, Int.reduceMul, Int.reduceLT, Int.reduceLE, Int.reduceEq, Int.reduceToNat, Nat.reduceBEq, true_and]
    refine br_if (fun h => ?_) (fun h => ?_)
    · have hlt : i < c := by omega
      simp (disch := first | omega | (simp only [List.length_take, List.length_drop, List.length_append, List.map_cons, List.map_nil, List.length_map, List.length_cons, List.length_nil, List.length_set, List.length_replicate]; omega) | (simp only [List.length_cons, List.length_nil, Nat.zero_add, Nat.reduceAdd])) only [go_sem, ↓reduceIte, Nat.reduceAdd, Int.reduceNeg, Int.reduceAdd, Int.reduceSub, Int.reduceMul, Int.reduceLT, Int.reduceLE, Int.reduceEq, Int.reduceToNat, Nat.reduceBEq, nat1, fl1_i]
      refine ⟨?_, hlt⟩
      rw [List.replicate_succ', List.map_append]; rfl
    · obtain rfl : c = i := by omega
      simp (disch := first | omega | (simp only [List.length_take, List.length_drop, List.length_append, List.map_cons, List.map_nil, List.length_map, List.length_cons, List.length_nil, List.length_set, List.length_replicate]; omega) | (simp only [List.length_cons, List.length_nil, Nat.zero_add, Nat.reduceAdd])) only [go_sem, ↓reduceIte, Nat.reduceAdd, Int.reduceNeg, Int.reduceAdd, Int.reduceSub, Int.reduceMul, Int.reduceLT, Int.reduceLE, Int.reduceEq, Int.reduceToNat, Nat.reduceBEq, true_and]
      refine lp_n 0 (fun i => [.sc (.int .i64 (i : Nat)), .sl 41 3 ((List.replicate c it0).map encIt)]) rfl fun i hi => ?_
      obtain rfl : i = 0 := by omega
      simp only [u_spec_FitMatrix_l1]
      simp (disch := first | omega | (simp only [List.length_take, List.length_drop, List.length_append, List.map_cons, List.map_nil, List.length_map, List.length_cons, List.length_nil, List.length_set, List.length_replicate]; omega) | (simp only [List.length_cons, List.length_nil, Nat.zero_add, Nat.reduceAdd])) only [go_sem, ↓reduceIte, Nat.reduceAdd, Int.reduceNeg, Int.reduceAdd, Int.reduceSub, Int.reduceMul, Int.reduceLT, Int.reduceLE, Int.reduceEq, Int.reduceToNat, Nat.reduceBEq, true_and]
      rfl
  | some x =>
    obtain ⟨f, st⟩ := x
    rw [hd] at hau
    simp only [resS, encMt, encIts, encZs] at hau
    obtain ⟨l1, l2⟩ := redS_len hd
    have hpl : ((pivL st).map encZ).length = st.length := by rw [List.length_map]; exact pivL_len st
    have hpl' := pivL_len st
    refine cl_ok hau rfl ?_
    simp (disch := first | omega | (simp only [List.length_take, List.length_drop, List.length_append, List.map_cons, List.map_nil, List.length_map, List.length_cons, List.length_nil, List.length_set, List.length_replicate]; omega) | (simp only [List.length_cons, List.length_nil, Nat.zero_add, Nat.reduceAdd])) only [go_sem, ↓reduceIte, Nat.reduceAdd, Int.reduceNeg, Int.reduceAdd, Int.reduceSub, Int.reduceMul, Int.reduceLT, Int.reduceLE, Int.reduceEq, Int.reduceToNat, Nat.reduceBEq, true_and]
    refine lp_n c (fun i => [.sc (.int .i64 (i : Nat)), .sl 41 3 ((List.replicate i it0).map encIt)]) rfl fun i hi => ?_
    simp only [u_spec_FitMatrix_l2]
    simp (disch := first | omega | (simp only [List.length_take, List.length_drop, List.length_append, List.map_cons, List.map_nil, List.length_map, List.length_cons, List.length_nil, List.length_set, List.length_replicate]; omega) | (simp only [List.length_cons, List.length_nil, Nat.zero_add, Nat.reduceAdd])) only [go_sem, ↓reduceIte, Nat.reduceAdd, Int.reduceNeg, Int.reduceAdd, Int.reduceSub, Int.reduceMul, Int.reduceLT, Int.reduceLE, Int.reduceEq, Int.reduceToNat, Nat.reduceBEq, true_and]
    refine br_if (fun h => ?_) (fun h => ?_)
    · have hlt : i < c := by omega
      simp (disch := first | omega | (simp only [List.length_take, List.length_drop, List.length_append, List.map_cons, List.map_nil, List.length_map, List.length_cons, List.length_nil, List.length_set, List.length_replicate]; omega) | (simp only [List.length_cons, List.length_nil, Nat.zero_add, Nat.reduceAdd])) only [go_sem, ↓reduceIte, Nat.reduceAdd, Int.reduceNeg, Int.reduceAdd, Int.reduceSub, Int.reduceMul, Int.reduceLT, Int.reduceLE, Int.reduceEq, Int.reduceToNat, Nat.reduceBEq, nat1, fl1_i]
      refine ⟨?_, hlt⟩
      rw [List.replicate_succ', List.map_append]; rfl
    obtain rfl : c = i := by omega
    simp (disch := first | omega | (simp only [List.length_take, List.length_drop, List.length_append, List.map_cons, List.map_nil, List.length_map, List.length_cons, List.length_nil, List.length_set, List.length_replicate]; omega) | (simp only [List.length_cons, List.length_nil, Nat.zero_add, Nat.reduceAdd])) only [go_sem, ↓reduceIte, Nat.reduceAdd, Int.reduceNeg, Int.reduceAdd, Int.reduceSub, Int.reduceMul, Int.reduceLT, Int.reduceLE, Int.reduceEq, Int.reduceToNat, Nat.reduceBEq, true_and]
    refine lp_n st.length (fun i => [.sc (.int .i64 (i : Nat)), .sl 41 3 ((fitL c f st i).map encIt)]) rfl fun i hi => ?_
    have hsl := fitL_len c f st i
    simp only [u_spec_FitMatrix_l1]
    simp (disch := first | omega | (simp only [List.length_take, List.length_drop, List.length_append, List.map_cons, List.map_nil, List.length_map, List.length_cons, List.length_nil, List.length_set, List.length_replicate]; omega) | (simp only [List.length_cons, List.length_nil, Nat.zero_add, Nat.reduceAdd])) only [go_sem, ↓reduceIte, Nat.reduceAdd, Int.reduceNeg, Int.reduceAdd, Int.reduceSub, Int.reduceMul, Int.reduceLT, Int.reduceLE, Int.reduceEq, Int.reduceToNat, Nat.reduceBEq, hpl]
    refine br_if (fun h => ?_) (fun h => ?_)
    · have hlt : i < st.length := by omega
      have hp := piv_lt hd hlt
      have hpg := pivL_getD hlt
      have hbd : i * (c + 1) ≤ 12 * 13 := Nat.mul_le_mul (by omega) (by omega)
      simp (disch := first | omega | (simp only [List.length_take, List.length_drop, List.length_append, List.map_cons, List.map_nil, List.length_map, List.length_cons, List.length_nil, List.length_set, List.length_replicate]; omega) | (simp only [List.length_cons, List.length_nil, Nat.zero_add, Nat.reduceAdd])) only [go_sem, ↓reduceIte, Nat.reduceAdd, Int.reduceNeg, Int.reduceAdd, Int.reduceSub, Int.reduceMul, Int.reduceLT, Int.reduceLE, Int.reduceEq, Int.reduceToNat, Nat.reduceBEq, hpl, ix_z, hpg, encZ]
      refine jn (fun vs => ∃ y0, vs = [y0, .sl 41 3 ((fitL c f st (i + 1)).map encIt)]) ?_ ?_
      · simp (disch := first | omega | (simp only [List.length_take, List.length_drop, List.length_append, List.map_cons, List.map_nil, List.length_map, List.length_cons, List.length_nil, List.length_set, List.length_replicate]; omega) | (simp only [List.length_cons, List.length_nil, Nat.zero_add, Nat.reduceAdd])) only [go_sem, ↓reduceIte, Nat.reduceAdd, Int.reduceNeg, Int.reduceAdd, Int.reduceSub, Int.reduceMul, Int.reduceLT, Int.reduceLE, Int.reduceEq, Int.reduceToNat, Nat.reduceBEq, hpl, ix_z, hpg, encZ]
        refine br_if (fun h2 => ?_) (fun h2 => ?_)
        · simp (disch := first | omega | (simp only [List.length_take, List.length_drop, List.length_append, List.map_cons, List.map_nil, List.length_map, List.length_cons, List.length_nil, List.length_set, List.length_replicate]; omega) | (simp only [List.length_cons, List.length_nil, Nat.zero_add, Nat.reduceAdd])) only [go_sem, ↓reduceIte, Nat.reduceAdd, Int.reduceNeg, Int.reduceAdd, Int.reduceSub, Int.reduceMul, Int.reduceLT, Int.reduceLE, Int.reduceEq, Int.reduceToNat, Nat.reduceBEq, hpl, ix_z, hpg, encZ, nm, na, ix_g (R := c) (W := c + 1) (i := i) (k := c) (show i < c by omega) (show c < c + 1 by omega), chk_g (R := c) (W := c + 1) (i := i) (k := c) (show i < c by omega) (show c < c + 1 by omega), encIt, st_it]
          rw [fitL, if_pos (by omega), List.map_set]
          exact ⟨_, rfl⟩
        · simp (disch := first | omega | (simp only [List.length_take, List.length_drop, List.length_append, List.map_cons, List.map_nil, List.length_map, List.length_cons, List.length_nil, List.length_set, List.length_replicate]; omega) | (simp only [List.length_cons, List.length_nil, Nat.zero_add, Nat.reduceAdd])) only [go_sem, ↓reduceIte, Nat.reduceAdd, Int.reduceNeg, Int.reduceAdd, Int.reduceSub, Int.reduceMul, Int.reduceLT, Int.reduceLE, Int.reduceEq, Int.reduceToNat, Nat.reduceBEq, true_and]
          rw [fitL, if_neg (by omega)]
          exact ⟨_, rfl⟩
      · rintro vs - ⟨y0, rfl⟩
        simp only [u_spec_FitMatrix_j0]
        simp (disch := first | omega | (simp only [List.length_take, List.length_drop, List.length_append, List.map_cons, List.map_nil, List.length_map, List.length_cons, List.length_nil, List.length_set, List.length_replicate]; omega) | (simp only [List.length_cons, List.length_nil, Nat.zero_add, Nat.reduceAdd])) only [go_sem, ↓reduceIte, Nat.reduceAdd, Int.reduceNeg, Int.reduceAdd, Int.reduceSub, Int.reduceMul, Int.reduceLT, Int.reduceLE, Int.reduceEq, Int.reduceToNat, Nat.reduceBEq, nat1]
        exact hlt
    · obtain rfl : i = st.length := by omega
      simp (disch := first | omega | (simp only [List.length_take, List.length_drop, List.length_append, List.map_cons, List.map_nil, List.length_map, List.length_cons, List.length_nil, List.length_set, List.length_replicate]; omega) | (simp only [List.length_cons, List.length_nil, Nat.zero_add, Nat.reduceAdd])) only [go_sem, ↓reduceIte, Nat.reduceAdd, Int.reduceNeg, Int.reduceAdd, Int.reduceSub, Int.reduceMul, Int.reduceLT, Int.reduceLE, Int.reduceEq, Int.reduceToNat, Nat.reduceBEq, true_and]
      rfl
end Go.Proofs.Ytmanijpmkeheeaa
