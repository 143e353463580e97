/- ReplaceSubtree of both packages. -/
import Derived.Test.YtenopiadacpbiaaUSub3
import Derived.Test.YtenopiadacpbiaaSub2
namespace Go.Proofs.Ytenopiadacpbiaa
open Go.RowKit
set_option linter.unusedVariables false
set_option linter.unusedSimpArgs false
set_option maxRecDepth 100000

def BdN (t : List Nod) : Prop := t.length ≤ 1048576 ∧ ∀ x ∈ t, x.text.size ≤ 1048576 ∧ x.labels.length ≤ 1048576 ∧ ∀ y ∈ x.labels, y.size ≤ 1048576
theorem BdN.take {t : List Nod} (h : BdN t) (n : Nat) : BdN (t.take n) := ⟨by rw [List.length_take]; have := h.1; omega, fun x hx => h.2 x (List.mem_of_mem_take hx)⟩
theorem BdN.drop {t : List Nod} (h : BdN t) (n : Nat) : BdN (t.drop n) := ⟨by rw [List.length_drop]; have := h.1; omega, fun x hx => h.2 x (List.mem_of_mem_drop hx)⟩
theorem BdN.app {t u : List Nod} (h : BdN t) (k : BdN u) (hl : t.length + u.length ≤ 1048576) : BdN (t ++ u) := ⟨by rw [List.length_append]; omega, fun x hx => (List.mem_append.1 hx).elim (h.2 x) (k.2 x)⟩
theorem BdN.of {t : List Nod} (h : wtNods t ≤ 1048576) : BdN t := wtNods_ok h
def putT (t : List Nod) (i : Nat) (u : List Nod) : List Nod := t.take (startT t i) ++ u ++ t.drop (i + 1)
def repT (t : List Nod) (i : Int) (u : List Nod) : List Nod × Bool :=
  if treeB t = true ∧ treeB u = true ∧ 0 ≤ i ∧ i < t.length then (if treeB (putT t i.toNat u) = true then (putT t i.toNat u, true) else ([], false)) else ([], false)
theorem repT_no {t u : List Nod} {i : Int} (h : ¬ (treeB t = true ∧ treeB u = true ∧ 0 ≤ i ∧ i < t.length)) : repT t i u = ([], false) := by unfold repT; rw [if_neg h]
set_option maxHeartbeats 2000000 in
theorem implRep_m (t u : List Nod) (i : Int) (ht : BdN t) (hu : BdN u) : Meets Try.prog 14 [(false, [encNods t]), (false, [.sc (.int .i64 i)]), (false, [encNods u])] [(false, [encNods (repT t i u).1], true), (false, [.sc (.bool (repT t i u).2)], true)] := by
  have h1 := implTree_m t ht.1 ht.2
  have h2 := implTree_m u hu.1 hu.2
  by_cases hc : treeB t = true ∧ treeB u = true ∧ 0 ≤ i ∧ i < t.length
  · obtain ⟨c1, c2, c3, c4⟩ := hc
    have hT := tree_len c1
    have hU := tree_len c2
    obtain ⟨i, rfl⟩ := Int.eq_ofNat_of_zero_le c3
    have hi : i < t.length := by omega
    have h3 := implStart_m t c1 i hi
    have hs := startT_le t i
    have h4 := implCopy_m (t.take (startT t i)) (ht.take _).1 fun x hx => ((ht.take _).2 x hx).2.1
    have h5 := implCopy_m u hu.1 fun x hx => (hu.2 x hx).2.1
    have h6 := implCopy_m (t.drop (i + 1)) (ht.drop _).1 fun x hx => ((ht.drop _).2 x hx).2.1
    have hl1 : (t.take (startT t i)).length ≤ 200 := by rw [List.length_take]; omega
    have hl2 : (t.drop (i + 1)).length ≤ 200 := by rw [List.length_drop]; omega
    have hP : BdN (putT t i u) := ((ht.take _).app hu (by omega)).app (ht.drop _) (by rw [List.length_append]; omega)
    have h7 := implTree_m (putT t i u) hP.1 hP.2
    have hr : repT t i u = if treeB (putT t i u) = true then (putT t i u, true) else ([], false) := by unfold repT; rw [if_pos ⟨c1, c2, c3, c4⟩]; rfl
    rw [hr]
    rw [c1] at h1
    rw [c2] at h2
    have e1 : ((i : Int) + 1).toNat = i + 1 := by omega
    have hla : (t.take (startT t i) ++ u).length ≤ 400 := by rw [List.length_append]; omega
    unfold putT at h7 ⊢
    cases hb : treeB (t.take (startT t i) ++ u ++ t.drop (i + 1))
    · rw [hb] at h7
      refine meets_upf Try.func14 u_impl_ReplaceSubtree_g rfl ?_; simp only [u_impl_ReplaceSubtree_u]
      simp only [encNods] at h1 h2 h3 h4 h5 h6 h7 ⊢
      repeat' (first | (with_reducible refine jn_in ?_) | (with_reducible refine cl_ok (by assumption) rfl ?_) | (with_reducible refine br_if (fun hbr => ?_) (fun hbr => ?_)) | (with_reducible refine br_ifn (fun hbr => ?_) (fun hbr => ?_)) | (with_reducible refine br_nb (fun hbr => ?_) (fun hbr => ?_)) | (with_reducible refine br_b (fun hbr => ?_) (fun hbr => ?_)) | simp (disch := first | omega | (simp only [List.length_take, List.length_drop, List.length_append, List.map_cons, List.map_nil, List.length_map, List.length_cons, List.length_nil, List.length_set, List.length_replicate]; omega) | (simp only [List.length_cons, List.length_nil, Nat.zero_add, Nat.reduceAdd])) only [go_sem, ↓reduceIte, Nat.reduceAdd, Int.reduceNeg, Int.reduceAdd, Int.reduceSub, Int.reduceMul, Int.reduceLT, Int.reduceLE, Int.reduceEq, Int.reduceToNat, Nat.reduceBEq, e_sle, e_sge, e_shl1, e_orI, e_andI, e_shr, wrapu, wrap8, tn1, nat1, ix_s, ix_z, st_s, st_z, fl_s, fl_z, fl1_s, fl1_z, map_s, map_z, e_cL2, e_cL1, e1, Int.toNat_natCast, e_appm])
      all_goals first | omega | rfl
    · rw [hb] at h7
      refine meets_upf Try.func14 u_impl_ReplaceSubtree_g rfl ?_; simp only [u_impl_ReplaceSubtree_u]
      simp only [encNods] at h1 h2 h3 h4 h5 h6 h7 ⊢
      repeat' (first | (with_reducible refine jn_in ?_) | (with_reducible refine cl_ok (by assumption) rfl ?_) | (with_reducible refine br_if (fun hbr => ?_) (fun hbr => ?_)) | (with_reducible refine br_ifn (fun hbr => ?_) (fun hbr => ?_)) | (with_reducible refine br_nb (fun hbr => ?_) (fun hbr => ?_)) | (with_reducible refine br_b (fun hbr => ?_) (fun hbr => ?_)) | simp (disch := first | omega | (simp only [List.length_take, List.length_drop, List.length_append, List.map_cons, List.map_nil, List.length_map, List.length_cons, List.length_nil, List.length_set, List.length_replicate]; omega) | (simp only [List.length_cons, List.length_nil, Nat.zero_add, Nat.reduceAdd])) only [go_sem, ↓reduceIte, Nat.reduceAdd, Int.reduceNeg, Int.reduceAdd, Int.reduceSub, Int.reduceMul, Int.reduceLT, Int.reduceLE, Int.reduceEq, Int.reduceToNat, Nat.reduceBEq, e_sle, e_sge, e_shl1, e_orI, e_andI, e_shr, wrapu, wrap8, tn1, nat1, ix_s, ix_z, st_s, st_z, fl_s, fl_z, fl1_s, fl1_z, map_s, map_z, e_cL2, e_cL1, e1, Int.toNat_natCast, e_appm])
      all_goals first | omega | rfl
  · rw [repT_no hc]
    cases c1 : treeB t
    · rw [c1] at h1
      refine meets_upf Try.func14 u_impl_ReplaceSubtree_g rfl ?_; simp only [u_impl_ReplaceSubtree_u]
      simp only [encNods] at h1 h2 ⊢
      repeat' (first | (with_reducible refine jn_in ?_) | (with_reducible refine cl_ok (by assumption) rfl ?_) | (with_reducible refine br_if (fun hbr => ?_) (fun hbr => ?_)) | (with_reducible refine br_ifn (fun hbr => ?_) (fun hbr => ?_)) | (with_reducible refine br_nb (fun hbr => ?_) (fun hbr => ?_)) | (with_reducible refine br_b (fun hbr => ?_) (fun hbr => ?_)) | simp (disch := first | omega | (simp only [List.length_take, List.length_drop, List.length_append, List.map_cons, List.map_nil, List.length_map, List.length_cons, List.length_nil, List.length_set, List.length_replicate]; omega) | (simp only [List.length_cons, List.length_nil, Nat.zero_add, Nat.reduceAdd])) only [go_sem, ↓reduceIte, Nat.reduceAdd, Int.reduceNeg, Int.reduceAdd, Int.reduceSub, Int.reduceMul, Int.reduceLT, Int.reduceLE, Int.reduceEq, Int.reduceToNat, Nat.reduceBEq, e_sle, e_sge, e_shl1, e_orI, e_andI, e_shr, wrapu, wrap8, tn1, nat1, ix_s, ix_z, st_s, st_z, fl_s, fl_z, fl1_s, fl1_z, map_s, map_z, true_and])
      all_goals first | omega | rfl
    · cases c2 : treeB u
      · rw [c1] at h1
        rw [c2] at h2
        refine meets_upf Try.func14 u_impl_ReplaceSubtree_g rfl ?_; simp only [u_impl_ReplaceSubtree_u]
        simp only [encNods] at h1 h2 ⊢
        repeat' (first | (with_reducible refine jn_in ?_) | (with_reducible refine cl_ok (by assumption) rfl ?_) | (with_reducible refine br_if (fun hbr => ?_) (fun hbr => ?_)) | (with_reducible refine br_ifn (fun hbr => ?_) (fun hbr => ?_)) | (with_reducible refine br_nb (fun hbr => ?_) (fun hbr => ?_)) | (with_reducible refine br_b (fun hbr => ?_) (fun hbr => ?_)) | simp (disch := first | omega | (simp only [List.length_take, List.length_drop, List.length_append, List.map_cons, List.map_nil, List.length_map, List.length_cons, List.length_nil, List.length_set, List.length_replicate]; omega) | (simp only [List.length_cons, List.length_nil, Nat.zero_add, Nat.reduceAdd])) only [go_sem, ↓reduceIte, Nat.reduceAdd, Int.reduceNeg, Int.reduceAdd, Int.reduceSub, Int.reduceMul, Int.reduceLT, Int.reduceLE, Int.reduceEq, Int.reduceToNat, Nat.reduceBEq, e_sle, e_sge, e_shl1, e_orI, e_andI, e_shr, wrapu, wrap8, tn1, nat1, ix_s, ix_z, st_s, st_z, fl_s, fl_z, fl1_s, fl1_z, map_s, map_z, true_and])
        all_goals first | omega | rfl
      · have hi : i < 0 ∨ (t.length : Int) ≤ i := by
          rcases Int.lt_or_le i 0 with h | h
          · exact .inl h
          · exact .inr (by rcases Int.lt_or_le i t.length with h' | h'; exact absurd ⟨c1, c2, h, h'⟩ hc; exact h')
        rw [c1] at h1
        rw [c2] at h2
        refine meets_upf Try.func14 u_impl_ReplaceSubtree_g rfl ?_; simp only [u_impl_ReplaceSubtree_u]
        simp only [encNods] at h1 h2 ⊢
        simp (disch := first | omega | (simp only [List.length_take, List.length_drop, List.length_append, List.map_cons, List.map_nil, List.length_map, List.length_cons, List.length_nil, List.length_set, List.length_replicate]; omega) | (simp only [List.length_cons, List.length_nil, Nat.zero_add, Nat.reduceAdd])) only [go_sem, ↓reduceIte, Nat.reduceAdd, Int.reduceNeg, Int.reduceAdd, Int.reduceSub, Int.reduceMul, Int.reduceLT, Int.reduceLE, Int.reduceEq, Int.reduceToNat, Nat.reduceBEq, e_sle, e_sge, e_shl1, e_orI, e_andI, e_shr, wrapu, wrap8, tn1, nat1, ix_s, ix_z, st_s, st_z, fl_s, fl_z, fl1_s, fl1_z, map_s, map_z, true_and]
        refine cl_ok h1 rfl ?_
        simp (disch := first | omega | (simp only [List.length_take, List.length_drop, List.length_append, List.map_cons, List.map_nil, List.length_map, List.length_cons, List.length_nil, List.length_set, List.length_replicate]; omega) | (simp only [List.length_cons, List.length_nil, Nat.zero_add, Nat.reduceAdd])) only [go_sem, ↓reduceIte, Nat.reduceAdd, Int.reduceNeg, Int.reduceAdd, Int.reduceSub, Int.reduceMul, Int.reduceLT, Int.reduceLE, Int.reduceEq, Int.reduceToNat, Nat.reduceBEq, e_sle, e_sge, e_shl1, e_orI, e_andI, e_shr, wrapu, wrap8, tn1, nat1, ix_s, ix_z, st_s, st_z, fl_s, fl_z, fl1_s, fl1_z, map_s, map_z, true_and]
        refine cl_ok h2 rfl ?_
        simp (disch := first | omega | (simp only [List.length_take, List.length_drop, List.length_append, List.map_cons, List.map_nil, List.length_map, List.length_cons, List.length_nil, List.length_set, List.length_replicate]; omega) | (simp only [List.length_cons, List.length_nil, Nat.zero_add, Nat.reduceAdd])) only [go_sem, ↓reduceIte, Nat.reduceAdd, Int.reduceNeg, Int.reduceAdd, Int.reduceSub, Int.reduceMul, Int.reduceLT, Int.reduceLE, Int.reduceEq, Int.reduceToNat, Nat.reduceBEq, e_sle, e_sge, e_shl1, e_orI, e_andI, e_shr, wrapu, wrap8, tn1, nat1, ix_s, ix_z, st_s, st_z, fl_s, fl_z, fl1_s, fl1_z, map_s, map_z, true_and]
        refine br_if (fun hbr => ?_) (fun hbr => ?_)
        · repeat' (first | (with_reducible refine jn_in ?_) | (with_reducible refine cl_ok (by assumption) rfl ?_) | (with_reducible refine br_if (fun hbr => ?_) (fun hbr => ?_)) | (with_reducible refine br_ifn (fun hbr => ?_) (fun hbr => ?_)) | (with_reducible refine br_nb (fun hbr => ?_) (fun hbr => ?_)) | (with_reducible refine br_b (fun hbr => ?_) (fun hbr => ?_)) | simp (disch := first | omega | (simp only [List.length_take, List.length_drop, List.length_append, List.map_cons, List.map_nil, List.length_map, List.length_cons, List.length_nil, List.length_set, List.length_replicate]; omega) | (simp only [List.length_cons, List.length_nil, Nat.zero_add, Nat.reduceAdd])) only [go_sem, ↓reduceIte, Nat.reduceAdd, Int.reduceNeg, Int.reduceAdd, Int.reduceSub, Int.reduceMul, Int.reduceLT, Int.reduceLE, Int.reduceEq, Int.reduceToNat, Nat.reduceBEq, e_sle, e_sge, e_shl1, e_orI, e_andI, e_shr, wrapu, wrap8, tn1, nat1, ix_s, ix_z, st_s, st_z, fl_s, fl_z, fl1_s, fl1_z, map_s, map_z, true_and])
          rfl
        · simp (disch := first | omega | (simp only [List.length_take, List.length_drop, List.length_append, List.map_cons, List.map_nil, List.length_map, List.length_cons, List.length_nil, List.length_set, List.length_replicate]; omega) | (simp only [List.length_cons, List.length_nil, Nat.zero_add, Nat.reduceAdd])) only [go_sem, ↓reduceIte, Nat.reduceAdd, Int.reduceNeg, Int.reduceAdd, Int.reduceSub, Int.reduceMul, Int.reduceLT, Int.reduceLE, Int.reduceEq, Int.reduceToNat, Nat.reduceBEq, e_sle, e_sge, e_shl1, e_orI, e_andI, e_shr, wrapu, wrap8, tn1, nat1, ix_s, ix_z, st_s, st_z, fl_s, fl_z, fl1_s, fl1_z, map_s, map_z, true_and]
          refine br_if (fun hbr => ?_) (fun hbr => ?_)
          · repeat' (first | (with_reducible refine jn_in ?_) | (with_reducible refine cl_ok (by assumption) rfl ?_) | (with_reducible refine br_if (fun hbr => ?_) (fun hbr => ?_)) | (with_reducible refine br_ifn (fun hbr => ?_) (fun hbr => ?_)) | (with_reducible refine br_nb (fun hbr => ?_) (fun hbr => ?_)) | (with_reducible refine br_b (fun hbr => ?_) (fun hbr => ?_)) | simp (disch := first | omega | (simp only [List.length_take, List.length_drop, List.length_append, List.map_cons, List.map_nil, List.length_map, List.length_cons, List.length_nil, List.length_set, List.length_replicate]; omega) | (simp only [List.length_cons, List.length_nil, Nat.zero_add, Nat.reduceAdd])) only [go_sem, ↓reduceIte, Nat.reduceAdd, Int.reduceNeg, Int.reduceAdd, Int.reduceSub, Int.reduceMul, Int.reduceLT, Int.reduceLE, Int.reduceEq, Int.reduceToNat, Nat.reduceBEq, e_sle, e_sge, e_shl1, e_orI, e_andI, e_shr, wrapu, wrap8, tn1, nat1, ix_s, ix_z, st_s, st_z, fl_s, fl_z, fl1_s, fl1_z, map_s, map_z, true_and])
            rfl
          · exfalso; omega
set_option maxHeartbeats 2000000 in
theorem specRep_m (t u : List Nod) (i : Int) (ht : BdN t) (hu : BdN u) : Meets Try.prog 13 [(false, [encNods t]), (false, [.sc (.int .i64 i)]), (false, [encNods u])] [(false, [encNods (repT t i u).1], true), (false, [.sc (.bool (repT t i u).2)], true)] := by
  have h1 := specTree_m t ht.1 ht.2
  have h2 := specTree_m u hu.1 hu.2
  have h0 := l1In_m i 0 ((t.length : Int) - 1)
  by_cases hc : treeB t = true ∧ treeB u = true ∧ 0 ≤ i ∧ i < t.length
  · obtain ⟨c1, c2, c3, c4⟩ := hc
    have hT := tree_len c1
    have hU := tree_len c2
    rw [decide_eq_true (p := 0 ≤ i ∧ i ≤ (t.length : Int) - 1) (by omega)] at h0
    obtain ⟨i, rfl⟩ := Int.eq_ofNat_of_zero_le c3
    have hi : i < t.length := by omega
    have h3 := specStart_m t c1 i hi
    have hs := startT_le t i
    have h4 := specCopy_m (t.take (startT t i)) (ht.take _).1 fun x hx => ((ht.take _).2 x hx).2.1
    have h5 := specCopy_m u hu.1 fun x hx => (hu.2 x hx).2.1
    have h6 := specCopy_m (t.drop (i + 1)) (ht.drop _).1 fun x hx => ((ht.drop _).2 x hx).2.1
    have hl1 : (t.take (startT t i)).length ≤ 200 := by rw [List.length_take]; omega
    have hl2 : (t.drop (i + 1)).length ≤ 200 := by rw [List.length_drop]; omega
    have hP : BdN (putT t i u) := ((ht.take _).app hu (by omega)).app (ht.drop _) (by rw [List.length_append]; omega)
    have h7 := specTree_m (putT t i u) hP.1 hP.2
    have hr : repT t i u = if treeB (putT t i u) = true then (putT t i u, true) else ([], false) := by unfold repT; rw [if_pos ⟨c1, c2, c3, c4⟩]; rfl
    rw [hr]
    rw [c1] at h1
    rw [c2] at h2
    have e1 : ((i : Int) + 1).toNat = i + 1 := by omega
    have hla : (t.take (startT t i) ++ u).length ≤ 400 := by rw [List.length_append]; omega
    unfold putT at h7 ⊢
    cases hb : treeB (t.take (startT t i) ++ u ++ t.drop (i + 1))
    · rw [hb] at h7
      refine meets_upf Try.func13 u_spec_ReplaceSubtree_g rfl ?_; simp only [u_spec_ReplaceSubtree_u]
      simp only [encNods] at h0 h1 h2 h3 h4 h5 h6 h7 ⊢
      repeat' (first | (with_reducible refine jn_in ?_) | (with_reducible refine cl_ok (by assumption) rfl ?_) | (with_reducible refine br_if (fun hbr => ?_) (fun hbr => ?_)) | (with_reducible refine br_ifn (fun hbr => ?_) (fun hbr => ?_)) | (with_reducible refine br_nb (fun hbr => ?_) (fun hbr => ?_)) | (with_reducible refine br_b (fun hbr => ?_) (fun hbr => ?_)) | simp (disch := first | omega | (simp only [List.length_take, List.length_drop, List.length_append, List.map_cons, List.map_nil, List.length_map, List.length_cons, List.length_nil, List.length_set, List.length_replicate]; omega) | (simp only [List.length_cons, List.length_nil, Nat.zero_add, Nat.reduceAdd])) only [go_sem, ↓reduceIte, Nat.reduceAdd, Int.reduceNeg, Int.reduceAdd, Int.reduceSub, Int.reduceMul, Int.reduceLT, Int.reduceLE, Int.reduceEq, Int.reduceToNat, Nat.reduceBEq, e_sle, e_sge, e_shl1, e_orI, e_andI, e_shr, wrapu, wrap8, tn1, nat1, ix_s, ix_z, st_s, st_z, fl_s, fl_z, fl1_s, fl1_z, map_s, map_z, e_cL2, e_cL1, e1, Int.toNat_natCast, e_appm])
      all_goals first | omega | rfl
    · rw [hb] at h7
      refine meets_upf Try.func13 u_spec_ReplaceSubtree_g rfl ?_; simp only [u_spec_ReplaceSubtree_u]
      simp only [encNods] at h0 h1 h2 h3 h4 h5 h6 h7 ⊢
      repeat' (first | (with_reducible refine jn_in ?_) | (with_reducible refine cl_ok (by assumption) rfl ?_) | (with_reducible refine br_if (fun hbr => ?_) (fun hbr => ?_)) | (with_reducible refine br_ifn (fun hbr => ?_) (fun hbr => ?_)) | (with_reducible refine br_nb (fun hbr => ?_) (fun hbr => ?_)) | (with_reducible refine br_b (fun hbr => ?_) (fun hbr => ?_)) | simp (disch := first | omega | (simp only [List.length_take, List.length_drop, List.length_append, List.map_cons, List.map_nil, List.length_map, List.length_cons, List.length_nil, List.length_set, List.length_replicate]; omega) | (simp only [List.length_cons, List.length_nil, Nat.zero_add, Nat.reduceAdd])) only [go_sem, ↓reduceIte, Nat.reduceAdd, Int.reduceNeg, Int.reduceAdd, Int.reduceSub, Int.reduceMul, Int.reduceLT, Int.reduceLE, Int.reduceEq, Int.reduceToNat, Nat.reduceBEq, e_sle, e_sge, e_shl1, e_orI, e_andI, e_shr, wrapu, wrap8, tn1, nat1, ix_s, ix_z, st_s, st_z, fl_s, fl_z, fl1_s, fl1_z, map_s, map_z, e_cL2, e_cL1, e1, Int.toNat_natCast, e_appm])
      all_goals first | omega | rfl
  · rw [repT_no hc]
    cases c1 : treeB t
    · rw [c1] at h1
      refine meets_upf Try.func13 u_spec_ReplaceSubtree_g rfl ?_; simp only [u_spec_ReplaceSubtree_u]
      simp only [encNods] at h1 h2 ⊢
      repeat' (first | (with_reducible refine jn_in ?_) | (with_reducible refine cl_ok (by assumption) rfl ?_) | (with_reducible refine br_if (fun hbr => ?_) (fun hbr => ?_)) | (with_reducible refine br_ifn (fun hbr => ?_) (fun hbr => ?_)) | (with_reducible refine br_nb (fun hbr => ?_) (fun hbr => ?_)) | (with_reducible refine br_b (fun hbr => ?_) (fun hbr => ?_)) | simp (disch := first | omega | (simp only [List.length_take, List.length_drop, List.length_append, List.map_cons, List.map_nil, List.length_map, List.length_cons, List.length_nil, List.length_set, List.length_replicate]; omega) | (simp only [List.length_cons, List.length_nil, Nat.zero_add, Nat.reduceAdd])) only [go_sem, ↓reduceIte, Nat.reduceAdd, Int.reduceNeg, Int.reduceAdd, Int.reduceSub, Int.reduceMul, Int.reduceLT, Int.reduceLE, Int.reduceEq, Int.reduceToNat, Nat.reduceBEq, e_sle, e_sge, e_shl1, e_orI, e_andI, e_shr, wrapu, wrap8, tn1, nat1, ix_s, ix_z, st_s, st_z, fl_s, fl_z, fl1_s, fl1_z, map_s, map_z, true_and])
      all_goals first | omega | rfl
    · have hT := tree_len c1
      cases c2 : treeB u
      · rw [c1] at h1
        rw [c2] at h2
        refine meets_upf Try.func13 u_spec_ReplaceSubtree_g rfl ?_; simp only [u_spec_ReplaceSubtree_u]
        simp only [encNods] at h1 h2 ⊢
        repeat' (first | (with_reducible refine jn_in ?_) | (with_reducible refine cl_ok (by assumption) rfl ?_) | (with_reducible refine br_if (fun hbr => ?_) (fun hbr => ?_)) | (with_reducible refine br_ifn (fun hbr => ?_) (fun hbr => ?_)) | (with_reducible refine br_nb (fun hbr => ?_) (fun hbr => ?_)) | (with_reducible refine br_b (fun hbr => ?_) (fun hbr => ?_)) | simp (disch := first | omega | (simp only [List.length_take, List.length_drop, List.length_append, List.map_cons, List.map_nil, List.length_map, List.length_cons, List.length_nil, List.length_set, List.length_replicate]; omega) | (simp only [List.length_cons, List.length_nil, Nat.zero_add, Nat.reduceAdd])) only [go_sem, ↓reduceIte, Nat.reduceAdd, Int.reduceNeg, Int.reduceAdd, Int.reduceSub, Int.reduceMul, Int.reduceLT, Int.reduceLE, Int.reduceEq, Int.reduceToNat, Nat.reduceBEq, e_sle, e_sge, e_shl1, e_orI, e_andI, e_shr, wrapu, wrap8, tn1, nat1, ix_s, ix_z, st_s, st_z, fl_s, fl_z, fl1_s, fl1_z, map_s, map_z, true_and])
        all_goals first | omega | rfl
      · rw [decide_eq_false (p := 0 ≤ i ∧ i ≤ (t.length : Int) - 1) (fun h => hc ⟨c1, c2, by omega, by omega⟩)] at h0
        rw [c1] at h1
        rw [c2] at h2
        refine meets_upf Try.func13 u_spec_ReplaceSubtree_g rfl ?_; simp only [u_spec_ReplaceSubtree_u]
        simp only [encNods] at h0 h1 h2 ⊢
        repeat' (first | (with_reducible refine jn_in ?_) | (with_reducible refine cl_ok (by assumption) rfl ?_) | (with_reducible refine br_if (fun hbr => ?_) (fun hbr => ?_)) | (with_reducible refine br_ifn (fun hbr => ?_) (fun hbr => ?_)) | (with_reducible refine br_nb (fun hbr => ?_) (fun hbr => ?_)) | (with_reducible refine br_b (fun hbr => ?_) (fun hbr => ?_)) | simp (disch := first | omega | (simp only [List.length_take, List.length_drop, List.length_append, List.map_cons, List.map_nil, List.length_map, List.length_cons, List.length_nil, List.length_set, List.length_replicate]; omega) | (simp only [List.length_cons, List.length_nil, Nat.zero_add, Nat.reduceAdd])) only [go_sem, ↓reduceIte, Nat.reduceAdd, Int.reduceNeg, Int.reduceAdd, Int.reduceSub, Int.reduceMul, Int.reduceLT, Int.reduceLE, Int.reduceEq, Int.reduceToNat, Nat.reduceBEq, e_sle, e_sge, e_shl1, e_orI, e_andI, e_shr, wrapu, wrap8, tn1, nat1, ix_s, ix_z, st_s, st_z, fl_s, fl_z, fl1_s, fl1_z, map_s, map_z, true_and])
        all_goals first | omega | rfl
theorem sumOf_sub {α : Type} (f : α → Nat) (l : List α) (n m : Nat) : sumOf f ((l.drop n).take m) ≤ sumOf f l := by
  refine Nat.le_trans (sumOf_le f _ _) ?_
  have := sumOf_app f (l.take n) (l.drop n)
  rw [List.take_append_drop] at this
  omega
theorem wtNods_take (t : List Nod) (n : Nat) : wtNods (t.take n) ≤ wtNods t := by
  have := sumOf_le wtNod t n
  unfold wtNods; rw [List.length_take]; omega
theorem wtNods_drop (t : List Nod) (n : Nat) : wtNods (t.drop n) ≤ wtNods t := by
  have := sumOf_app wtNod (t.take n) (t.drop n)
  rw [List.take_append_drop] at this
  unfold wtNods; rw [List.length_drop]; omega
theorem wtNods_app (t u : List Nod) : wtNods (t ++ u) = wtNods t + wtNods u := by
  unfold wtNods; rw [List.length_append, sumOf_app]; omega
theorem repT_wt {t u : List Nod} {i : Int} (h1 : wtNods t ≤ 1048576) (h2 : wtNods u ≤ 1048576) : wtNods (repT t i u).1 ≤ 4000000 := by
  unfold repT
  split
  · split
    · unfold putT
      rw [wtNods_app, wtNods_app]
      have := wtNods_take t (startT t i.toNat)
      have := wtNods_drop t (i.toNat + 1)
      omega
    · simp [wtNods, sumOf]
  · simp [wtNods, sumOf]
end Go.Proofs.Ytenopiadacpbiaa
