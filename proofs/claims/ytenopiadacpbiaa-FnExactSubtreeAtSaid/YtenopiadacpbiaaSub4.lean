/- SubtreeAt of both packages. -/
import Derived.Test.YtenopiadacpbiaaUSub4
import Derived.Test.YtenopiadacpbiaaSub3
namespace Go.Proofs.Ytenopiadacpbiaa
open Go.RowKit
set_option linter.unusedVariables false
set_option linter.unusedSimpArgs false
set_option maxRecDepth 100000

theorem implSub_m (t : List Nod) (h : treeB t = true) (i : Nat) (hi : i < t.length) : Meets Try.prog 25 [(false, [encNods t]), (false, [.sc (.int .i64 i)])] [(false, [encNods (subT t i)], false)] := by
  have h1 := implStart_m t h i hi
  have hs := startT_le t i
  have hl := tree_len h
  have e1 : ((i : Int) + 1).toNat = i + 1 := by omega
  refine meets_uprf Try.func25 u_impl_subtree_g rfl ?_; simp only [u_impl_subtree_u]
  unfold subT
  simp only [encNods] at h1 ⊢
  repeat' (first | (with_reducible refine jn_in ?_) | (with_reducible refine cl_ok (by assumption) rfl ?_) | (with_reducible refine br_if (fun hbr => ?_) (fun hbr => ?_)) | (with_reducible refine br_ifn (fun hbr => ?_) (fun hbr => ?_)) | (with_reducible refine br_nb (fun hbr => ?_) (fun hbr => ?_)) | (with_reducible refine br_b (fun hbr => ?_) (fun hbr => ?_)) | simp (disch := first | omega | (simp only [List.length_take, List.length_drop, List.length_append, List.map_cons, List.map_nil, List.length_map, List.length_cons, List.length_nil, List.length_set, List.length_replicate]; omega) | (simp only [List.length_cons, List.length_nil, Nat.zero_add, Nat.reduceAdd])) only [go_sem, ↓reduceIte, Nat.reduceAdd, Int.reduceNeg, Int.reduceAdd, Int.reduceSub, Int.reduceMul, Int.reduceLT, Int.reduceLE, Int.reduceEq, Int.reduceToNat, Nat.reduceBEq, e_sle, e_sge, e_shl1, e_orI, e_andI, e_shr, wrapu, wrap8, tn1, nat1, ix_s, ix_z, st_s, st_z, fl_s, fl_z, fl1_s, fl1_z, map_s, map_z, e_cL, e1, Int.toNat_natCast])
  rfl
def cutT (t : List Nod) (i : Int) : List Nod × Bool := if treeB t = true ∧ 0 ≤ i ∧ i < t.length ∧ (t.getD i.toNat default).kind ≠ 1 then (subT t i.toNat, true) else ([], false)
theorem cutT_no {t : List Nod} {i : Int} (h : ¬ (treeB t = true ∧ 0 ≤ i ∧ i < t.length ∧ (t.getD i.toNat default).kind ≠ 1)) : cutT t i = ([], false) := by unfold cutT; rw [if_neg h]
theorem cutT_wt {t : List Nod} {i : Int} (h1 : wtNods t ≤ 1048576) : wtNods (cutT t i).1 ≤ 4000000 := by
  unfold cutT
  split
  · unfold subT
    have := wtNods_take (t.drop (startT t i.toNat)) (i.toNat + 1 - startT t i.toNat)
    have := wtNods_drop t (startT t i.toNat)
    simp only; omega
  · simp [wtNods, sumOf]
theorem subT_bd {t : List Nod} (h : BdN t) (i : Nat) : BdN (subT t i) := (h.drop _).take _
set_option maxHeartbeats 2000000 in
theorem implAt_m (t : List Nod) (i : Int) (ht : BdN t) : Meets Try.prog 9 [(false, [encNods t]), (false, [.sc (.int .i64 i)])] [(false, [encNods (cutT t i).1], true), (false, [.sc (.bool (cutT t i).2)], true)] := by
  have h1 := implTree_m t ht.1 ht.2
  by_cases hc : treeB t = true ∧ 0 ≤ i ∧ i < t.length
  · obtain ⟨c1, c3, c4⟩ := hc
    have hT := tree_len c1
    obtain ⟨i, rfl⟩ := Int.eq_ofNat_of_zero_le c3
    have hi : i < t.length := by omega
    have h3 := implSub_m t c1 i hi
    have h4 := implCopy_m (subT t i) (subT_bd ht i).1 fun x hx => ((subT_bd ht i).2 x hx).2.1
    rw [c1] at h1
    have hix : eIdx 5 (some (.sl 41 5 (t.map encNod))) (some (.sc (.int .i64 (i : Int)))) = some (encNod (t.getD i default)) := by rw [ix_Nod (by omega) (by omega), Int.toNat_natCast]
    by_cases c5 : (t.getD i default).kind = 1
    · rw [cutT_no (by rw [Int.toNat_natCast]; exact fun h => h.2.2.2 c5)]
      refine meets_upf Try.func9 u_impl_SubtreeAt_g rfl ?_; simp only [u_impl_SubtreeAt_u]
      simp only [encNods, encNod, encSs] at h1 h3 h4 hix ⊢
      repeat' (first | (with_reducible refine jn_in ?_) | (with_reducible refine cl_ok (by assumption) rfl ?_) | (with_reducible refine br_if (fun hbr => ?_) (fun hbr => ?_)) | (with_reducible refine br_ifn (fun hbr => ?_) (fun hbr => ?_)) | (with_reducible refine br_nb (fun hbr => ?_) (fun hbr => ?_)) | (with_reducible refine br_b (fun hbr => ?_) (fun hbr => ?_)) | simp (disch := first | omega | (simp only [List.length_take, List.length_drop, List.length_append, List.map_cons, List.map_nil, List.length_map, List.length_cons, List.length_nil, List.length_set, List.length_replicate]; omega) | (simp only [List.length_cons, List.length_nil, Nat.zero_add, Nat.reduceAdd])) only [go_sem, ↓reduceIte, Nat.reduceAdd, Int.reduceNeg, Int.reduceAdd, Int.reduceSub, Int.reduceMul, Int.reduceLT, Int.reduceLE, Int.reduceEq, Int.reduceToNat, Nat.reduceBEq, e_sle, e_sge, e_shl1, e_orI, e_andI, e_shr, wrapu, wrap8, tn1, nat1, ix_s, ix_z, st_s, st_z, fl_s, fl_z, fl1_s, fl1_z, map_s, map_z, hix, c5])
      all_goals first | omega | rfl
    · have hr : cutT t i = (subT t i, true) := by unfold cutT; rw [if_pos ⟨c1, c3, c4, by rw [Int.toNat_natCast]; exact c5⟩, Int.toNat_natCast]
      rw [hr]
      refine meets_upf Try.func9 u_impl_SubtreeAt_g rfl ?_; simp only [u_impl_SubtreeAt_u]
      simp only [encNods, encNod, encSs] at h1 h3 h4 hix ⊢
      repeat' (first | (with_reducible refine jn_in ?_) | (with_reducible refine cl_ok (by assumption) rfl ?_) | (with_reducible refine br_if (fun hbr => ?_) (fun hbr => ?_)) | (with_reducible refine br_ifn (fun hbr => ?_) (fun hbr => ?_)) | (with_reducible refine br_nb (fun hbr => ?_) (fun hbr => ?_)) | (with_reducible refine br_b (fun hbr => ?_) (fun hbr => ?_)) | simp (disch := first | omega | (simp only [List.length_take, List.length_drop, List.length_append, List.map_cons, List.map_nil, List.length_map, List.length_cons, List.length_nil, List.length_set, List.length_replicate]; omega) | (simp only [List.length_cons, List.length_nil, Nat.zero_add, Nat.reduceAdd])) only [go_sem, ↓reduceIte, Nat.reduceAdd, Int.reduceNeg, Int.reduceAdd, Int.reduceSub, Int.reduceMul, Int.reduceLT, Int.reduceLE, Int.reduceEq, Int.reduceToNat, Nat.reduceBEq, e_sle, e_sge, e_shl1, e_orI, e_andI, e_shr, wrapu, wrap8, tn1, nat1, ix_s, ix_z, st_s, st_z, fl_s, fl_z, fl1_s, fl1_z, map_s, map_z, hix, c5])
      all_goals first | omega | rfl
  · rw [cutT_no (fun h => hc ⟨h.1, h.2.1, h.2.2.1⟩)]
    cases c1 : treeB t
    · rw [c1] at h1
      refine meets_upf Try.func9 u_impl_SubtreeAt_g rfl ?_; simp only [u_impl_SubtreeAt_u]
      simp only [encNods] at h1 ⊢
      repeat' (first | (with_reducible refine jn_in ?_) | (with_reducible refine cl_ok (by assumption) rfl ?_) | (with_reducible refine br_if (fun hbr => ?_) (fun hbr => ?_)) | (with_reducible refine br_ifn (fun hbr => ?_) (fun hbr => ?_)) | (with_reducible refine br_nb (fun hbr => ?_) (fun hbr => ?_)) | (with_reducible refine br_b (fun hbr => ?_) (fun hbr => ?_)) | simp (disch := first | omega | (simp only [List.length_take, List.length_drop, List.length_append, List.map_cons, List.map_nil, List.length_map, List.length_cons, List.length_nil, List.length_set, List.length_replicate]; omega) | (simp only [List.length_cons, List.length_nil, Nat.zero_add, Nat.reduceAdd])) only [go_sem, ↓reduceIte, Nat.reduceAdd, Int.reduceNeg, Int.reduceAdd, Int.reduceSub, Int.reduceMul, Int.reduceLT, Int.reduceLE, Int.reduceEq, Int.reduceToNat, Nat.reduceBEq, e_sle, e_sge, e_shl1, e_orI, e_andI, e_shr, wrapu, wrap8, tn1, nat1, ix_s, ix_z, st_s, st_z, fl_s, fl_z, fl1_s, fl1_z, map_s, map_z, true_and])
      all_goals first | omega | rfl
    · have hi : i < 0 ∨ (t.length : Int) ≤ i := by
        rcases Int.lt_or_le i 0 with h | h
        · exact .inl h
        · exact .inr (by rcases Int.lt_or_le i t.length with h' | h'; exact absurd ⟨c1, h, h'⟩ hc; exact h')
      rw [c1] at h1
      refine meets_upf Try.func9 u_impl_SubtreeAt_g rfl ?_; simp only [u_impl_SubtreeAt_u]
      simp only [encNods] at h1 ⊢
      simp (disch := first | omega | (simp only [List.length_take, List.length_drop, List.length_append, List.map_cons, List.map_nil, List.length_map, List.length_cons, List.length_nil, List.length_set, List.length_replicate]; omega) | (simp only [List.length_cons, List.length_nil, Nat.zero_add, Nat.reduceAdd])) only [go_sem, ↓reduceIte, Nat.reduceAdd, Int.reduceNeg, Int.reduceAdd, Int.reduceSub, Int.reduceMul, Int.reduceLT, Int.reduceLE, Int.reduceEq, Int.reduceToNat, Nat.reduceBEq, e_sle, e_sge, e_shl1, e_orI, e_andI, e_shr, wrapu, wrap8, tn1, nat1, ix_s, ix_z, st_s, st_z, fl_s, fl_z, fl1_s, fl1_z, map_s, map_z, true_and]
      refine cl_ok h1 rfl ?_
      simp (disch := first | omega | (simp only [List.length_take, List.length_drop, List.length_append, List.map_cons, List.map_nil, List.length_map, List.length_cons, List.length_nil, List.length_set, List.length_replicate]; omega) | (simp only [List.length_cons, List.length_nil, Nat.zero_add, Nat.reduceAdd])) only [go_sem, ↓reduceIte, Nat.reduceAdd, Int.reduceNeg, Int.reduceAdd, Int.reduceSub, Int.reduceMul, Int.reduceLT, Int.reduceLE, Int.reduceEq, Int.reduceToNat, Nat.reduceBEq, e_sle, e_sge, e_shl1, e_orI, e_andI, e_shr, wrapu, wrap8, tn1, nat1, ix_s, ix_z, st_s, st_z, fl_s, fl_z, fl1_s, fl1_z, map_s, map_z, true_and]
      refine br_if (fun hbr => ?_) (fun hbr => ?_)
      · repeat' (first | (with_reducible refine jn_in ?_) | (with_reducible refine cl_ok (by assumption) rfl ?_) | (with_reducible refine br_if (fun hbr => ?_) (fun hbr => ?_)) | (with_reducible refine br_ifn (fun hbr => ?_) (fun hbr => ?_)) | (with_reducible refine br_nb (fun hbr => ?_) (fun hbr => ?_)) | (with_reducible refine br_b (fun hbr => ?_) (fun hbr => ?_)) | simp (disch := first | omega | (simp only [List.length_take, List.length_drop, List.length_append, List.map_cons, List.map_nil, List.length_map, List.length_cons, List.length_nil, List.length_set, List.length_replicate]; omega) | (simp only [List.length_cons, List.length_nil, Nat.zero_add, Nat.reduceAdd])) only [go_sem, ↓reduceIte, Nat.reduceAdd, Int.reduceNeg, Int.reduceAdd, Int.reduceSub, Int.reduceMul, Int.reduceLT, Int.reduceLE, Int.reduceEq, Int.reduceToNat, Nat.reduceBEq, e_sle, e_sge, e_shl1, e_orI, e_andI, e_shr, wrapu, wrap8, tn1, nat1, ix_s, ix_z, st_s, st_z, fl_s, fl_z, fl1_s, fl1_z, map_s, map_z, true_and])
        rfl
      · simp (disch := first | omega | (simp only [List.length_take, List.length_drop, List.length_append, List.map_cons, List.map_nil, List.length_map, List.length_cons, List.length_nil, List.length_set, List.length_replicate]; omega) | (simp only [List.length_cons, List.length_nil, Nat.zero_add, Nat.reduceAdd])) only [go_sem, ↓reduceIte, Nat.reduceAdd, Int.reduceNeg, Int.reduceAdd, Int.reduceSub, Int.reduceMul, Int.reduceLT, Int.reduceLE, Int.reduceEq, Int.reduceToNat, Nat.reduceBEq, e_sle, e_sge, e_shl1, e_orI, e_andI, e_shr, wrapu, wrap8, tn1, nat1, ix_s, ix_z, st_s, st_z, fl_s, fl_z, fl1_s, fl1_z, map_s, map_z, true_and]
        refine br_if (fun hbr => ?_) (fun hbr => ?_)
        · repeat' (first | (with_reducible refine jn_in ?_) | (with_reducible refine cl_ok (by assumption) rfl ?_) | (with_reducible refine br_if (fun hbr => ?_) (fun hbr => ?_)) | (with_reducible refine br_ifn (fun hbr => ?_) (fun hbr => ?_)) | (with_reducible refine br_nb (fun hbr => ?_) (fun hbr => ?_)) | (with_reducible refine br_b (fun hbr => ?_) (fun hbr => ?_)) | simp (disch := first | omega | (simp only [List.length_take, List.length_drop, List.length_append, List.map_cons, List.map_nil, List.length_map, List.length_cons, List.length_nil, List.length_set, List.length_replicate]; omega) | (simp only [List.length_cons, List.length_nil, Nat.zero_add, Nat.reduceAdd])) only [go_sem, ↓reduceIte, Nat.reduceAdd, Int.reduceNeg, Int.reduceAdd, Int.reduceSub, Int.reduceMul, Int.reduceLT, Int.reduceLE, Int.reduceEq, Int.reduceToNat, Nat.reduceBEq, e_sle, e_sge, e_shl1, e_orI, e_andI, e_shr, wrapu, wrap8, tn1, nat1, ix_s, ix_z, st_s, st_z, fl_s, fl_z, fl1_s, fl1_z, map_s, map_z, true_and])
          rfl
        · exfalso; omega
set_option maxHeartbeats 2000000 in
theorem specAt_m (t : List Nod) (i : Int) (ht : BdN t) : Meets Try.prog 7 [(false, [encNods t]), (false, [.sc (.int .i64 i)])] [(false, [encNods (cutT t i).1], true), (false, [.sc (.bool (cutT t i).2)], true)] := by
  have h1 := specTree_m t ht.1 ht.2
  have h0 := l1In_m i 0 ((t.length : Int) - 1)
  by_cases hc : treeB t = true ∧ 0 ≤ i ∧ i < t.length
  · obtain ⟨c1, c3, c4⟩ := hc
    have hT := tree_len c1
    rw [decide_eq_true (p := 0 ≤ i ∧ i ≤ (t.length : Int) - 1) (by omega)] at h0
    obtain ⟨i, rfl⟩ := Int.eq_ofNat_of_zero_le c3
    have hi : i < t.length := by omega
    have h3 := specStart_m t c1 i hi
    have hs := startT_le t i
    have h4 := specCopy_m (subT t i) (subT_bd ht i).1 fun x hx => ((subT_bd ht i).2 x hx).2.1
    rw [c1] at h1
    have e1 : ((i : Int) + 1).toNat = i + 1 := by omega
    have hix : eIdx 5 (some (.sl 41 5 (t.map encNod))) (some (.sc (.int .i64 (i : Int)))) = some (encNod (t.getD i default)) := by rw [ix_Nod (by omega) (by omega), Int.toNat_natCast]
    by_cases c5 : (t.getD i default).kind = 1
    · rw [cutT_no (by rw [Int.toNat_natCast]; exact fun h => h.2.2.2 c5)]
      refine meets_upf Try.func7 u_spec_SubtreeAt_g rfl ?_; simp only [u_spec_SubtreeAt_u]
      simp only [encNods, encNod, encSs] at h0 h1 h3 h4 hix ⊢
      repeat' (first | (with_reducible refine jn_in ?_) | (with_reducible refine cl_ok (by assumption) rfl ?_) | (with_reducible refine br_if (fun hbr => ?_) (fun hbr => ?_)) | (with_reducible refine br_ifn (fun hbr => ?_) (fun hbr => ?_)) | (with_reducible refine br_nb (fun hbr => ?_) (fun hbr => ?_)) | (with_reducible refine br_b (fun hbr => ?_) (fun hbr => ?_)) | simp (disch := first | omega | (simp only [List.length_take, List.length_drop, List.length_append, List.map_cons, List.map_nil, List.length_map, List.length_cons, List.length_nil, List.length_set, List.length_replicate]; omega) | (simp only [List.length_cons, List.length_nil, Nat.zero_add, Nat.reduceAdd])) only [go_sem, ↓reduceIte, Nat.reduceAdd, Int.reduceNeg, Int.reduceAdd, Int.reduceSub, Int.reduceMul, Int.reduceLT, Int.reduceLE, Int.reduceEq, Int.reduceToNat, Nat.reduceBEq, e_sle, e_sge, e_shl1, e_orI, e_andI, e_shr, wrapu, wrap8, tn1, nat1, ix_s, ix_z, st_s, st_z, fl_s, fl_z, fl1_s, fl1_z, map_s, map_z, hix, c5])
      all_goals first | omega | rfl
    · have hr : cutT t i = (subT t i, true) := by unfold cutT; rw [if_pos ⟨c1, c3, c4, by rw [Int.toNat_natCast]; exact c5⟩, Int.toNat_natCast]
      rw [hr]
      unfold subT at h4 ⊢
      refine meets_upf Try.func7 u_spec_SubtreeAt_g rfl ?_; simp only [u_spec_SubtreeAt_u]
      simp only [encNods, encNod, encSs] at h0 h1 h3 h4 hix ⊢
      repeat' (first | (with_reducible refine jn_in ?_) | (with_reducible refine cl_ok (by assumption) rfl ?_) | (with_reducible refine br_if (fun hbr => ?_) (fun hbr => ?_)) | (with_reducible refine br_ifn (fun hbr => ?_) (fun hbr => ?_)) | (with_reducible refine br_nb (fun hbr => ?_) (fun hbr => ?_)) | (with_reducible refine br_b (fun hbr => ?_) (fun hbr => ?_)) | simp (disch := first | omega | (simp only [List.length_take, List.length_drop, List.length_append, List.map_cons, List.map_nil, List.length_map, List.length_cons, List.length_nil, List.length_set, List.length_replicate]; omega) | (simp only [List.length_cons, List.length_nil, Nat.zero_add, Nat.reduceAdd])) only [go_sem, ↓reduceIte, Nat.reduceAdd, Int.reduceNeg, Int.reduceAdd, Int.reduceSub, Int.reduceMul, Int.reduceLT, Int.reduceLE, Int.reduceEq, Int.reduceToNat, Nat.reduceBEq, e_sle, e_sge, e_shl1, e_orI, e_andI, e_shr, wrapu, wrap8, tn1, nat1, ix_s, ix_z, st_s, st_z, fl_s, fl_z, fl1_s, fl1_z, map_s, map_z, hix, c5, e_cL, e1, Int.toNat_natCast])
      all_goals first | omega | rfl
  · rw [cutT_no (fun h => hc ⟨h.1, h.2.1, h.2.2.1⟩)]
    cases c1 : treeB t
    · rw [c1] at h1
      refine meets_upf Try.func7 u_spec_SubtreeAt_g rfl ?_; simp only [u_spec_SubtreeAt_u]
      simp only [encNods] at h1 ⊢
      repeat' (first | (with_reducible refine jn_in ?_) | (with_reducible refine cl_ok (by assumption) rfl ?_) | (with_reducible refine br_if (fun hbr => ?_) (fun hbr => ?_)) | (with_reducible refine br_ifn (fun hbr => ?_) (fun hbr => ?_)) | (with_reducible refine br_nb (fun hbr => ?_) (fun hbr => ?_)) | (with_reducible refine br_b (fun hbr => ?_) (fun hbr => ?_)) | simp (disch := first | omega | (simp only [List.length_take, List.length_drop, List.length_append, List.map_cons, List.map_nil, List.length_map, List.length_cons, List.length_nil, List.length_set, List.length_replicate]; omega) | (simp only [List.length_cons, List.length_nil, Nat.zero_add, Nat.reduceAdd])) only [go_sem, ↓reduceIte, Nat.reduceAdd, Int.reduceNeg, Int.reduceAdd, Int.reduceSub, Int.reduceMul, Int.reduceLT, Int.reduceLE, Int.reduceEq, Int.reduceToNat, Nat.reduceBEq, e_sle, e_sge, e_shl1, e_orI, e_andI, e_shr, wrapu, wrap8, tn1, nat1, ix_s, ix_z, st_s, st_z, fl_s, fl_z, fl1_s, fl1_z, map_s, map_z, true_and])
      all_goals first | omega | rfl
    · have hT := tree_len c1
      rw [decide_eq_false (p := 0 ≤ i ∧ i ≤ (t.length : Int) - 1) (fun h => hc ⟨c1, by omega, by omega⟩)] at h0
      rw [c1] at h1
      refine meets_upf Try.func7 u_spec_SubtreeAt_g rfl ?_; simp only [u_spec_SubtreeAt_u]
      simp only [encNods] at h0 h1 ⊢
      repeat' (first | (with_reducible refine jn_in ?_) | (with_reducible refine cl_ok (by assumption) rfl ?_) | (with_reducible refine br_if (fun hbr => ?_) (fun hbr => ?_)) | (with_reducible refine br_ifn (fun hbr => ?_) (fun hbr => ?_)) | (with_reducible refine br_nb (fun hbr => ?_) (fun hbr => ?_)) | (with_reducible refine br_b (fun hbr => ?_) (fun hbr => ?_)) | simp (disch := first | omega | (simp only [List.length_take, List.length_drop, List.length_append, List.map_cons, List.map_nil, List.length_map, List.length_cons, List.length_nil, List.length_set, List.length_replicate]; omega) | (simp only [List.length_cons, List.length_nil, Nat.zero_add, Nat.reduceAdd])) only [go_sem, ↓reduceIte, Nat.reduceAdd, Int.reduceNeg, Int.reduceAdd, Int.reduceSub, Int.reduceMul, Int.reduceLT, Int.reduceLE, Int.reduceEq, Int.reduceToNat, Nat.reduceBEq, e_sle, e_sge, e_shl1, e_orI, e_andI, e_shr, wrapu, wrap8, tn1, nat1, ix_s, ix_z, st_s, st_z, fl_s, fl_z, fl1_s, fl1_z, map_s, map_z, true_and])
      all_goals first | omega | rfl
end Go.Proofs.Ytenopiadacpbiaa
