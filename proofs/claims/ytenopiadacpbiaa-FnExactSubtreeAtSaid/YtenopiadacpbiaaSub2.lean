/- Starts of subtrees, copies of nodes: both packages. -/
import Derived.Test.YtenopiadacpbiaaUSub2
import Derived.Test.YtenopiadacpbiaaTree6
import Derived.Test.YtenopiadacpbiaaSub1
namespace Go.Proofs.Ytenopiadacpbiaa
open Go.RowKit
set_option linter.unusedVariables false
set_option linter.unusedSimpArgs false
set_option maxRecDepth 100000

theorem implStart_m (t : List Nod) (h : treeB t = true) (i : Nat) (hi : i < t.length) : Meets Try.prog 30 [(false, [encNods t]), (false, [.sc (.int .i64 i)])] [(false, [.sc (.int .i64 (startT t i : Nat))], true)] := by
  refine meets_upf Try.func30 u_impl_startOf_g rfl ?_; simp only [u_impl_startOf_u]
  simp only [encNods]
  simp (disch := first | omega | (simp only [List.length_take, List.length_drop, List.length_append, List.map_cons, List.map_nil, List.length_map, List.length_cons, List.length_nil, List.length_set, List.length_replicate]; omega) | (simp only [List.length_cons, List.length_nil, Nat.zero_add, Nat.reduceAdd])) only [go_sem, ↓reduceIte, Nat.reduceAdd, Int.reduceNeg, Int.reduceAdd, Int.reduceSub, Int.reduceMul, Int.reduceLT, Int.reduceLE, Int.reduceEq, Int.reduceToNat, Nat.reduceBEq, e_sle, e_sge, e_shl1, e_orI, e_andI, e_shr, wrapu, wrap8, tn1, nat1, ix_s, ix_z, st_s, st_z, fl_s, fl_z, fl1_s, fl1_z, map_s, map_z, true_and]
  refine lp (fun j : Nat => [.sc (.int .i64 (j : Int)), .sc (.int .i64 ((lenT t (j + 1) : Int) + 1 - lenT t (i + 1)))]) (fun j => j ≤ i ∧ lenT t (i + 1) ≤ lenT t (j + 1) ∧ stF (lenT t) (lenT t (i + 1)) j = startT t i) (fun j => j) i (by simp [gL]; omega) ⟨Nat.le_refl _, Nat.le_refl _, rfl⟩ ?_
  rintro j ⟨g1, g2, g3⟩
  simp only [u_impl_startOf_l0]
  obtain ⟨k, k1, k2, k3, -⟩ := lenT_step h (j := j) (by omega)
  have h1 := lenT_pos h hi
  have hl := tree_len h
  have b1 := lenT_le t (i + 1)
  have b2 := lenT_le t (j + 1)
  have b3 := lenT_le t j
  repeat' (first | (with_reducible refine jn_in ?_) | (with_reducible refine cl_ok (by assumption) rfl ?_) | (with_reducible refine br_if (fun hbr => ?_) (fun hbr => ?_)) | (with_reducible refine br_ifn (fun hbr => ?_) (fun hbr => ?_)) | (with_reducible refine br_nb (fun hbr => ?_) (fun hbr => ?_)) | (with_reducible refine br_b (fun hbr => ?_) (fun hbr => ?_)) | simp (disch := first | omega | (simp only [List.length_take, List.length_drop, List.length_append, List.map_cons, List.map_nil, List.length_map, List.length_cons, List.length_nil, List.length_set, List.length_replicate]; omega) | (simp only [List.length_cons, List.length_nil, Nat.zero_add, Nat.reduceAdd])) only [go_sem, ↓reduceIte, Nat.reduceAdd, Int.reduceNeg, Int.reduceAdd, Int.reduceSub, Int.reduceMul, Int.reduceLT, Int.reduceLE, Int.reduceEq, Int.reduceToNat, Nat.reduceBEq, e_sle, e_sge, e_shl1, e_orI, e_andI, e_shr, wrapu, wrap8, tn1, nat1, ix_s, ix_z, st_s, st_z, fl_s, fl_z, fl1_s, fl1_z, map_s, map_z, ix_Nod, encNod, encSs, k1])
  all_goals first
    | (exfalso; omega)
    | exact ret_z (by rw [← g3, stF_hit (by omega)])
    | skip
  have h2 : lenT t j + 1 ≠ lenT t (i + 1) := by omega
  have h3 : j ≠ 0 := by rintro rfl; rw [lenT_0] at k2 k3 h2; omega
  obtain ⟨j, rfl⟩ := Nat.exists_eq_succ_of_ne_zero h3
  refine ⟨j, ?_, ⟨by omega, by simp only [Nat.succ_eq_add_one] at *; omega, by rw [← g3, stF_miss h2]; rfl⟩, by omega⟩
  simp only [Nat.succ_eq_add_one] at *
  congr 4 <;> omega
theorem specStart_m (t : List Nod) (h : treeB t = true) (i : Nat) (hi : i < t.length) : Meets Try.prog 21 [(false, [encNods t]), (false, [.sc (.int .i64 i)])] [(false, [.sc (.int .i64 (startT t i : Nat))], true)] := by
  refine meets_upf Try.func21 u_spec_l16Start_g rfl ?_; simp only [u_spec_l16Start_u]
  simp only [encNods]
  have hl := tree_len h
  obtain ⟨k0, q1, q2, q3, -⟩ := lenT_step h hi
  simp (disch := first | omega | (simp only [List.length_take, List.length_drop, List.length_append, List.map_cons, List.map_nil, List.length_map, List.length_cons, List.length_nil, List.length_set, List.length_replicate]; omega) | (simp only [List.length_cons, List.length_nil, Nat.zero_add, Nat.reduceAdd])) only [go_sem, ↓reduceIte, Nat.reduceAdd, Int.reduceNeg, Int.reduceAdd, Int.reduceSub, Int.reduceMul, Int.reduceLT, Int.reduceLE, Int.reduceEq, Int.reduceToNat, Nat.reduceBEq, e_sle, e_sge, e_shl1, e_orI, e_andI, e_shr, wrapu, wrap8, tn1, nat1, ix_s, ix_z, st_s, st_z, fl_s, fl_z, fl1_s, fl1_z, map_s, map_z, ix_Nod, encNod, encSs, q1]
  refine lp (fun j : Nat => [.sc (.int .i64 (j : Int)), .sc (.int .i64 ((lenT t j : Int) + 1 - lenT t (i + 1)))]) (fun j => j ≤ i ∧ lenT t (i + 1) ≤ lenT t j + 1 ∧ stF (lenT t) (lenT t (i + 1)) j = startT t i) (fun j => j) i (by simp [gL]; omega) ⟨Nat.le_refl _, by omega, rfl⟩ ?_
  rintro j ⟨g1, g2, g3⟩
  simp only [u_spec_l16Start_l0]
  have h1 := lenT_pos h hi
  have b1 := lenT_le t (i + 1)
  have b3 := lenT_le t j
  by_cases h2 : lenT t j + 1 = lenT t (i + 1)
  · repeat' (first | (with_reducible refine jn_in ?_) | (with_reducible refine cl_ok (by assumption) rfl ?_) | (with_reducible refine br_if (fun hbr => ?_) (fun hbr => ?_)) | (with_reducible refine br_ifn (fun hbr => ?_) (fun hbr => ?_)) | (with_reducible refine br_nb (fun hbr => ?_) (fun hbr => ?_)) | (with_reducible refine br_b (fun hbr => ?_) (fun hbr => ?_)) | simp (disch := first | omega | (simp only [List.length_take, List.length_drop, List.length_append, List.map_cons, List.map_nil, List.length_map, List.length_cons, List.length_nil, List.length_set, List.length_replicate]; omega) | (simp only [List.length_cons, List.length_nil, Nat.zero_add, Nat.reduceAdd])) only [go_sem, ↓reduceIte, Nat.reduceAdd, Int.reduceNeg, Int.reduceAdd, Int.reduceSub, Int.reduceMul, Int.reduceLT, Int.reduceLE, Int.reduceEq, Int.reduceToNat, Nat.reduceBEq, e_sle, e_sge, e_shl1, e_orI, e_andI, e_shr, wrapu, wrap8, tn1, nat1, ix_s, ix_z, st_s, st_z, fl_s, fl_z, fl1_s, fl1_z, map_s, map_z, true_and])
    all_goals first
      | (exfalso; omega)
      | exact ret_z (by rw [← g3, stF_hit h2])
  · have h3 : j ≠ 0 := by rintro rfl; rw [lenT_0] at h2 g2; omega
    obtain ⟨j, rfl⟩ := Nat.exists_eq_succ_of_ne_zero h3
    obtain ⟨k, k1, k2, k3, -⟩ := lenT_step h (j := j) (by omega)
    simp only [Nat.succ_eq_add_one] at *
    have b2 := lenT_le t j
    have e1 : ((j + 1 : Nat) : Int) - 1 = (j : Int) := by omega
    repeat' (first | (with_reducible refine jn_in ?_) | (with_reducible refine cl_ok (by assumption) rfl ?_) | (with_reducible refine br_if (fun hbr => ?_) (fun hbr => ?_)) | (with_reducible refine br_ifn (fun hbr => ?_) (fun hbr => ?_)) | (with_reducible refine br_nb (fun hbr => ?_) (fun hbr => ?_)) | (with_reducible refine br_b (fun hbr => ?_) (fun hbr => ?_)) | simp (disch := first | omega | (simp only [List.length_take, List.length_drop, List.length_append, List.map_cons, List.map_nil, List.length_map, List.length_cons, List.length_nil, List.length_set, List.length_replicate]; omega) | (simp only [List.length_cons, List.length_nil, Nat.zero_add, Nat.reduceAdd])) only [go_sem, ↓reduceIte, Nat.reduceAdd, Int.reduceNeg, Int.reduceAdd, Int.reduceSub, Int.reduceMul, Int.reduceLT, Int.reduceLE, Int.reduceEq, Int.reduceToNat, Nat.reduceBEq, e_sle, e_sge, e_shl1, e_orI, e_andI, e_shr, wrapu, wrap8, tn1, nat1, ix_s, ix_z, st_s, st_z, fl_s, fl_z, fl1_s, fl1_z, map_s, map_z, ix_Nod, encNod, encSs, k1, e1])
    all_goals first
      | (exfalso; omega)
      | exact ⟨j, by congr 4; omega, ⟨by omega, by omega, by rw [← g3, stF_miss h2]; rfl⟩, by omega⟩
theorem copyTexts_m (l : List ByteArray) (hl : l.length ≤ 100000000000) : Meets Try.prog 62 [(false, [encSs l])] [(false, [encSs l], true)] := by
  refine meets_upf Try.func62 u_impl_copyTexts_g rfl ?_; simp only [u_impl_copyTexts_u]
  simp only [encSs]
  repeat' (first | (with_reducible refine jn_in ?_) | (with_reducible refine cl_ok (by assumption) rfl ?_) | (with_reducible refine br_if (fun hbr => ?_) (fun hbr => ?_)) | (with_reducible refine br_ifn (fun hbr => ?_) (fun hbr => ?_)) | (with_reducible refine br_nb (fun hbr => ?_) (fun hbr => ?_)) | (with_reducible refine br_b (fun hbr => ?_) (fun hbr => ?_)) | simp (disch := first | omega | (simp only [List.length_take, List.length_drop, List.length_append, List.map_cons, List.map_nil, List.length_map, List.length_cons, List.length_nil, List.length_set, List.length_replicate]; omega) | (simp only [List.length_cons, List.length_nil, Nat.zero_add, Nat.reduceAdd])) only [go_sem, ↓reduceIte, Nat.reduceAdd, Int.reduceNeg, Int.reduceAdd, Int.reduceSub, Int.reduceMul, Int.reduceLT, Int.reduceLE, Int.reduceEq, Int.reduceToNat, Nat.reduceBEq, e_sle, e_sge, e_shl1, e_orI, e_andI, e_shr, wrapu, wrap8, tn1, nat1, ix_s, ix_z, st_s, st_z, fl_s, fl_z, fl1_s, fl1_z, map_s, map_z, true_and])
  rfl
theorem copyNode_m (x : Nod) (hl : x.labels.length ≤ 100000000000) : Meets Try.prog 37 [(true, encNod x)] [(true, encNod x, true)] := by
  have h := copyTexts_m x.labels hl
  refine meets_upf Try.func37 u_impl_copyNode_g rfl ?_; simp only [u_impl_copyNode_u]
  simp only [encNod, encSs] at h ⊢
  repeat' (first | (with_reducible refine jn_in ?_) | (with_reducible refine cl_ok (by assumption) rfl ?_) | (with_reducible refine br_if (fun hbr => ?_) (fun hbr => ?_)) | (with_reducible refine br_ifn (fun hbr => ?_) (fun hbr => ?_)) | (with_reducible refine br_nb (fun hbr => ?_) (fun hbr => ?_)) | (with_reducible refine br_b (fun hbr => ?_) (fun hbr => ?_)) | simp (disch := first | omega | (simp only [List.length_take, List.length_drop, List.length_append, List.map_cons, List.map_nil, List.length_map, List.length_cons, List.length_nil, List.length_set, List.length_replicate]; omega) | (simp only [List.length_cons, List.length_nil, Nat.zero_add, Nat.reduceAdd])) only [go_sem, ↓reduceIte, Nat.reduceAdd, Int.reduceNeg, Int.reduceAdd, Int.reduceSub, Int.reduceMul, Int.reduceLT, Int.reduceLE, Int.reduceEq, Int.reduceToNat, Nat.reduceBEq, e_sle, e_sge, e_shl1, e_orI, e_andI, e_shr, wrapu, wrap8, tn1, nat1, ix_s, ix_z, st_s, st_z, fl_s, fl_z, fl1_s, fl1_z, map_s, map_z, true_and])
  rfl
theorem implCopy_m (t : List Nod) (ht : t.length ≤ 1048576) (hx : ∀ x ∈ t, x.labels.length ≤ 1048576) : Meets Try.prog 24 [(false, [encNods t])] [(false, [encNods t], true)] := by
  refine meets_upf Try.func24 u_impl_copyNodes_g rfl ?_; simp only [u_impl_copyNodes_u]
  simp only [encNods]
  simp (disch := first | omega | (simp only [List.length_take, List.length_drop, List.length_append, List.map_cons, List.map_nil, List.length_map, List.length_cons, List.length_nil, List.length_set, List.length_replicate]; omega) | (simp only [List.length_cons, List.length_nil, Nat.zero_add, Nat.reduceAdd])) only [go_sem, ↓reduceIte, Nat.reduceAdd, Int.reduceNeg, Int.reduceAdd, Int.reduceSub, Int.reduceMul, Int.reduceLT, Int.reduceLE, Int.reduceEq, Int.reduceToNat, Nat.reduceBEq, e_sle, e_sge, e_shl1, e_orI, e_andI, e_shr, wrapu, wrap8, tn1, nat1, ix_s, ix_z, st_s, st_z, fl_s, fl_z, fl1_s, fl1_z, map_s, map_z, true_and]
  refine lp_n t.length (fun i => [.sc (.int .i64 i), .sl 41 5 ((t.take i).map encNod)]) rfl fun i hi => ?_
  simp only [u_impl_copyNodes_l0]
  by_cases hlt : i < t.length
  · have hc := copyNode_m (t.getD i default) (by have := hx _ (getD_mem hlt); omega)
    have hix : eIdx 5 (some (.sl 41 5 (t.map encNod))) (some (.sc (.int .i64 (i : Int)))) = some (encNod (t.getD i default)) := by rw [ix_Nod (by omega) (by omega), Int.toNat_natCast]
    have htk : (t.take (i + 1)).map encNod = (t.take i).map encNod ++ [encNod (t.getD i default)] := by
      rw [List.take_succ_eq_append_getElem hlt, List.map_append, List.getD_eq_getElem?_getD, List.getElem?_eq_getElem hlt]; rfl
    have hln : (t.take i).length ≤ 1048576 := by rw [List.length_take]; omega
    generalize t.getD i default = x at *
    rw [htk]
    simp only [encNod, encSs] at hc hix
    repeat' (first | (with_reducible refine jn_in ?_) | (with_reducible refine cl_ok (by assumption) rfl ?_) | (with_reducible refine br_if (fun hbr => ?_) (fun hbr => ?_)) | (with_reducible refine br_ifn (fun hbr => ?_) (fun hbr => ?_)) | (with_reducible refine br_nb (fun hbr => ?_) (fun hbr => ?_)) | (with_reducible refine br_b (fun hbr => ?_) (fun hbr => ?_)) | simp (disch := first | omega | (simp only [List.length_take, List.length_drop, List.length_append, List.map_cons, List.map_nil, List.length_map, List.length_cons, List.length_nil, List.length_set, List.length_replicate]; omega) | (simp only [List.length_cons, List.length_nil, Nat.zero_add, Nat.reduceAdd])) only [go_sem, ↓reduceIte, Nat.reduceAdd, Int.reduceNeg, Int.reduceAdd, Int.reduceSub, Int.reduceMul, Int.reduceLT, Int.reduceLE, Int.reduceEq, Int.reduceToNat, Nat.reduceBEq, e_sle, e_sge, e_shl1, e_orI, e_andI, e_shr, wrapu, wrap8, tn1, nat1, ix_s, ix_z, st_s, st_z, fl_s, fl_z, fl1_s, fl1_z, map_s, map_z, hix])
    all_goals first | omega | exact ⟨rfl, hlt⟩
  · obtain rfl : i = t.length := by omega
    repeat' (first | (with_reducible refine jn_in ?_) | (with_reducible refine cl_ok (by assumption) rfl ?_) | (with_reducible refine br_if (fun hbr => ?_) (fun hbr => ?_)) | (with_reducible refine br_ifn (fun hbr => ?_) (fun hbr => ?_)) | (with_reducible refine br_nb (fun hbr => ?_) (fun hbr => ?_)) | (with_reducible refine br_b (fun hbr => ?_) (fun hbr => ?_)) | simp (disch := first | omega | (simp only [List.length_take, List.length_drop, List.length_append, List.map_cons, List.map_nil, List.length_map, List.length_cons, List.length_nil, List.length_set, List.length_replicate]; omega) | (simp only [List.length_cons, List.length_nil, Nat.zero_add, Nat.reduceAdd])) only [go_sem, ↓reduceIte, Nat.reduceAdd, Int.reduceNeg, Int.reduceAdd, Int.reduceSub, Int.reduceMul, Int.reduceLT, Int.reduceLE, Int.reduceEq, Int.reduceToNat, Nat.reduceBEq, e_sle, e_sge, e_shl1, e_orI, e_andI, e_shr, wrapu, wrap8, tn1, nat1, ix_s, ix_z, st_s, st_z, fl_s, fl_z, fl1_s, fl1_z, map_s, map_z, List.take_length])
    all_goals first | omega | rfl
theorem specCopy_m (t : List Nod) (ht : t.length ≤ 1048576) (hx : ∀ x ∈ t, x.labels.length ≤ 1048576) : Meets Try.prog 20 [(false, [encNods t])] [(false, [encNods t], true)] := by
  refine meets_upf Try.func20 u_spec_l16Copy_g rfl ?_; simp only [u_spec_l16Copy_u]
  simp only [encNods]
  simp (disch := first | omega | (simp only [List.length_take, List.length_drop, List.length_append, List.map_cons, List.map_nil, List.length_map, List.length_cons, List.length_nil, List.length_set, List.length_replicate]; omega) | (simp only [List.length_cons, List.length_nil, Nat.zero_add, Nat.reduceAdd])) only [go_sem, ↓reduceIte, Nat.reduceAdd, Int.reduceNeg, Int.reduceAdd, Int.reduceSub, Int.reduceMul, Int.reduceLT, Int.reduceLE, Int.reduceEq, Int.reduceToNat, Nat.reduceBEq, e_sle, e_sge, e_shl1, e_orI, e_andI, e_shr, wrapu, wrap8, tn1, nat1, ix_s, ix_z, st_s, st_z, fl_s, fl_z, fl1_s, fl1_z, map_s, map_z, true_and]
  refine lp_n t.length (fun i => [.sc (.int .i64 i), .sl 41 5 ((t.take i).map encNod)]) rfl fun i hi => ?_
  simp only [u_spec_l16Copy_l0]
  by_cases hlt : i < t.length
  · have hc : (t.getD i default).labels.length ≤ 1048576 := hx _ (getD_mem hlt)
    have hix : eIdx 5 (some (.sl 41 5 (t.map encNod))) (some (.sc (.int .i64 (i : Int)))) = some (encNod (t.getD i default)) := by rw [ix_Nod (by omega) (by omega), Int.toNat_natCast]
    have htk : (t.take (i + 1)).map encNod = (t.take i).map encNod ++ [encNod (t.getD i default)] := by
      rw [List.take_succ_eq_append_getElem hlt, List.map_append, List.getD_eq_getElem?_getD, List.getElem?_eq_getElem hlt]; rfl
    have hln : (t.take i).length ≤ 1048576 := by rw [List.length_take]; omega
    generalize t.getD i default = x at *
    rw [htk]
    simp only [encNod, encSs] at hix
    repeat' (first | (with_reducible refine jn_in ?_) | (with_reducible refine cl_ok (by assumption) rfl ?_) | (with_reducible refine br_if (fun hbr => ?_) (fun hbr => ?_)) | (with_reducible refine br_ifn (fun hbr => ?_) (fun hbr => ?_)) | (with_reducible refine br_nb (fun hbr => ?_) (fun hbr => ?_)) | (with_reducible refine br_b (fun hbr => ?_) (fun hbr => ?_)) | simp (disch := first | omega | (simp only [List.length_take, List.length_drop, List.length_append, List.map_cons, List.map_nil, List.length_map, List.length_cons, List.length_nil, List.length_set, List.length_replicate]; omega) | (simp only [List.length_cons, List.length_nil, Nat.zero_add, Nat.reduceAdd])) only [go_sem, ↓reduceIte, Nat.reduceAdd, Int.reduceNeg, Int.reduceAdd, Int.reduceSub, Int.reduceMul, Int.reduceLT, Int.reduceLE, Int.reduceEq, Int.reduceToNat, Nat.reduceBEq, e_sle, e_sge, e_shl1, e_orI, e_andI, e_shr, wrapu, wrap8, tn1, nat1, ix_s, ix_z, st_s, st_z, fl_s, fl_z, fl1_s, fl1_z, map_s, map_z, hix])
    all_goals first | omega | exact ⟨rfl, hlt⟩ | exact ⟨by unfold encNod encSs; rfl, hlt⟩
  · obtain rfl : i = t.length := by omega
    repeat' (first | (with_reducible refine jn_in ?_) | (with_reducible refine cl_ok (by assumption) rfl ?_) | (with_reducible refine br_if (fun hbr => ?_) (fun hbr => ?_)) | (with_reducible refine br_ifn (fun hbr => ?_) (fun hbr => ?_)) | (with_reducible refine br_nb (fun hbr => ?_) (fun hbr => ?_)) | (with_reducible refine br_b (fun hbr => ?_) (fun hbr => ?_)) | simp (disch := first | omega | (simp only [List.length_take, List.length_drop, List.length_append, List.map_cons, List.map_nil, List.length_map, List.length_cons, List.length_nil, List.length_set, List.length_replicate]; omega) | (simp only [List.length_cons, List.length_nil, Nat.zero_add, Nat.reduceAdd])) only [go_sem, ↓reduceIte, Nat.reduceAdd, Int.reduceNeg, Int.reduceAdd, Int.reduceSub, Int.reduceMul, Int.reduceLT, Int.reduceLE, Int.reduceEq, Int.reduceToNat, Nat.reduceBEq, e_sle, e_sge, e_shl1, e_orI, e_andI, e_shr, wrapu, wrap8, tn1, nat1, ix_s, ix_z, st_s, st_z, fl_s, fl_z, fl1_s, fl1_z, map_s, map_z, List.take_length])
    all_goals first | omega | rfl
end Go.Proofs.Ytenopiadacpbiaa
