/- impl.IsTree. -/
import Derived.Test.YtbikbjgbpeipmaaUTree6
import Derived.Test.YtbikbjgbpeipmaaTree5
namespace Go.Proofs.Ytbikbjgbpeipmaa
open Go.RowKit
set_option linter.unusedVariables false
set_option linter.unusedSimpArgs false
set_option maxRecDepth 100000

set_option maxHeartbeats 4000000 in
theorem implTree_m (t : List Nod) (ht : t.length ≤ 1048576) (hx : ∀ x ∈ t, x.text.size ≤ 1048576 ∧ x.labels.length ≤ 1048576 ∧ ∀ y ∈ x.labels, y.size ≤ 1048576) : Meets Try.prog 24 [(false, [encNods t])] [(false, [.sc (.bool (treeB t))], true)] := by
  have b1 : ∀ {a b : Bool}, a = b → [DV.sc (.bool a)] = [.sc (.bool b)] := fun h => by rw [h]
  refine meets_upf Try.func24 u_impl_IsTree_g rfl ?_; simp only [u_impl_IsTree_u]
  simp only [encNods]
  simp (disch := first | omega | (simp only [List.length_take, List.length_drop, List.length_append, List.map_cons, List.map_nil, List.length_map, List.length_cons, List.length_nil, List.length_set, List.length_replicate]; omega) | (simp only [List.length_cons, List.length_nil, Nat.zero_add, Nat.reduceAdd])) only [go_sem, ↓reduceIte, Nat.reduceAdd, Int.reduceNeg, Int.reduceAdd, Int.reduceSub, Int.reduceMul, Int.reduceLT, Int.reduceLE, Int.reduceEq, Int.reduceToNat, Nat.reduceBEq, e_sle, e_sge, e_shl1, e_orI, e_andI, e_shr, wrapu, wrap8, tn1, nat1, ix_s, ix_z, st_s, st_z, fl_s, fl_z, fl1_s, fl1_z, map_s, map_z, true_and]
  refine br_if (fun hn1 => ?_) (fun hn1 => ?_)
  · repeat' (first | (with_reducible refine jn_in ?_) | (with_reducible refine cl_ok (by assumption) rfl ?_) | (with_reducible refine cl_okP (by assumption) rfl ?_) | (with_reducible refine br_if (fun hbr => ?_) (fun hbr => ?_)) | (with_reducible refine br_ifn (fun hbr => ?_) (fun hbr => ?_)) | (with_reducible refine br_nb (fun hbr => ?_) (fun hbr => ?_)) | (with_reducible refine br_b (fun hbr => ?_) (fun hbr => ?_)) | simp (disch := first | omega | (simp only [List.length_take, List.length_drop, List.length_append, List.map_cons, List.map_nil, List.length_map, List.length_cons, List.length_nil, List.length_set, List.length_replicate]; omega) | (simp only [List.length_cons, List.length_nil, Nat.zero_add, Nat.reduceAdd])) only [go_sem, ↓reduceIte, Nat.reduceAdd, Int.reduceNeg, Int.reduceAdd, Int.reduceSub, Int.reduceMul, Int.reduceLT, Int.reduceLE, Int.reduceEq, Int.reduceToNat, Nat.reduceBEq, e_sle, e_sge, e_shl1, e_orI, e_andI, e_shr, wrapu, wrap8, tn1, nat1, ix_s, ix_z, st_s, st_z, fl_s, fl_z, fl1_s, fl1_z, map_s, map_z, true_and])
    exact ret_b (by unfold treeB; rw [decide_eq_false (by omega)]; rfl)
  simp (disch := first | omega | (simp only [List.length_take, List.length_drop, List.length_append, List.map_cons, List.map_nil, List.length_map, List.length_cons, List.length_nil, List.length_set, List.length_replicate]; omega) | (simp only [List.length_cons, List.length_nil, Nat.zero_add, Nat.reduceAdd])) only [go_sem, ↓reduceIte, Nat.reduceAdd, Int.reduceNeg, Int.reduceAdd, Int.reduceSub, Int.reduceMul, Int.reduceLT, Int.reduceLE, Int.reduceEq, Int.reduceToNat, Nat.reduceBEq, e_sle, e_sge, e_shl1, e_orI, e_andI, e_shr, wrapu, wrap8, tn1, nat1, ix_s, ix_z, st_s, st_z, fl_s, fl_z, fl1_s, fl1_z, map_s, map_z, true_and]
  refine br_if (fun hn2 => ?_) (fun hn2 => ?_)
  · repeat' (first | (with_reducible refine jn_in ?_) | (with_reducible refine cl_ok (by assumption) rfl ?_) | (with_reducible refine cl_okP (by assumption) rfl ?_) | (with_reducible refine br_if (fun hbr => ?_) (fun hbr => ?_)) | (with_reducible refine br_ifn (fun hbr => ?_) (fun hbr => ?_)) | (with_reducible refine br_nb (fun hbr => ?_) (fun hbr => ?_)) | (with_reducible refine br_b (fun hbr => ?_) (fun hbr => ?_)) | simp (disch := first | omega | (simp only [List.length_take, List.length_drop, List.length_append, List.map_cons, List.map_nil, List.length_map, List.length_cons, List.length_nil, List.length_set, List.length_replicate]; omega) | (simp only [List.length_cons, List.length_nil, Nat.zero_add, Nat.reduceAdd])) only [go_sem, ↓reduceIte, Nat.reduceAdd, Int.reduceNeg, Int.reduceAdd, Int.reduceSub, Int.reduceMul, Int.reduceLT, Int.reduceLE, Int.reduceEq, Int.reduceToNat, Nat.reduceBEq, e_sle, e_sge, e_shl1, e_orI, e_andI, e_shr, wrapu, wrap8, tn1, nat1, ix_s, ix_z, st_s, st_z, fl_s, fl_z, fl1_s, fl1_z, map_s, map_z, true_and])
    exact ret_b (by unfold treeB; rw [decide_eq_false (by omega)]; rfl)
  have hn : 1 ≤ (t.length : Int) ∧ (t.length : Int) ≤ 200 := by omega
  simp (disch := first | omega | (simp only [List.length_take, List.length_drop, List.length_append, List.map_cons, List.map_nil, List.length_map, List.length_cons, List.length_nil, List.length_set, List.length_replicate]; omega) | (simp only [List.length_cons, List.length_nil, Nat.zero_add, Nat.reduceAdd])) only [go_sem, ↓reduceIte, Nat.reduceAdd, Int.reduceNeg, Int.reduceAdd, Int.reduceSub, Int.reduceMul, Int.reduceLT, Int.reduceLE, Int.reduceEq, Int.reduceToNat, Nat.reduceBEq, e_sle, e_sge, e_shl1, e_orI, e_andI, e_shr, wrapu, wrap8, tn1, nat1, ix_s, ix_z, st_s, st_z, fl_s, fl_z, fl1_s, fl1_z, map_s, map_z, true_and]
  refine lp (fun s : Nat × List Int => [.sc (.int .i64 (s.1 : Nat)), .sl 3 1 (s.2.map encZ)]) (fun s => s.1 ≤ t.length ∧ stkT t s.1 = some s.2) (fun s => t.length - s.1) (0, []) rfl ⟨by simp, rfl⟩ ?_
  rintro ⟨i, s⟩ ⟨g1, g2⟩
  simp only at g1 g2 ⊢
  obtain ⟨v1, v2⟩ := stkT_inv g2
  simp only [u_impl_IsTree_l3]
  by_cases hlt : i < t.length
  · have hno := tree_no hlt g2
    have hst : stkT t (i + 1) = stepT t i s := by simp only [stkT, g2]
    unfold stepT at hno hst
    obtain ⟨z1, z2, z3⟩ := hx _ (getD_mem hlt)
    have hS := implNod_m (t.getD i default).kind (t.getD i default).num (t.getD i default).kids (t.getD i default).text (t.getD i default).labels z1 z2 z3
    simp only [encNod, encSs] at hS
    simp (disch := first | omega | (simp only [List.length_take, List.length_drop, List.length_append, List.map_cons, List.map_nil, List.length_map, List.length_cons, List.length_nil, List.length_set, List.length_replicate]; omega) | (simp only [List.length_cons, List.length_nil, Nat.zero_add, Nat.reduceAdd])) only [go_sem, ↓reduceIte, Nat.reduceAdd, Int.reduceNeg, Int.reduceAdd, Int.reduceSub, Int.reduceMul, Int.reduceLT, Int.reduceLE, Int.reduceEq, Int.reduceToNat, Nat.reduceBEq, e_sle, e_sge, e_shl1, e_orI, e_andI, e_shr, wrapu, wrap8, tn1, nat1, ix_s, ix_z, st_s, st_z, fl_s, fl_z, fl1_s, fl1_z, map_s, map_z, ix_Nod, encNod, encSs]
    refine br_if (fun hbr => ?_) (fun hbr => absurd hbr (by omega))
    simp (disch := first | omega | (simp only [List.length_take, List.length_drop, List.length_append, List.map_cons, List.map_nil, List.length_map, List.length_cons, List.length_nil, List.length_set, List.length_replicate]; omega) | (simp only [List.length_cons, List.length_nil, Nat.zero_add, Nat.reduceAdd])) only [go_sem, ↓reduceIte, Nat.reduceAdd, Int.reduceNeg, Int.reduceAdd, Int.reduceSub, Int.reduceMul, Int.reduceLT, Int.reduceLE, Int.reduceEq, Int.reduceToNat, Nat.reduceBEq, e_sle, e_sge, e_shl1, e_orI, e_andI, e_shr, wrapu, wrap8, tn1, nat1, ix_s, ix_z, st_s, st_z, fl_s, fl_z, fl1_s, fl1_z, map_s, map_z, ix_Nod, encNod, encSs]
    refine jn_eq [.sc (.bool (badT t i s))] ?_ ?_
    · refine cl_ok hS rfl ?_
      unfold badT nB
      cases hnb : nodB (t.getD i default).kind (t.getD i default).num (t.getD i default).text (t.getD i default).labels (t.getD i default).kids
      · repeat' (first | (with_reducible refine jn_in ?_) | (with_reducible refine cl_ok (by assumption) rfl ?_) | (with_reducible refine cl_okP (by assumption) rfl ?_) | (with_reducible refine br_if (fun hbr => ?_) (fun hbr => ?_)) | (with_reducible refine br_ifn (fun hbr => ?_) (fun hbr => ?_)) | (with_reducible refine br_nb (fun hbr => ?_) (fun hbr => ?_)) | (with_reducible refine br_b (fun hbr => ?_) (fun hbr => ?_)) | simp (disch := first | omega | (simp only [List.length_take, List.length_drop, List.length_append, List.map_cons, List.map_nil, List.length_map, List.length_cons, List.length_nil, List.length_set, List.length_replicate]; omega) | (simp only [List.length_cons, List.length_nil, Nat.zero_add, Nat.reduceAdd])) only [go_sem, ↓reduceIte, Nat.reduceAdd, Int.reduceNeg, Int.reduceAdd, Int.reduceSub, Int.reduceMul, Int.reduceLT, Int.reduceLE, Int.reduceEq, Int.reduceToNat, Nat.reduceBEq, e_sle, e_sge, e_shl1, e_orI, e_andI, e_shr, wrapu, wrap8, tn1, nat1, ix_s, ix_z, st_s, st_z, fl_s, fl_z, fl1_s, fl1_z, map_s, map_z, Bool.false_and])
        all_goals first | exact b1 (by simp [*]; done) | skip
      · repeat' (first | (with_reducible refine jn_in ?_) | (with_reducible refine cl_ok (by assumption) rfl ?_) | (with_reducible refine cl_okP (by assumption) rfl ?_) | (with_reducible refine br_if (fun hbr => ?_) (fun hbr => ?_)) | (with_reducible refine br_ifn (fun hbr => ?_) (fun hbr => ?_)) | (with_reducible refine br_nb (fun hbr => ?_) (fun hbr => ?_)) | (with_reducible refine br_b (fun hbr => ?_) (fun hbr => ?_)) | simp (disch := first | omega | (simp only [List.length_take, List.length_drop, List.length_append, List.map_cons, List.map_nil, List.length_map, List.length_cons, List.length_nil, List.length_set, List.length_replicate]; omega) | (simp only [List.length_cons, List.length_nil, Nat.zero_add, Nat.reduceAdd])) only [go_sem, ↓reduceIte, Nat.reduceAdd, Int.reduceNeg, Int.reduceAdd, Int.reduceSub, Int.reduceMul, Int.reduceLT, Int.reduceLE, Int.reduceEq, Int.reduceToNat, Nat.reduceBEq, e_sle, e_sge, e_shl1, e_orI, e_andI, e_shr, wrapu, wrap8, tn1, nat1, ix_s, ix_z, st_s, st_z, fl_s, fl_z, fl1_s, fl1_z, map_s, map_z, true_and])
        all_goals first
          | omega
          | exact b1 (by simp [-List.getD_eq_getElem?_getD, *]; done)
          | skip
    simp only [u_impl_IsTree_j2]
    cases hbad : badT t i s
    rotate_left
    · rw [hbad] at hno
      have hno := hno rfl
      repeat' (first | (with_reducible refine jn_in ?_) | (with_reducible refine cl_ok (by assumption) rfl ?_) | (with_reducible refine cl_okP (by assumption) rfl ?_) | (with_reducible refine br_if (fun hbr => ?_) (fun hbr => ?_)) | (with_reducible refine br_ifn (fun hbr => ?_) (fun hbr => ?_)) | (with_reducible refine br_nb (fun hbr => ?_) (fun hbr => ?_)) | (with_reducible refine br_b (fun hbr => ?_) (fun hbr => ?_)) | simp (disch := first | omega | (simp only [List.length_take, List.length_drop, List.length_append, List.map_cons, List.map_nil, List.length_map, List.length_cons, List.length_nil, List.length_set, List.length_replicate]; omega) | (simp only [List.length_cons, List.length_nil, Nat.zero_add, Nat.reduceAdd])) only [go_sem, ↓reduceIte, Nat.reduceAdd, Int.reduceNeg, Int.reduceAdd, Int.reduceSub, Int.reduceMul, Int.reduceLT, Int.reduceLE, Int.reduceEq, Int.reduceToNat, Nat.reduceBEq, e_sle, e_sge, e_shl1, e_orI, e_andI, e_shr, wrapu, wrap8, tn1, nat1, ix_s, ix_z, st_s, st_z, fl_s, fl_z, fl1_s, fl1_z, map_s, map_z, true_and])
      exact ret_b hno
    rw [hbad] at hno hst
    simp only [Bool.false_eq_true, if_false] at hno hst
    unfold badT at hbad
    simp only [Bool.or_eq_false_iff, Bool.not_eq_false', decide_eq_false_iff_not] at hbad
    obtain ⟨hb1, hb2, -⟩ := hbad
    have hk0 := nB_kids hb1
    generalize hxx : t.getD i default = x at *
    obtain ⟨kN, hkN⟩ := Int.eq_ofNat_of_zero_le hk0
    rw [hkN, Int.toNat_natCast] at hst hno
    rw [hkN] at hb2
    have e1 : (s.length : Int) - (kN : Int) = ((s.length - kN : Nat) : Int) := by omega
    have e3 : (s.length : Int) - ((s.length - kN : Nat) : Int) = (kN : Int) := by omega
    simp (disch := first | omega | (simp only [List.length_take, List.length_drop, List.length_append, List.map_cons, List.map_nil, List.length_map, List.length_cons, List.length_nil, List.length_set, List.length_replicate]; omega) | (simp only [List.length_cons, List.length_nil, Nat.zero_add, Nat.reduceAdd])) only [go_sem, ↓reduceIte, Nat.reduceAdd, Int.reduceNeg, Int.reduceAdd, Int.reduceSub, Int.reduceMul, Int.reduceLT, Int.reduceLE, Int.reduceEq, Int.reduceToNat, Nat.reduceBEq, e_sle, e_sge, e_shl1, e_orI, e_andI, e_shr, wrapu, wrap8, tn1, nat1, ix_s, ix_z, st_s, st_z, fl_s, fl_z, fl1_s, fl1_z, map_s, map_z, hkN, e1, e3]
    refine lp (fun j : Nat => [.sc (.int .i64 (j : Int))]) (fun j => j ≤ kN ∧ allB (empT t x s) j = true) (fun j => kN - j) 0 rfl ⟨by omega, rfl⟩ ?_
    rintro j ⟨w1, w2⟩
    simp only [u_impl_IsTree_l1]
    by_cases hj : j < kN
    · obtain ⟨m1, m2⟩ := v2 _ (mem_getD (l := s) (i := s.length - kN + j) (by omega))
      have hEj : empT t x s j = !(decide (knd t s (s.length - kN + j) = 1) && (decide (x.kind ≠ 8) || decide (j + 1 = kN))) := by unfold empT; rw [hkN]; rfl
      have hkd : (t.getD (s.getD (s.length - kN + j) default).toNat default).kind = knd t s (s.length - kN + j) := rfl
      have ret0 : empT t x s j = false → treeB t = false := fun h => hno (by rw [allB_no hj h]; rfl)
      have e4 : ((s.length - kN : Nat) : Int) + (j : Int) = ((s.length - kN + j : Nat) : Int) := rfl
      repeat' (first | (with_reducible refine jn_in ?_) | (with_reducible refine cl_ok (by assumption) rfl ?_) | (with_reducible refine cl_okP (by assumption) rfl ?_) | (with_reducible refine br_if (fun hbr => ?_) (fun hbr => ?_)) | (with_reducible refine br_ifn (fun hbr => ?_) (fun hbr => ?_)) | (with_reducible refine br_nb (fun hbr => ?_) (fun hbr => ?_)) | (with_reducible refine br_b (fun hbr => ?_) (fun hbr => ?_)) | simp (disch := first | omega | (simp only [List.length_take, List.length_drop, List.length_append, List.map_cons, List.map_nil, List.length_map, List.length_cons, List.length_nil, List.length_set, List.length_replicate]; omega) | (simp only [List.length_cons, List.length_nil, Nat.zero_add, Nat.reduceAdd])) only [go_sem, ↓reduceIte, Nat.reduceAdd, Int.reduceNeg, Int.reduceAdd, Int.reduceSub, Int.reduceMul, Int.reduceLT, Int.reduceLE, Int.reduceEq, Int.reduceToNat, Nat.reduceBEq, e_sle, e_sge, e_shl1, e_orI, e_andI, e_shr, wrapu, wrap8, tn1, nat1, ix_s, ix_z, st_s, st_z, fl_s, fl_z, fl1_s, fl1_z, map_s, map_z, ix_z, ix_Nod, encNod, encSs, hkd, u_impl_IsTree_j0, e4])
      all_goals first
        | (exfalso; omega)
        | exact ret_b (ret0 (by rw [hEj, decide_eq_true ‹knd t s (s.length - kN + j) = 1›, decide_eq_false (p := x.kind ≠ 8) (fun h => h ‹x.kind = 8›), decide_eq_true (p := j + 1 = kN) (by omega)]; rfl))
        | exact ret_b (ret0 (by rw [hEj, decide_eq_true ‹knd t s (s.length - kN + j) = 1›, decide_eq_true (p := x.kind ≠ 8) ‹¬ x.kind = 8›]; rfl))
        | exact ⟨j + 1, rfl, ⟨hj, allB_step w2 (by rw [hEj, decide_eq_true ‹knd t s (s.length - kN + j) = 1›, decide_eq_false (p := x.kind ≠ 8) (fun h => h ‹x.kind = 8›), decide_eq_false (p := j + 1 = kN) (by omega)]; rfl)⟩, by omega⟩
        | exact ⟨j + 1, rfl, ⟨hj, allB_step w2 (by rw [hEj, decide_eq_false (p := knd t s (s.length - kN + j) = 1) ‹_›]; rfl)⟩, by omega⟩
        | skip
    · obtain rfl : kN = j := by omega
      rw [if_pos w2] at hst
      have hsl : (s.take (s.length - kN)).length ≤ 1048576 := by rw [List.length_take]; omega
      repeat' (first | (with_reducible refine jn_in ?_) | (with_reducible refine cl_ok (by assumption) rfl ?_) | (with_reducible refine cl_okP (by assumption) rfl ?_) | (with_reducible refine br_if (fun hbr => ?_) (fun hbr => ?_)) | (with_reducible refine br_ifn (fun hbr => ?_) (fun hbr => ?_)) | (with_reducible refine br_nb (fun hbr => ?_) (fun hbr => ?_)) | (with_reducible refine br_b (fun hbr => ?_) (fun hbr => ?_)) | simp (disch := first | omega | (simp only [List.length_take, List.length_drop, List.length_append, List.map_cons, List.map_nil, List.length_map, List.length_cons, List.length_nil, List.length_set, List.length_replicate]; omega) | (simp only [List.length_cons, List.length_nil, Nat.zero_add, Nat.reduceAdd])) only [go_sem, ↓reduceIte, Nat.reduceAdd, Int.reduceNeg, Int.reduceAdd, Int.reduceSub, Int.reduceMul, Int.reduceLT, Int.reduceLE, Int.reduceEq, Int.reduceToNat, Nat.reduceBEq, e_sle, e_sge, e_shl1, e_orI, e_andI, e_shr, wrapu, wrap8, tn1, nat1, ix_s, ix_z, st_s, st_z, fl_s, fl_z, fl1_s, fl1_z, map_s, map_z, hkN, e1])
      all_goals first
        | (exfalso; omega)
        | exact ⟨(i + 1, s.take (s.length - kN) ++ [(i : Int)]), rfl, ⟨hlt, hst⟩, by simp only; omega⟩
        | trace_state
  · obtain rfl : i = t.length := by omega
    have hT : treeB t = (decide (s.length = 1) && !decide ((t.getD (t.length - 1) default).kind = 1)) := by unfold treeB; rw [decide_eq_true (by omega), g2]; rfl
    rw [hT]
    have e2 : ((t.length : Int) - 1).toNat = t.length - 1 := by omega
    repeat' (first | (with_reducible refine jn_in ?_) | (with_reducible refine cl_ok (by assumption) rfl ?_) | (with_reducible refine cl_okP (by assumption) rfl ?_) | (with_reducible refine br_if (fun hbr => ?_) (fun hbr => ?_)) | (with_reducible refine br_ifn (fun hbr => ?_) (fun hbr => ?_)) | (with_reducible refine br_nb (fun hbr => ?_) (fun hbr => ?_)) | (with_reducible refine br_b (fun hbr => ?_) (fun hbr => ?_)) | simp (disch := first | omega | (simp only [List.length_take, List.length_drop, List.length_append, List.map_cons, List.map_nil, List.length_map, List.length_cons, List.length_nil, List.length_set, List.length_replicate]; omega) | (simp only [List.length_cons, List.length_nil, Nat.zero_add, Nat.reduceAdd])) only [go_sem, ↓reduceIte, Nat.reduceAdd, Int.reduceNeg, Int.reduceAdd, Int.reduceSub, Int.reduceMul, Int.reduceLT, Int.reduceLE, Int.reduceEq, Int.reduceToNat, Nat.reduceBEq, e_sle, e_sge, e_shl1, e_orI, e_andI, e_shr, wrapu, wrap8, tn1, nat1, ix_s, ix_z, st_s, st_z, fl_s, fl_z, fl1_s, fl1_z, map_s, map_z, ix_Nod, encNod, encSs, e2])
    all_goals first
      | omega
      | exact ret_b (by rw [decide_eq_true (p := s.length = 1) (by omega), Bool.true_and])
      | exact ret_b (by rw [decide_eq_false (p := s.length = 1) (by omega), Bool.false_and])
      | trace_state
end Go.Proofs.Ytbikbjgbpeipmaa
