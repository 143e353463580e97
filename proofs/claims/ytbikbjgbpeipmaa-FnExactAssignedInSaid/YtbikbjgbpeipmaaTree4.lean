/- spec.l16Shape. -/
import Derived.Test.YtbikbjgbpeipmaaUTree4
import Derived.Test.YtbikbjgbpeipmaaTree3
namespace Go.Proofs.Ytbikbjgbpeipmaa
open Go.RowKit
set_option linter.unusedVariables false
set_option linter.unusedSimpArgs false
set_option maxRecDepth 100000

theorem kinds36 {k : Int} (h : 0 ≤ k ∧ k ≤ 35) (P : Int → Prop) (h0 : ∀ i : Nat, i < 36 → P (i : Int)) : P k := by
  obtain ⟨i, rfl⟩ := Int.eq_ofNat_of_zero_le h.1
  exact h0 i (by omega)
def kidC (k c : Int) (n : Nat) : Bool := if cntK k ≥ 0 then decide (c = cntK k) else if k = 8 ∨ k = 9 then decide (c = (n : Int) + 1) else if k = 16 then decide (2 ≤ c ∧ c ≤ 3) else decide (0 ≤ c)
theorem kid_cnt {k c : Int} {n : Nat} (h : 0 ≤ k ∧ k ≤ 35) : kidB k c n = kidC k c n := by
  have h16 : decide (c = 2 ∨ c = 3) = decide (2 ≤ c ∧ c ≤ 3) := by rw [decide_eq_decide]; omega
  refine kinds36 h (fun k => kidB k c n = kidC k c n) fun i hi => ?_
  match i, hi with
  | 0, _ | 1, _ | 2, _ | 3, _ | 4, _ | 5, _ | 6, _ | 7, _ | 8, _ | 9, _ | 10, _ | 11, _ | 12, _ | 13, _ | 14, _ | 15, _ | 17, _ | 18, _ | 19, _ | 20, _ | 21, _ | 22, _ | 23, _ | 24, _ | 25, _ | 26, _ | 27, _ | 28, _ | 29, _ | 30, _ | 31, _ | 32, _ | 33, _ | 34, _ | 35, _ => rfl
  | 16, _ => exact h16
  | i + 36, hi => omega
def labC (k c : Int) (L : List ByteArray) : Bool :=
  if k = 8 then allB (labN L) L.length && decide (c = (L.length : Int) + 1) else if k = 9 then allB (labS L) L.length && decide (c = (L.length : Int) + 1)
  else if k = 16 then decide (L.length = 0) && decide (2 ≤ c ∧ c ≤ 3)
  else if k = 26 then decide (L.length = 1) && decide (1 ≤ ((L.getD 0 default).size : Int) ∧ ((L.getD 0 default).size : Int) ≤ 60)
  else if k = 27 then decide (L.length = 1) && (nameB (L.getD 0 default) && nameB (L.getD 0 default ++ ⟨#[60, 45]⟩)) else decide (L.length = 0)
def spB (k n : Int) (s : ByteArray) (c : Int) : Bool := decide (0 ≤ k ∧ k ≤ 35) && (decide (0 ≤ n ∧ n ≤ topK k) && (txtB k s && (decide (0 ≤ c ∧ c ≤ 200) && !(decide (cntK k ≥ 0) && !decide (c = cntK k)))))
theorem shape_nod (k n c : Int) (s : ByteArray) (L : List ByteArray) : (nodB k n s L c && decide (c ≤ 200)) = (spB k n s c && labC k c L) := by
  unfold nodB spB
  by_cases h : 0 ≤ k ∧ k ≤ 35
  rotate_left
  · rw [decide_eq_false h]; simp
  rw [decide_eq_true h, kid_cnt h]
  generalize decide (0 ≤ n ∧ n ≤ topK k) = b1
  generalize txtB k s = b2
  simp only [Bool.true_and]
  have key : (kidC k c L.length && ((if usL k = true then labR k L else decide (L.length = 0)) && decide (c ≤ 200))) = ((decide (0 ≤ c ∧ c ≤ 200) && !(decide (cntK k ≥ 0) && !decide (c = cntK k))) && labC k c L) := by
    by_cases h8 : k = 8
    · subst h8
      have e1 : kidC 8 c L.length = decide (c = (L.length : Int) + 1) := rfl
      have e2 : (if usL 8 = true then labR 8 L else decide (L.length = 0)) = allB (labN L) L.length := rfl
      have e3 : labC 8 c L = (allB (labN L) L.length && decide (c = (L.length : Int) + 1)) := rfl
      have e4 : cntK 8 = -1 := by decide
      rw [e1, e2, e3, e4]
      generalize allB (labN L) L.length = x
      cases x
      · simp
      · rw [Bool.eq_iff_iff]; simp; omega
    by_cases h9 : k = 9
    · subst h9
      have e1 : kidC 9 c L.length = decide (c = (L.length : Int) + 1) := rfl
      have e2 : (if usL 9 = true then labR 9 L else decide (L.length = 0)) = allB (labS L) L.length := rfl
      have e3 : labC 9 c L = (allB (labS L) L.length && decide (c = (L.length : Int) + 1)) := rfl
      have e4 : cntK 9 = -1 := by decide
      rw [e1, e2, e3, e4]
      generalize allB (labS L) L.length = x
      cases x
      · simp
      · rw [Bool.eq_iff_iff]; simp; omega
    by_cases h16 : k = 16
    · subst h16
      have e1 : kidC 16 c L.length = decide (2 ≤ c ∧ c ≤ 3) := rfl
      have e2 : (if usL 16 = true then labR 16 L else decide (L.length = 0)) = decide (L.length = 0) := rfl
      have e3 : labC 16 c L = (decide (L.length = 0) && decide (2 ≤ c ∧ c ≤ 3)) := rfl
      have e4 : cntK 16 = -1 := by decide
      rw [e1, e2, e3, e4]
      rw [Bool.eq_iff_iff]; simp only [Bool.and_eq_true, decide_eq_true_eq, Bool.not_eq_true', Bool.and_eq_false_iff, decide_eq_false_iff_not, Bool.not_eq_false']; omega
    have hkc : kidC k c L.length = if cntK k ≥ 0 then decide (c = cntK k) else decide (0 ≤ c) := by unfold kidC; rw [if_neg (show ¬ (k = 8 ∨ k = 9) by omega), if_neg h16]
    have hc2 : cntK k ≤ 2 := by unfold cntK; split <;> (try split) <;> (try split) <;> omega
    have hlc : labC k c L = (if usL k = true then labR k L else decide (L.length = 0)) := by
      unfold labC
      rw [if_neg h8, if_neg h9, if_neg h16]
      by_cases h26 : k = 26
      · subst h26; rfl
      by_cases h27 : k = 27
      · subst h27; rfl
      rw [if_neg h26, if_neg h27, if_neg (show ¬ usL k = true by simp [usL, *])]
    rw [hlc, hkc]
    generalize (if usL k = true then labR k L else decide (L.length = 0)) = x
    generalize cntK k = m at *
    by_cases hm : m ≥ 0
    · rw [if_pos hm, decide_eq_true hm]
      cases x
      · simp
      · rw [Bool.eq_iff_iff]; simp; omega
    · rw [if_neg hm, decide_eq_false hm]
      cases x
      · simp
      · rw [Bool.eq_iff_iff]; simp
  cases b1 <;> cases b2 <;> simp only [Bool.false_and, Bool.true_and, Bool.and_false] 
  rw [← key, Bool.and_assoc]
theorem spB_bd {k n c : Int} {s : ByteArray} (h : spB k n s c = true) : 0 ≤ c ∧ c ≤ 200 := by
  unfold spB at h
  simp only [Bool.and_eq_true, decide_eq_true_eq] at h
  exact h.2.2.2.1
set_option maxHeartbeats 4000000 in
theorem specShape_m (k n c : Int) (s : ByteArray) (L : List ByteArray) (hz : s.size ≤ 1048576) (hL : L.length ≤ 1048576) (hs : ∀ x ∈ L, x.size ≤ 1048576) : Meets Try.prog 38 [(true, encNod ⟨k, n, s, L, c⟩)] [(false, [.sc (.bool (nodB k n s L c && decide (c ≤ 200)))], true)] := by
  have hC := specCnt_m k
  have hT := specTxt_m k n c s L (by omega)
  have hN := fun i => specName_m (L.getD i default) (by have := getD_le hs i; omega)
  have hN2 := specName_m (L.getD 0 default ++ ⟨#[60, 45]⟩) (by have := getD_le hs 0; rw [ByteArray.size_append]; show _ + 2 ≤ _; omega)
  have hK := fun s => l1Find_m 9 L s (by omega)
  have hI1 := l1In_m k 0 35
  have hI2 := l1In_m n 0 (topK k)
  have hI3 := l1In_m c 0 200
  have hI4 := l1In_m c 2 3
  have hI5 := l1In_m ((L.getD 0 default).size : Int) 1 60
  have b1 : ∀ {a b : Bool}, a = b → [DV.sc (.bool a)] = [.sc (.bool b)] := fun h => by rw [h]
  rw [shape_nod]
  refine meets_upf Try.func38 u_spec_l16Shape_g rfl ?_; simp only [u_spec_l16Shape_u]
  simp only [encNod, encSs] at hT ⊢
  simp (disch := first | omega | (simp only [List.length_take, List.length_drop, List.length_append, List.map_cons, List.map_nil, List.length_map, List.length_cons, List.length_nil, List.length_set, List.length_replicate]; omega) | (simp only [List.length_cons, List.length_nil, Nat.zero_add, Nat.reduceAdd])) only [go_sem, ↓reduceIte, Nat.reduceAdd, Int.reduceNeg, Int.reduceAdd, Int.reduceSub, Int.reduceMul, Int.reduceLT, Int.reduceLE, Int.reduceEq, Int.reduceToNat, Nat.reduceBEq, e_sle, e_sge, e_shl1, e_orI, e_andI, e_shr, wrapu, wrap8, tn1, nat1, ix_s, ix_z, st_s, st_z, fl_s, fl_z, fl1_s, fl1_z, map_s, map_z, true_and]
  refine jn (fun vs => ∃ y, vs = [.sc (.int .i64 (topK k)), y]) ?_ ?_
  · repeat' (first | (with_reducible refine jn_in ?_) | (with_reducible refine cl_ok (by assumption) rfl ?_) | (with_reducible refine cl_okP (by assumption) rfl ?_) | (with_reducible refine br_if (fun hbr => ?_) (fun hbr => ?_)) | (with_reducible refine br_ifn (fun hbr => ?_) (fun hbr => ?_)) | (with_reducible refine br_nb (fun hbr => ?_) (fun hbr => ?_)) | (with_reducible refine br_b (fun hbr => ?_) (fun hbr => ?_)) | simp (disch := first | omega | (simp only [List.length_take, List.length_drop, List.length_append, List.map_cons, List.map_nil, List.length_map, List.length_cons, List.length_nil, List.length_set, List.length_replicate]; omega) | (simp only [List.length_cons, List.length_nil, Nat.zero_add, Nat.reduceAdd])) only [go_sem, ↓reduceIte, Nat.reduceAdd, Int.reduceNeg, Int.reduceAdd, Int.reduceSub, Int.reduceMul, Int.reduceLT, Int.reduceLE, Int.reduceEq, Int.reduceToNat, Nat.reduceBEq, e_sle, e_sge, e_shl1, e_orI, e_andI, e_shr, wrapu, wrap8, tn1, nat1, ix_s, ix_z, st_s, st_z, fl_s, fl_z, fl1_s, fl1_z, map_s, map_z, true_and])
    all_goals first
      | (subst_vars; exact ⟨_, rfl⟩)
      | exact ⟨_, by rw [topK, if_neg ‹¬ k = 2›, if_neg ‹¬ k = 4›, if_neg ‹¬ k = 5›]⟩
      | skip
  rintro vs - ⟨y, rfl⟩
  simp only [u_spec_l16Shape_j4]
  simp (disch := first | omega | (simp only [List.length_take, List.length_drop, List.length_append, List.map_cons, List.map_nil, List.length_map, List.length_cons, List.length_nil, List.length_set, List.length_replicate]; omega) | (simp only [List.length_cons, List.length_nil, Nat.zero_add, Nat.reduceAdd])) only [go_sem, ↓reduceIte, Nat.reduceAdd, Int.reduceNeg, Int.reduceAdd, Int.reduceSub, Int.reduceMul, Int.reduceLT, Int.reduceLE, Int.reduceEq, Int.reduceToNat, Nat.reduceBEq, e_sle, e_sge, e_shl1, e_orI, e_andI, e_shr, wrapu, wrap8, tn1, nat1, ix_s, ix_z, st_s, st_z, fl_s, fl_z, fl1_s, fl1_z, map_s, map_z, true_and]
  refine cl_ok hC rfl ?_
  simp (disch := first | omega | (simp only [List.length_take, List.length_drop, List.length_append, List.map_cons, List.map_nil, List.length_map, List.length_cons, List.length_nil, List.length_set, List.length_replicate]; omega) | (simp only [List.length_cons, List.length_nil, Nat.zero_add, Nat.reduceAdd])) only [go_sem, ↓reduceIte, Nat.reduceAdd, Int.reduceNeg, Int.reduceAdd, Int.reduceSub, Int.reduceMul, Int.reduceLT, Int.reduceLE, Int.reduceEq, Int.reduceToNat, Nat.reduceBEq, e_sle, e_sge, e_shl1, e_orI, e_andI, e_shr, wrapu, wrap8, tn1, nat1, ix_s, ix_z, st_s, st_z, fl_s, fl_z, fl1_s, fl1_z, map_s, map_z, true_and]
  refine jn_eq [.sc (.bool (!spB k n s c))] ?_ ?_
  · unfold spB
    repeat' (first | (with_reducible refine jn_in ?_) | (with_reducible refine cl_ok (by assumption) rfl ?_) | (with_reducible refine cl_okP (by assumption) rfl ?_) | (with_reducible refine br_if (fun hbr => ?_) (fun hbr => ?_)) | (with_reducible refine br_ifn (fun hbr => ?_) (fun hbr => ?_)) | (with_reducible refine br_nb (fun hbr => ?_) (fun hbr => ?_)) | (with_reducible refine br_b (fun hbr => ?_) (fun hbr => ?_)) | simp (disch := first | omega | (simp only [List.length_take, List.length_drop, List.length_append, List.map_cons, List.map_nil, List.length_map, List.length_cons, List.length_nil, List.length_set, List.length_replicate]; omega) | (simp only [List.length_cons, List.length_nil, Nat.zero_add, Nat.reduceAdd])) only [go_sem, ↓reduceIte, Nat.reduceAdd, Int.reduceNeg, Int.reduceAdd, Int.reduceSub, Int.reduceMul, Int.reduceLT, Int.reduceLE, Int.reduceEq, Int.reduceToNat, Nat.reduceBEq, e_sle, e_sge, e_shl1, e_orI, e_andI, e_shr, wrapu, wrap8, tn1, nat1, ix_s, ix_z, st_s, st_z, fl_s, fl_z, fl1_s, fl1_z, map_s, map_z, true_and])
    all_goals first
      | exact b1 (by simp [*])
      | skip
  simp only [u_spec_l16Shape_j3]
  cases hsp : spB k n s c
  · repeat' (first | (with_reducible refine jn_in ?_) | (with_reducible refine cl_ok (by assumption) rfl ?_) | (with_reducible refine cl_okP (by assumption) rfl ?_) | (with_reducible refine br_if (fun hbr => ?_) (fun hbr => ?_)) | (with_reducible refine br_ifn (fun hbr => ?_) (fun hbr => ?_)) | (with_reducible refine br_nb (fun hbr => ?_) (fun hbr => ?_)) | (with_reducible refine br_b (fun hbr => ?_) (fun hbr => ?_)) | simp (disch := first | omega | (simp only [List.length_take, List.length_drop, List.length_append, List.map_cons, List.map_nil, List.length_map, List.length_cons, List.length_nil, List.length_set, List.length_replicate]; omega) | (simp only [List.length_cons, List.length_nil, Nat.zero_add, Nat.reduceAdd])) only [go_sem, ↓reduceIte, Nat.reduceAdd, Int.reduceNeg, Int.reduceAdd, Int.reduceSub, Int.reduceMul, Int.reduceLT, Int.reduceLE, Int.reduceEq, Int.reduceToNat, Nat.reduceBEq, e_sle, e_sge, e_shl1, e_orI, e_andI, e_shr, wrapu, wrap8, tn1, nat1, ix_s, ix_z, st_s, st_z, fl_s, fl_z, fl1_s, fl1_z, map_s, map_z, true_and])
    rfl
  have hbd := spB_bd hsp
  rw [Bool.true_and]
  simp (disch := first | omega | (simp only [List.length_take, List.length_drop, List.length_append, List.map_cons, List.map_nil, List.length_map, List.length_cons, List.length_nil, List.length_set, List.length_replicate]; omega) | (simp only [List.length_cons, List.length_nil, Nat.zero_add, Nat.reduceAdd])) only [go_sem, ↓reduceIte, Nat.reduceAdd, Int.reduceNeg, Int.reduceAdd, Int.reduceSub, Int.reduceMul, Int.reduceLT, Int.reduceLE, Int.reduceEq, Int.reduceToNat, Nat.reduceBEq, e_sle, e_sge, e_shl1, e_orI, e_andI, e_shr, wrapu, wrap8, tn1, nat1, ix_s, ix_z, st_s, st_z, fl_s, fl_z, fl1_s, fl1_z, map_s, map_z, true_and]
  refine br_if (fun h8 => ?_) (fun h8 => ?_)
  · have hl : labC k c L = (allB (labN L) L.length && decide (c = (L.length : Int) + 1)) := by subst h8; rfl
    rw [hl]
    simp (disch := first | omega | (simp only [List.length_take, List.length_drop, List.length_append, List.map_cons, List.map_nil, List.length_map, List.length_cons, List.length_nil, List.length_set, List.length_replicate]; omega) | (simp only [List.length_cons, List.length_nil, Nat.zero_add, Nat.reduceAdd])) only [go_sem, ↓reduceIte, Nat.reduceAdd, Int.reduceNeg, Int.reduceAdd, Int.reduceSub, Int.reduceMul, Int.reduceLT, Int.reduceLE, Int.reduceEq, Int.reduceToNat, Nat.reduceBEq, e_sle, e_sge, e_shl1, e_orI, e_andI, e_shr, wrapu, wrap8, tn1, nat1, ix_s, ix_z, st_s, st_z, fl_s, fl_z, fl1_s, fl1_z, map_s, map_z, true_and]
    refine lp (fun i : Nat => [.sc (.int .i64 i)]) (fun i => i ≤ L.length ∧ allB (labN L) i = true) (fun i => L.length - i) 0 rfl ⟨by omega, rfl⟩ ?_
    rintro i ⟨hi, hb⟩
    simp only [u_spec_l16Shape_l1]
    by_cases hlt : i < L.length
    · have hNi := hN i
      have hKi := hK (L.getD i default)
      repeat' (first | (with_reducible refine jn_in ?_) | (with_reducible refine cl_ok (by assumption) rfl ?_) | (with_reducible refine cl_okP (by assumption) rfl ?_) | (with_reducible refine br_if (fun hbr => ?_) (fun hbr => ?_)) | (with_reducible refine br_ifn (fun hbr => ?_) (fun hbr => ?_)) | (with_reducible refine br_nb (fun hbr => ?_) (fun hbr => ?_)) | (with_reducible refine br_b (fun hbr => ?_) (fun hbr => ?_)) | simp (disch := first | omega | (simp only [List.length_take, List.length_drop, List.length_append, List.map_cons, List.map_nil, List.length_map, List.length_cons, List.length_nil, List.length_set, List.length_replicate]; omega) | (simp only [List.length_cons, List.length_nil, Nat.zero_add, Nat.reduceAdd])) only [go_sem, ↓reduceIte, Nat.reduceAdd, Int.reduceNeg, Int.reduceAdd, Int.reduceSub, Int.reduceMul, Int.reduceLT, Int.reduceLE, Int.reduceEq, Int.reduceToNat, Nat.reduceBEq, e_sle, e_sge, e_shl1, e_orI, e_andI, e_shr, wrapu, wrap8, tn1, nat1, ix_s, ix_z, st_s, st_z, fl_s, fl_z, fl1_s, fl1_z, map_s, map_z, u_spec_l16Shape_j0])
      all_goals first
        | omega
        | exact ret_b (by rw [allB_no hlt (by (first | (simp [-List.getD_eq_getElem?_getD, labN, *]; done) | (simp_all [-List.getD_eq_getElem?_getD, labN]; done) | (simp [-List.getD_eq_getElem?_getD, labN, *]; omega) | (simp_all [-List.getD_eq_getElem?_getD, labN]; omega) | omega)), Bool.false_and])
        | exact ret_b (by rw [decide_eq_false (p := c = ((L.length + 1 : Nat) : Int)) (by omega), Bool.and_false])
        | exact ⟨i + 1, rfl, ⟨by omega, allB_step hb (by (first | (simp [-List.getD_eq_getElem?_getD, labN, *]; done) | (simp_all [-List.getD_eq_getElem?_getD, labN]; done) | (simp [-List.getD_eq_getElem?_getD, labN, *]; omega) | (simp_all [-List.getD_eq_getElem?_getD, labN]; omega) | omega))⟩, by omega⟩
        | skip
    · obtain rfl : i = L.length := by omega
      repeat' (first | (with_reducible refine jn_in ?_) | (with_reducible refine cl_ok (by assumption) rfl ?_) | (with_reducible refine cl_okP (by assumption) rfl ?_) | (with_reducible refine br_if (fun hbr => ?_) (fun hbr => ?_)) | (with_reducible refine br_ifn (fun hbr => ?_) (fun hbr => ?_)) | (with_reducible refine br_nb (fun hbr => ?_) (fun hbr => ?_)) | (with_reducible refine br_b (fun hbr => ?_) (fun hbr => ?_)) | simp (disch := first | omega | (simp only [List.length_take, List.length_drop, List.length_append, List.map_cons, List.map_nil, List.length_map, List.length_cons, List.length_nil, List.length_set, List.length_replicate]; omega) | (simp only [List.length_cons, List.length_nil, Nat.zero_add, Nat.reduceAdd])) only [go_sem, ↓reduceIte, Nat.reduceAdd, Int.reduceNeg, Int.reduceAdd, Int.reduceSub, Int.reduceMul, Int.reduceLT, Int.reduceLE, Int.reduceEq, Int.reduceToNat, Nat.reduceBEq, e_sle, e_sge, e_shl1, e_orI, e_andI, e_shr, wrapu, wrap8, tn1, nat1, ix_s, ix_z, st_s, st_z, fl_s, fl_z, fl1_s, fl1_z, map_s, map_z, true_and])
      all_goals first | omega | exact ret_b (by rw [hb, Bool.true_and]) | skip
  simp (disch := first | omega | (simp only [List.length_take, List.length_drop, List.length_append, List.map_cons, List.map_nil, List.length_map, List.length_cons, List.length_nil, List.length_set, List.length_replicate]; omega) | (simp only [List.length_cons, List.length_nil, Nat.zero_add, Nat.reduceAdd])) only [go_sem, ↓reduceIte, Nat.reduceAdd, Int.reduceNeg, Int.reduceAdd, Int.reduceSub, Int.reduceMul, Int.reduceLT, Int.reduceLE, Int.reduceEq, Int.reduceToNat, Nat.reduceBEq, e_sle, e_sge, e_shl1, e_orI, e_andI, e_shr, wrapu, wrap8, tn1, nat1, ix_s, ix_z, st_s, st_z, fl_s, fl_z, fl1_s, fl1_z, map_s, map_z, true_and]
  refine br_if (fun h9 => ?_) (fun h9 => ?_)
  · have hl : labC k c L = (allB (labS L) L.length && decide (c = (L.length : Int) + 1)) := by subst h9; rfl
    rw [hl]
    simp (disch := first | omega | (simp only [List.length_take, List.length_drop, List.length_append, List.map_cons, List.map_nil, List.length_map, List.length_cons, List.length_nil, List.length_set, List.length_replicate]; omega) | (simp only [List.length_cons, List.length_nil, Nat.zero_add, Nat.reduceAdd])) only [go_sem, ↓reduceIte, Nat.reduceAdd, Int.reduceNeg, Int.reduceAdd, Int.reduceSub, Int.reduceMul, Int.reduceLT, Int.reduceLE, Int.reduceEq, Int.reduceToNat, Nat.reduceBEq, e_sle, e_sge, e_shl1, e_orI, e_andI, e_shr, wrapu, wrap8, tn1, nat1, ix_s, ix_z, st_s, st_z, fl_s, fl_z, fl1_s, fl1_z, map_s, map_z, true_and]
    refine lp (fun i : Nat => [.sc (.int .i64 i)]) (fun i => i ≤ L.length ∧ allB (labS L) i = true) (fun i => L.length - i) 0 rfl ⟨by omega, rfl⟩ ?_
    rintro i ⟨hi, hb⟩
    simp only [u_spec_l16Shape_l2]
    by_cases hlt : i < L.length
    · repeat' (first | (with_reducible refine jn_in ?_) | (with_reducible refine cl_ok (by assumption) rfl ?_) | (with_reducible refine cl_okP (by assumption) rfl ?_) | (with_reducible refine br_if (fun hbr => ?_) (fun hbr => ?_)) | (with_reducible refine br_ifn (fun hbr => ?_) (fun hbr => ?_)) | (with_reducible refine br_nb (fun hbr => ?_) (fun hbr => ?_)) | (with_reducible refine br_b (fun hbr => ?_) (fun hbr => ?_)) | simp (disch := first | omega | (simp only [List.length_take, List.length_drop, List.length_append, List.map_cons, List.map_nil, List.length_map, List.length_cons, List.length_nil, List.length_set, List.length_replicate]; omega) | (simp only [List.length_cons, List.length_nil, Nat.zero_add, Nat.reduceAdd])) only [go_sem, ↓reduceIte, Nat.reduceAdd, Int.reduceNeg, Int.reduceAdd, Int.reduceSub, Int.reduceMul, Int.reduceLT, Int.reduceLE, Int.reduceEq, Int.reduceToNat, Nat.reduceBEq, e_sle, e_sge, e_shl1, e_orI, e_andI, e_shr, wrapu, wrap8, tn1, nat1, ix_s, ix_z, st_s, st_z, fl_s, fl_z, fl1_s, fl1_z, map_s, map_z, true_and])
      all_goals first
        | omega
        | exact ret_b (by rw [allB_no hlt (by (first | (simp [-List.getD_eq_getElem?_getD, labS, *]; done) | (simp_all [-List.getD_eq_getElem?_getD, labS]; done) | (simp [-List.getD_eq_getElem?_getD, labS, *]; omega) | (simp_all [-List.getD_eq_getElem?_getD, labS]; omega) | omega)), Bool.false_and])
        | exact ret_b (by rw [decide_eq_false (p := c = ((L.length + 1 : Nat) : Int)) (by omega), Bool.and_false])
        | exact ⟨i + 1, rfl, ⟨by omega, allB_step hb (by (first | (simp [-List.getD_eq_getElem?_getD, labS, *]; done) | (simp_all [-List.getD_eq_getElem?_getD, labS]; done) | (simp [-List.getD_eq_getElem?_getD, labS, *]; omega) | (simp_all [-List.getD_eq_getElem?_getD, labS]; omega) | omega))⟩, by omega⟩
        | skip
    · obtain rfl : i = L.length := by omega
      repeat' (first | (with_reducible refine jn_in ?_) | (with_reducible refine cl_ok (by assumption) rfl ?_) | (with_reducible refine cl_okP (by assumption) rfl ?_) | (with_reducible refine br_if (fun hbr => ?_) (fun hbr => ?_)) | (with_reducible refine br_ifn (fun hbr => ?_) (fun hbr => ?_)) | (with_reducible refine br_nb (fun hbr => ?_) (fun hbr => ?_)) | (with_reducible refine br_b (fun hbr => ?_) (fun hbr => ?_)) | simp (disch := first | omega | (simp only [List.length_take, List.length_drop, List.length_append, List.map_cons, List.map_nil, List.length_map, List.length_cons, List.length_nil, List.length_set, List.length_replicate]; omega) | (simp only [List.length_cons, List.length_nil, Nat.zero_add, Nat.reduceAdd])) only [go_sem, ↓reduceIte, Nat.reduceAdd, Int.reduceNeg, Int.reduceAdd, Int.reduceSub, Int.reduceMul, Int.reduceLT, Int.reduceLE, Int.reduceEq, Int.reduceToNat, Nat.reduceBEq, e_sle, e_sge, e_shl1, e_orI, e_andI, e_shr, wrapu, wrap8, tn1, nat1, ix_s, ix_z, st_s, st_z, fl_s, fl_z, fl1_s, fl1_z, map_s, map_z, true_and])
      all_goals first | omega | exact ret_b (by rw [hb, Bool.true_and]) | skip
  have hl : labC k c L = (if k = 16 then decide (L.length = 0) && decide (2 ≤ c ∧ c ≤ 3)
      else if k = 26 then decide (L.length = 1) && decide (1 ≤ ((L.getD 0 default).size : Int) ∧ ((L.getD 0 default).size : Int) ≤ 60)
      else if k = 27 then decide (L.length = 1) && (nameB (L.getD 0 default) && nameB (L.getD 0 default ++ ⟨#[60, 45]⟩)) else decide (L.length = 0)) := by unfold labC; rw [if_neg h8, if_neg h9]
  rw [hl]
  simp (disch := first | omega | (simp only [List.length_take, List.length_drop, List.length_append, List.map_cons, List.map_nil, List.length_map, List.length_cons, List.length_nil, List.length_set, List.length_replicate]; omega) | (simp only [List.length_cons, List.length_nil, Nat.zero_add, Nat.reduceAdd])) only [go_sem, ↓reduceIte, Nat.reduceAdd, Int.reduceNeg, Int.reduceAdd, Int.reduceSub, Int.reduceMul, Int.reduceLT, Int.reduceLE, Int.reduceEq, Int.reduceToNat, Nat.reduceBEq, e_sle, e_sge, e_shl1, e_orI, e_andI, e_shr, wrapu, wrap8, tn1, nat1, ix_s, ix_z, st_s, st_z, fl_s, fl_z, fl1_s, fl1_z, map_s, map_z, true_and]
  refine br_if (fun h16 => ?_) (fun h16 => ?_)
  · rw [if_pos h16]
    repeat' (first | (with_reducible refine jn_in ?_) | (with_reducible refine cl_ok (by assumption) rfl ?_) | (with_reducible refine cl_okP (by assumption) rfl ?_) | (with_reducible refine br_if (fun hbr => ?_) (fun hbr => ?_)) | (with_reducible refine br_ifn (fun hbr => ?_) (fun hbr => ?_)) | (with_reducible refine br_nb (fun hbr => ?_) (fun hbr => ?_)) | (with_reducible refine br_b (fun hbr => ?_) (fun hbr => ?_)) | simp (disch := first | omega | (simp only [List.length_take, List.length_drop, List.length_append, List.map_cons, List.map_nil, List.length_map, List.length_cons, List.length_nil, List.length_set, List.length_replicate]; omega) | (simp only [List.length_cons, List.length_nil, Nat.zero_add, Nat.reduceAdd])) only [go_sem, ↓reduceIte, Nat.reduceAdd, Int.reduceNeg, Int.reduceAdd, Int.reduceSub, Int.reduceMul, Int.reduceLT, Int.reduceLE, Int.reduceEq, Int.reduceToNat, Nat.reduceBEq, e_sle, e_sge, e_shl1, e_orI, e_andI, e_shr, wrapu, wrap8, tn1, nat1, ix_s, ix_z, st_s, st_z, fl_s, fl_z, fl1_s, fl1_z, map_s, map_z, true_and])
    all_goals first
      | omega
      | exact ret_b (by rw [decide_eq_true (p := L.length = 0) (by omega), Bool.true_and])
      | exact ret_b (by rw [decide_eq_false (p := L.length = 0) (by omega), Bool.false_and])
      | skip
  rw [if_neg h16]
  simp (disch := first | omega | (simp only [List.length_take, List.length_drop, List.length_append, List.map_cons, List.map_nil, List.length_map, List.length_cons, List.length_nil, List.length_set, List.length_replicate]; omega) | (simp only [List.length_cons, List.length_nil, Nat.zero_add, Nat.reduceAdd])) only [go_sem, ↓reduceIte, Nat.reduceAdd, Int.reduceNeg, Int.reduceAdd, Int.reduceSub, Int.reduceMul, Int.reduceLT, Int.reduceLE, Int.reduceEq, Int.reduceToNat, Nat.reduceBEq, e_sle, e_sge, e_shl1, e_orI, e_andI, e_shr, wrapu, wrap8, tn1, nat1, ix_s, ix_z, st_s, st_z, fl_s, fl_z, fl1_s, fl1_z, map_s, map_z, true_and]
  refine br_if (fun h26 => ?_) (fun h26 => ?_)
  · rw [if_pos h26]
    repeat' (first | (with_reducible refine jn_in ?_) | (with_reducible refine cl_ok (by assumption) rfl ?_) | (with_reducible refine cl_okP (by assumption) rfl ?_) | (with_reducible refine br_if (fun hbr => ?_) (fun hbr => ?_)) | (with_reducible refine br_ifn (fun hbr => ?_) (fun hbr => ?_)) | (with_reducible refine br_nb (fun hbr => ?_) (fun hbr => ?_)) | (with_reducible refine br_b (fun hbr => ?_) (fun hbr => ?_)) | simp (disch := first | omega | (simp only [List.length_take, List.length_drop, List.length_append, List.map_cons, List.map_nil, List.length_map, List.length_cons, List.length_nil, List.length_set, List.length_replicate]; omega) | (simp only [List.length_cons, List.length_nil, Nat.zero_add, Nat.reduceAdd])) only [go_sem, ↓reduceIte, Nat.reduceAdd, Int.reduceNeg, Int.reduceAdd, Int.reduceSub, Int.reduceMul, Int.reduceLT, Int.reduceLE, Int.reduceEq, Int.reduceToNat, Nat.reduceBEq, e_sle, e_sge, e_shl1, e_orI, e_andI, e_shr, wrapu, wrap8, tn1, nat1, ix_s, ix_z, st_s, st_z, fl_s, fl_z, fl1_s, fl1_z, map_s, map_z, Int.toNat_zero])
    all_goals first
      | omega
      | exact ret_b (by rw [decide_eq_true (p := L.length = 1) (by omega), Bool.true_and])
      | exact ret_b (by rw [decide_eq_false (p := L.length = 1) (by omega), Bool.false_and])
      | skip
  rw [if_neg h26]
  simp (disch := first | omega | (simp only [List.length_take, List.length_drop, List.length_append, List.map_cons, List.map_nil, List.length_map, List.length_cons, List.length_nil, List.length_set, List.length_replicate]; omega) | (simp only [List.length_cons, List.length_nil, Nat.zero_add, Nat.reduceAdd])) only [go_sem, ↓reduceIte, Nat.reduceAdd, Int.reduceNeg, Int.reduceAdd, Int.reduceSub, Int.reduceMul, Int.reduceLT, Int.reduceLE, Int.reduceEq, Int.reduceToNat, Nat.reduceBEq, e_sle, e_sge, e_shl1, e_orI, e_andI, e_shr, wrapu, wrap8, tn1, nat1, ix_s, ix_z, st_s, st_z, fl_s, fl_z, fl1_s, fl1_z, map_s, map_z, true_and]
  refine br_if (fun h27 => ?_) (fun h27 => ?_)
  · rw [if_pos h27]
    have hN0 := hN 0
    have h0s := getD_le hs 0
    have e1 : (L.getD 0 default).size + (⟨#[60, 45]⟩ : ByteArray).size ≤ maxLen := by show _ + 2 ≤ _; unfold maxLen; omega
    repeat' (first | (with_reducible refine jn_in ?_) | (with_reducible refine cl_ok (by assumption) rfl ?_) | (with_reducible refine cl_okP (by assumption) rfl ?_) | (with_reducible refine br_if (fun hbr => ?_) (fun hbr => ?_)) | (with_reducible refine br_ifn (fun hbr => ?_) (fun hbr => ?_)) | (with_reducible refine br_nb (fun hbr => ?_) (fun hbr => ?_)) | (with_reducible refine br_b (fun hbr => ?_) (fun hbr => ?_)) | simp (disch := first | omega | (simp only [List.length_take, List.length_drop, List.length_append, List.map_cons, List.map_nil, List.length_map, List.length_cons, List.length_nil, List.length_set, List.length_replicate]; omega) | (simp only [List.length_cons, List.length_nil, Nat.zero_add, Nat.reduceAdd])) only [go_sem, ↓reduceIte, Nat.reduceAdd, Int.reduceNeg, Int.reduceAdd, Int.reduceSub, Int.reduceMul, Int.reduceLT, Int.reduceLE, Int.reduceEq, Int.reduceToNat, Nat.reduceBEq, e_sle, e_sge, e_shl1, e_orI, e_andI, e_shr, wrapu, wrap8, tn1, nat1, ix_s, ix_z, st_s, st_z, fl_s, fl_z, fl1_s, fl1_z, map_s, map_z, Int.toNat_zero, e_cat e1])
    all_goals first
      | omega
      | exact ret_b (by rw [decide_eq_false (by omega), Bool.false_and])
      | exact ret_b (by rw [decide_eq_true (by omega), Bool.true_and]; simp [-List.getD_eq_getElem?_getD, *]; done)
      | skip
  rw [if_neg h27]
  repeat' (first | (with_reducible refine jn_in ?_) | (with_reducible refine cl_ok (by assumption) rfl ?_) | (with_reducible refine cl_okP (by assumption) rfl ?_) | (with_reducible refine br_if (fun hbr => ?_) (fun hbr => ?_)) | (with_reducible refine br_ifn (fun hbr => ?_) (fun hbr => ?_)) | (with_reducible refine br_nb (fun hbr => ?_) (fun hbr => ?_)) | (with_reducible refine br_b (fun hbr => ?_) (fun hbr => ?_)) | simp (disch := first | omega | (simp only [List.length_take, List.length_drop, List.length_append, List.map_cons, List.map_nil, List.length_map, List.length_cons, List.length_nil, List.length_set, List.length_replicate]; omega) | (simp only [List.length_cons, List.length_nil, Nat.zero_add, Nat.reduceAdd])) only [go_sem, ↓reduceIte, Nat.reduceAdd, Int.reduceNeg, Int.reduceAdd, Int.reduceSub, Int.reduceMul, Int.reduceLT, Int.reduceLE, Int.reduceEq, Int.reduceToNat, Nat.reduceBEq, e_sle, e_sge, e_shl1, e_orI, e_andI, e_shr, wrapu, wrap8, tn1, nat1, ix_s, ix_z, st_s, st_z, fl_s, fl_z, fl1_s, fl1_z, map_s, map_z, true_and])
  exact ret_b (by rw [decide_eq_decide]; omega)
end Go.Proofs.Ytbikbjgbpeipmaa
