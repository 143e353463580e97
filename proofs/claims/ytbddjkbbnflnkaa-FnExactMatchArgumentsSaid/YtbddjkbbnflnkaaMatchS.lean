/- spec.MatchArguments. -/
import Derived.Test.YtbddjkbbnflnkaaUMatchS
import Derived.Test.YtbddjkbbnflnkaaMatch
namespace Go.Proofs.Ytbddjkbbnflnkaa
open Go.RowKit
set_option linter.unusedVariables false
set_option linter.unusedSimpArgs false
set_option maxRecDepth 100000

def resM (x : List Int × List Int × ByteArray) : List Rs := [(false, [encZs x.1], true), (false, [encZs x.2.1], true), (false, [.sc (.string x.2.2)], true)]
theorem matchA_e0 {F L : List ByteArray} {i : Nat} (h : i < F.length) (hv : vF F i = false) : matchA F L = ([], [], e0S) := by
  unfold matchA; rw [allB_no h hv]; rfl
theorem M1_inl {F L : List ByteArray} {e : ByteArray} {a b : Nat} (h : M1 F L a = .inl e) (hb : a ≤ b) : M1 F L b = .inl e := itS_inl (step := step1 F L (dI F F.length)) h hb
theorem M2_inl {F L : List ByteArray} {ex : List Int} {e : ByteArray} {a b : Nat} (h : M2 F L ex a = .inl e) (hb : a ≤ b) : M2 F L ex b = .inl e := itS_inl (step := step2 F L (dI F F.length) ex) h hb
theorem M3_inl {F L : List ByteArray} {mt : List Int} {e : ByteArray} {a b : Nat} (h : M3 F L mt a = .inl e) (hb : a ≤ b) : M3 F L mt b = .inl e := itS_inl (step := step3 L F.length (dI F F.length)) h hb
theorem dI_le (F : List ByteArray) : ∀ i, i ≤ F.length → dI F i ≤ F.length
  | 0, _ => Nat.le_refl _
  | i + 1, h => by
    have := dI_le F i (by omega)
    unfold dI; split <;> omega
theorem cC_mono {F : List ByteArray} {s : ByteArray} {ex : List Int} {i : Nat} : ∀ {D}, i ≤ D → (cC F s ex i).1 ≤ (cC F s ex D).1
  | 0, h => by obtain rfl : i = 0 := by omega
               exact Nat.le_refl _
  | D + 1, h => by
    rcases Nat.lt_or_ge i (D + 1) with h1 | h1
    · have := cC_mono (F := F) (s := s) (ex := ex) (i := i) (D := D) (by omega)
      conv => rhs; unfold cC
      split
      · simp only; omega
      · exact this
    · obtain rfl : i = D + 1 := by omega
      exact Nat.le_refl _
theorem cC_at {F : List ByteArray} {s : ByteArray} {ex : List Int} : ∀ i, ((cC F s ex i).1 = 0 ∧ (cC F s ex i).2 = -1) ∨ (0 < (cC F s ex i).1 ∧ 0 ≤ (cC F s ex i).2 ∧ (cC F s ex i).2 < i)
  | 0 => .inl ⟨rfl, rfl⟩
  | i + 1 => by
    have := cC_at (F := F) (s := s) (ex := ex) i
    unfold cC
    split
    · right; simp only; omega
    · omega
theorem getD_set_ne {α : Type} {l : List α} {i k : Nat} {x d : α} (h : k ≠ i) : (l.set i x).getD k d = l.getD k d := by
  rw [List.getD_eq_getElem?_getD, List.getElem?_set, if_neg (fun e => h e.symm), List.getD_eq_getElem?_getD]
theorem rep_z (n : Nat) : (List.replicate n (-1 : Int)).map encZ ++ [[.sc (.int .i64 (-1))]] = (List.replicate (n + 1) (-1 : Int)).map encZ := by
  rw [List.replicate_succ', List.map_append]; rfl
set_option maxHeartbeats 4000000 in
theorem specMatch_m (F L : List ByteArray) (hF : F.length ≤ 1048576) (hL : L.length ≤ 1048576) (sF : ∀ x ∈ F, x.size ≤ 1048576) (sL : ∀ x ∈ L, x.size ≤ 1048576) :
    Meets Try.prog 16 [(false, [encSs F]), (false, [encSs L])] (resM (matchA F L)) := by
  have hN := fun i => specName_m (F.getD i default) (by have := getD_le sF i; omega)
  have hK := fun s => l1Find_m 9 F s (by omega)
  refine meets_upf Try.func16 u_spec_MatchArguments_g rfl ?_; simp only [u_spec_MatchArguments_u]
  simp only [encSs]
  simp (disch := first | omega | (simp only [List.length_take, List.length_drop, List.length_append, List.map_cons, List.map_nil, List.length_map, List.length_cons, List.length_nil, List.length_set, List.length_replicate]; omega) | (simp only [List.length_cons, List.length_nil, Nat.zero_add, Nat.reduceAdd])) only [go_sem, ↓reduceIte, Nat.reduceAdd, Int.reduceNeg, Int.reduceAdd, Int.reduceSub, Int.reduceMul, Int.reduceLT, Int.reduceLE, Int.reduceEq, Int.reduceToNat, Nat.reduceBEq, e_sle, e_sge, e_shl1, e_orI, e_andI, e_shr, wrapu, wrap8, tn1, nat1, ix_s, ix_z, st_s, st_z, fl_s, fl_z, fl1_s, fl1_z, map_s, map_z, true_and]
  refine lp (fun i : Nat => [.sc (.int .i64 i), .sc (.int .i64 (dI F i : Nat)), .sl 3 1 ((List.replicate i (-1 : Int)).map encZ)]) (fun i => i ≤ F.length ∧ allB (vF F) i = true) (fun i => F.length - i) 0 rfl ⟨by omega, rfl⟩ ?_
  rintro i ⟨hi, hb⟩
  simp only [u_spec_MatchArguments_l12]
  by_cases hlt : i < F.length
  · have hNi := hN i
    have hKi := hK (F.getD i default)
    have hno := @matchA_e0 F L i hlt
    have hdI : dI F (i + 1) = if F.getD i default = dotS then i else dI F i := rfl
    repeat' (first | (with_reducible refine jn_in ?_) | (with_reducible refine cl_ok (by assumption) rfl ?_) | (with_reducible refine br_if (fun hbr => ?_) (fun hbr => ?_)) | (with_reducible refine br_ifn (fun hbr => ?_) (fun hbr => ?_)) | (with_reducible refine br_nb (fun hbr => ?_) (fun hbr => ?_)) | (with_reducible refine br_b (fun hbr => ?_) (fun hbr => ?_)) | simp (disch := first | omega | (simp only [List.length_take, List.length_drop, List.length_append, List.map_cons, List.map_nil, List.length_map, List.length_cons, List.length_nil, List.length_set, List.length_replicate]; omega) | (simp only [List.length_cons, List.length_nil, Nat.zero_add, Nat.reduceAdd])) only [go_sem, ↓reduceIte, Nat.reduceAdd, Int.reduceNeg, Int.reduceAdd, Int.reduceSub, Int.reduceMul, Int.reduceLT, Int.reduceLE, Int.reduceEq, Int.reduceToNat, Nat.reduceBEq, e_sle, e_sge, e_shl1, e_orI, e_andI, e_shr, wrapu, wrap8, tn1, nat1, ix_s, ix_z, st_s, st_z, fl_s, fl_z, fl1_s, fl1_z, map_s, map_z, List.length_replicate, rep_z, u_spec_MatchArguments_j0])
    all_goals first
      | omega
      | (rw [hno (by (first | (simp [-List.getD_eq_getElem?_getD, vF, *]; done) | (simp_all [-List.getD_eq_getElem?_getD, vF]; done) | (simp [-List.getD_eq_getElem?_getD, vF, *]; omega) | (simp_all [-List.getD_eq_getElem?_getD, vF]; omega) | omega))]; rfl)
      | exact ⟨i + 1, by rw [hdI, if_pos ‹_›, List.replicate_succ'], ⟨by omega, allB_step hb (by (first | (simp [-List.getD_eq_getElem?_getD, vF, *]; done) | (simp_all [-List.getD_eq_getElem?_getD, vF]; done) | (simp [-List.getD_eq_getElem?_getD, vF, *]; omega) | (simp_all [-List.getD_eq_getElem?_getD, vF]; omega) | omega))⟩, by omega⟩
      | exact ⟨i + 1, by rw [hdI, if_neg ‹_›, List.replicate_succ'], ⟨by omega, allB_step hb (by (first | (simp [-List.getD_eq_getElem?_getD, vF, *]; done) | (simp_all [-List.getD_eq_getElem?_getD, vF]; done) | (simp [-List.getD_eq_getElem?_getD, vF, *]; omega) | (simp_all [-List.getD_eq_getElem?_getD, vF]; omega) | omega))⟩, by omega⟩
      | skip
  obtain rfl : i = F.length := by omega
  have hMA : matchA F L = (match M1 F L L.length with
    | .inl e => ([], [], e)
    | .inr m1 => (match M2 F L m1 L.length with
      | .inl e => ([], [], e)
      | .inr m2 => outM (M3 F L m2 L.length))) := by unfold matchA; rw [if_pos hb]; rfl
  simp (disch := first | omega | (simp only [List.length_take, List.length_drop, List.length_append, List.map_cons, List.map_nil, List.length_map, List.length_cons, List.length_nil, List.length_set, List.length_replicate]; omega) | (simp only [List.length_cons, List.length_nil, Nat.zero_add, Nat.reduceAdd])) only [go_sem, ↓reduceIte, Nat.reduceAdd, Int.reduceNeg, Int.reduceAdd, Int.reduceSub, Int.reduceMul, Int.reduceLT, Int.reduceLE, Int.reduceEq, Int.reduceToNat, Nat.reduceBEq, e_sle, e_sge, e_shl1, e_orI, e_andI, e_shr, wrapu, wrap8, tn1, nat1, ix_s, ix_z, st_s, st_z, fl_s, fl_z, fl1_s, fl1_z, map_s, map_z, true_and]
  refine br_if (fun hbr => absurd hbr (by omega)) (fun hbr => ?_)
  simp (disch := first | omega | (simp only [List.length_take, List.length_drop, List.length_append, List.map_cons, List.map_nil, List.length_map, List.length_cons, List.length_nil, List.length_set, List.length_replicate]; omega) | (simp only [List.length_cons, List.length_nil, Nat.zero_add, Nat.reduceAdd])) only [go_sem, ↓reduceIte, Nat.reduceAdd, Int.reduceNeg, Int.reduceAdd, Int.reduceSub, Int.reduceMul, Int.reduceLT, Int.reduceLE, Int.reduceEq, Int.reduceToNat, Nat.reduceBEq, e_sle, e_sge, e_shl1, e_orI, e_andI, e_shr, wrapu, wrap8, tn1, nat1, ix_s, ix_z, st_s, st_z, fl_s, fl_z, fl1_s, fl1_z, map_s, map_z, true_and]
  refine lp (fun s : Nat × List Int => [.sc (.int .i64 (s.1 : Nat)), .sl 3 1 (s.2.map encZ)]) (fun s => s.1 ≤ L.length ∧ M1 F L s.1 = .inr s.2 ∧ s.2.length = F.length) (fun s => L.length - s.1) (0, List.replicate F.length (-1)) rfl ⟨by simp, rfl, by simp⟩ ?_
  rintro ⟨a, mt⟩ ⟨g1, g2, g3⟩
  simp only at g1 g2 g3 ⊢
  simp only [u_spec_MatchArguments_l11]
  by_cases hlt : a < L.length
  · have hKa := hK (L.getD a default)
    have hst : M1 F L (a + 1) = if find1 F (L.getD a default) < 0 ∨ find1 F (L.getD a default) = dI F F.length then .inr mt
        else if 0 ≤ mt.getD (find1 F (L.getD a default)).toNat default then .inl e1S else .inr (mt.set (find1 F (L.getD a default)).toNat a) := itS_step g2
    have hrng := find1_rng F (L.getD a default)
    generalize find1 F (L.getD a default) = k at *
    repeat' (first | (with_reducible refine jn_in ?_) | (with_reducible refine cl_ok (by assumption) rfl ?_) | (with_reducible refine br_if (fun hbr => ?_) (fun hbr => ?_)) | (with_reducible refine br_ifn (fun hbr => ?_) (fun hbr => ?_)) | (with_reducible refine br_nb (fun hbr => ?_) (fun hbr => ?_)) | (with_reducible refine br_b (fun hbr => ?_) (fun hbr => ?_)) | simp (disch := first | omega | (simp only [List.length_take, List.length_drop, List.length_append, List.map_cons, List.map_nil, List.length_map, List.length_cons, List.length_nil, List.length_set, List.length_replicate]; omega) | (simp only [List.length_cons, List.length_nil, Nat.zero_add, Nat.reduceAdd])) only [go_sem, ↓reduceIte, Nat.reduceAdd, Int.reduceNeg, Int.reduceAdd, Int.reduceSub, Int.reduceMul, Int.reduceLT, Int.reduceLE, Int.reduceEq, Int.reduceToNat, Nat.reduceBEq, e_sle, e_sge, e_shl1, e_orI, e_andI, e_shr, wrapu, wrap8, tn1, nat1, ix_s, ix_z, st_s, st_z, fl_s, fl_z, fl1_s, fl1_z, map_s, map_z, u_spec_MatchArguments_j1])
    all_goals first
      | omega
      | exact ⟨(a + 1, mt), rfl, ⟨by simp only; omega, by simp only; rw [hst, if_pos (Or.inl ‹_›)], g3⟩, by simp only; omega⟩
      | exact ⟨(a + 1, mt), rfl, ⟨by simp only; omega, by simp only; rw [hst, if_pos (Or.inr ‹_›)], g3⟩, by simp only; omega⟩
      | (rw [if_neg (by omega), if_pos ‹_›] at hst; rw [hMA, M1_inl hst hlt]; rfl)
      | exact ⟨(a + 1, mt.set k.toNat a), rfl, ⟨by simp only; omega, by simp only; rw [hst, if_neg (by omega), if_neg ‹_›], by simp only [List.length_set]; exact g3⟩, by simp only; omega⟩
      | skip
  obtain rfl : a = L.length := by omega
  rw [g2] at hMA
  simp only at hMA
  simp (disch := first | omega | (simp only [List.length_take, List.length_drop, List.length_append, List.map_cons, List.map_nil, List.length_map, List.length_cons, List.length_nil, List.length_set, List.length_replicate]; omega) | (simp only [List.length_cons, List.length_nil, Nat.zero_add, Nat.reduceAdd])) only [go_sem, ↓reduceIte, Nat.reduceAdd, Int.reduceNeg, Int.reduceAdd, Int.reduceSub, Int.reduceMul, Int.reduceLT, Int.reduceLE, Int.reduceEq, Int.reduceToNat, Nat.reduceBEq, e_sle, e_sge, e_shl1, e_orI, e_andI, e_shr, wrapu, wrap8, tn1, nat1, ix_s, ix_z, st_s, st_z, fl_s, fl_z, fl1_s, fl1_z, map_s, map_z, true_and]
  refine br_if (fun hbr => absurd hbr (by omega)) (fun hbr => ?_)
  simp (disch := first | omega | (simp only [List.length_take, List.length_drop, List.length_append, List.map_cons, List.map_nil, List.length_map, List.length_cons, List.length_nil, List.length_set, List.length_replicate]; omega) | (simp only [List.length_cons, List.length_nil, Nat.zero_add, Nat.reduceAdd])) only [go_sem, ↓reduceIte, Nat.reduceAdd, Int.reduceNeg, Int.reduceAdd, Int.reduceSub, Int.reduceMul, Int.reduceLT, Int.reduceLE, Int.reduceEq, Int.reduceToNat, Nat.reduceBEq, e_sle, e_sge, e_shl1, e_orI, e_andI, e_shr, wrapu, wrap8, tn1, nat1, ix_s, ix_z, st_s, st_z, fl_s, fl_z, fl1_s, fl1_z, map_s, map_z, true_and]
  have hD := dI_le F F.length (Nat.le_refl _)
  generalize hDD : dI F F.length = D at *
  refine lp (fun s : Nat × List Int => [.sc (.int .i64 (s.1 : Nat)), .sl 3 1 (s.2.map encZ)]) (fun s => s.1 ≤ L.length ∧ M2 F L mt s.1 = .inr s.2 ∧ s.2.length = F.length) (fun s => L.length - s.1) (0, mt) rfl ⟨by simp, rfl, g3⟩ ?_
  rintro ⟨a, m2⟩ ⟨p1, p2, p3⟩
  simp only at p1 p2 p3 ⊢
  simp only [u_spec_MatchArguments_l10]
  have hT := l25Taken_m 3 mt a (by omega)
  by_cases hlt : a < L.length
  · have hst : M2 F L mt (a + 1) = step2 F L (dI F F.length) mt a m2 := itS_step p2
    rw [hDD] at hst
    unfold step2 at hst
    have hsL := getD_le sL a
    simp (disch := first | omega | (simp only [List.length_take, List.length_drop, List.length_append, List.map_cons, List.map_nil, List.length_map, List.length_cons, List.length_nil, List.length_set, List.length_replicate]; omega) | (simp only [List.length_cons, List.length_nil, Nat.zero_add, Nat.reduceAdd])) only [go_sem, ↓reduceIte, Nat.reduceAdd, Int.reduceNeg, Int.reduceAdd, Int.reduceSub, Int.reduceMul, Int.reduceLT, Int.reduceLE, Int.reduceEq, Int.reduceToNat, Nat.reduceBEq, e_sle, e_sge, e_shl1, e_orI, e_andI, e_shr, wrapu, wrap8, tn1, nat1, ix_s, ix_z, st_s, st_z, fl_s, fl_z, fl1_s, fl1_z, map_s, map_z, true_and]
    refine br_if (fun hbr => ?_) (fun hbr => absurd hbr (by omega))
    simp (disch := first | omega | (simp only [List.length_take, List.length_drop, List.length_append, List.map_cons, List.map_nil, List.length_map, List.length_cons, List.length_nil, List.length_set, List.length_replicate]; omega) | (simp only [List.length_cons, List.length_nil, Nat.zero_add, Nat.reduceAdd])) only [go_sem, ↓reduceIte, Nat.reduceAdd, Int.reduceNeg, Int.reduceAdd, Int.reduceSub, Int.reduceMul, Int.reduceLT, Int.reduceLE, Int.reduceEq, Int.reduceToNat, Nat.reduceBEq, e_sle, e_sge, e_shl1, e_orI, e_andI, e_shr, wrapu, wrap8, tn1, nat1, ix_s, ix_z, st_s, st_z, fl_s, fl_z, fl1_s, fl1_z, map_s, map_z, true_and]
    refine jn_in ?_
    simp (disch := first | omega | (simp only [List.length_take, List.length_drop, List.length_append, List.map_cons, List.map_nil, List.length_map, List.length_cons, List.length_nil, List.length_set, List.length_replicate]; omega) | (simp only [List.length_cons, List.length_nil, Nat.zero_add, Nat.reduceAdd])) only [go_sem, ↓reduceIte, Nat.reduceAdd, Int.reduceNeg, Int.reduceAdd, Int.reduceSub, Int.reduceMul, Int.reduceLT, Int.reduceLE, Int.reduceEq, Int.reduceToNat, Nat.reduceBEq, e_sle, e_sge, e_shl1, e_orI, e_andI, e_shr, wrapu, wrap8, tn1, nat1, ix_s, ix_z, st_s, st_z, fl_s, fl_z, fl1_s, fl1_z, map_s, map_z, true_and]
    refine br_if (fun hE => ?_) (fun hE => ?_)
    · repeat' (first | (with_reducible refine jn_in ?_) | (with_reducible refine cl_ok (by assumption) rfl ?_) | (with_reducible refine br_if (fun hbr => ?_) (fun hbr => ?_)) | (with_reducible refine br_ifn (fun hbr => ?_) (fun hbr => ?_)) | (with_reducible refine br_nb (fun hbr => ?_) (fun hbr => ?_)) | (with_reducible refine br_b (fun hbr => ?_) (fun hbr => ?_)) | simp (disch := first | omega | (simp only [List.length_take, List.length_drop, List.length_append, List.map_cons, List.map_nil, List.length_map, List.length_cons, List.length_nil, List.length_set, List.length_replicate]; omega) | (simp only [List.length_cons, List.length_nil, Nat.zero_add, Nat.reduceAdd])) only [go_sem, ↓reduceIte, Nat.reduceAdd, Int.reduceNeg, Int.reduceAdd, Int.reduceSub, Int.reduceMul, Int.reduceLT, Int.reduceLE, Int.reduceEq, Int.reduceToNat, Nat.reduceBEq, e_sle, e_sge, e_shl1, e_orI, e_andI, e_shr, wrapu, wrap8, tn1, nat1, ix_s, ix_z, st_s, st_z, fl_s, fl_z, fl1_s, fl1_z, map_s, map_z, u_spec_MatchArguments_j5])
      exact ⟨(a + 1, m2), rfl, ⟨by simp only; omega, by simp only; rw [hst, if_pos (Or.inl hE)], p3⟩, by simp only; omega⟩
    simp (disch := first | omega | (simp only [List.length_take, List.length_drop, List.length_append, List.map_cons, List.map_nil, List.length_map, List.length_cons, List.length_nil, List.length_set, List.length_replicate]; omega) | (simp only [List.length_cons, List.length_nil, Nat.zero_add, Nat.reduceAdd])) only [go_sem, ↓reduceIte, Nat.reduceAdd, Int.reduceNeg, Int.reduceAdd, Int.reduceSub, Int.reduceMul, Int.reduceLT, Int.reduceLE, Int.reduceEq, Int.reduceToNat, Nat.reduceBEq, e_sle, e_sge, e_shl1, e_orI, e_andI, e_shr, wrapu, wrap8, tn1, nat1, ix_s, ix_z, st_s, st_z, fl_s, fl_z, fl1_s, fl1_z, map_s, map_z, true_and]
    refine cl_ok hT rfl ?_
    by_cases hm : (a : Int) ∈ mt
    · repeat' (first | (with_reducible refine jn_in ?_) | (with_reducible refine cl_ok (by assumption) rfl ?_) | (with_reducible refine br_if (fun hbr => ?_) (fun hbr => ?_)) | (with_reducible refine br_ifn (fun hbr => ?_) (fun hbr => ?_)) | (with_reducible refine br_nb (fun hbr => ?_) (fun hbr => ?_)) | (with_reducible refine br_b (fun hbr => ?_) (fun hbr => ?_)) | simp (disch := first | omega | (simp only [List.length_take, List.length_drop, List.length_append, List.map_cons, List.map_nil, List.length_map, List.length_cons, List.length_nil, List.length_set, List.length_replicate]; omega) | (simp only [List.length_cons, List.length_nil, Nat.zero_add, Nat.reduceAdd])) only [go_sem, ↓reduceIte, Nat.reduceAdd, Int.reduceNeg, Int.reduceAdd, Int.reduceSub, Int.reduceMul, Int.reduceLT, Int.reduceLE, Int.reduceEq, Int.reduceToNat, Nat.reduceBEq, e_sle, e_sge, e_shl1, e_orI, e_andI, e_shr, wrapu, wrap8, tn1, nat1, ix_s, ix_z, st_s, st_z, fl_s, fl_z, fl1_s, fl1_z, map_s, map_z, hm, u_spec_MatchArguments_j5])
      exact ⟨(a + 1, m2), rfl, ⟨by simp only; omega, by simp only; rw [hst, if_pos (Or.inr hm)], p3⟩, by simp only; omega⟩
    rw [if_neg (by rintro (h | h); exact hE h; exact hm h)] at hst
    simp (disch := first | omega | (simp only [List.length_take, List.length_drop, List.length_append, List.map_cons, List.map_nil, List.length_map, List.length_cons, List.length_nil, List.length_set, List.length_replicate]; omega) | (simp only [List.length_cons, List.length_nil, Nat.zero_add, Nat.reduceAdd])) only [go_sem, ↓reduceIte, Nat.reduceAdd, Int.reduceNeg, Int.reduceAdd, Int.reduceSub, Int.reduceMul, Int.reduceLT, Int.reduceLE, Int.reduceEq, Int.reduceToNat, Nat.reduceBEq, e_sle, e_sge, e_shl1, e_orI, e_andI, e_shr, wrapu, wrap8, tn1, nat1, ix_s, ix_z, st_s, st_z, fl_s, fl_z, fl1_s, fl1_z, map_s, map_z, hm]
    generalize hs : L.getD a default = s at *
    refine lp (fun i : Nat => [.sc (.int .i64 i), .sc (.int .i64 (cC F s mt i).2)]) (fun i => i ≤ D ∧ (cC F s mt i).1 ≤ 1) (fun i => D - i) 0 rfl ⟨by omega, Nat.zero_le _⟩ ?_
    rintro i ⟨q1, q2⟩
    have hat := cC_at (F := F) (s := s) (ex := mt) i
    simp only [u_spec_MatchArguments_l4]
    by_cases hi2 : i < D
    · have hmono := cC_mono (F := F) (s := s) (ex := mt) (show i + 1 ≤ D from hi2)
      have hsF := getD_le sF i
      have hc : cC F s mt (i + 1) = if cP F s mt i = true then ((cC F s mt i).1 + 1, (i : Int)) else cC F s mt i := rfl
      unfold cP at hc
      have yes : mt.getD i default < 0 → (s.size : Int) < (F.getD i default).size → (F.getD i default).extract 0 s.size = s → cC F s mt (i + 1) = ((cC F s mt i).1 + 1, (i : Int)) := by
        intro x1 x2 x3
        rw [hc, if_pos]; simp only [Bool.and_eq_true, decide_eq_true_eq]; exact ⟨x1, by omega, x3⟩
      have no : ¬ (mt.getD i default < 0 ∧ (s.size : Int) < (F.getD i default).size ∧ (F.getD i default).extract 0 s.size = s) → cC F s mt (i + 1) = cC F s mt i := by
        intro x1
        rw [hc, if_neg]; simp only [Bool.and_eq_true, decide_eq_true_eq]; exact fun h => x1 ⟨h.1, by omega, h.2.2⟩
      repeat' (first | (with_reducible refine jn_in ?_) | (with_reducible refine cl_ok (by assumption) rfl ?_) | (with_reducible refine br_if (fun hbr => ?_) (fun hbr => ?_)) | (with_reducible refine br_ifn (fun hbr => ?_) (fun hbr => ?_)) | (with_reducible refine br_nb (fun hbr => ?_) (fun hbr => ?_)) | (with_reducible refine br_b (fun hbr => ?_) (fun hbr => ?_)) | simp (disch := first | omega | (simp only [List.length_take, List.length_drop, List.length_append, List.map_cons, List.map_nil, List.length_map, List.length_cons, List.length_nil, List.length_set, List.length_replicate]; omega) | (simp only [List.length_cons, List.length_nil, Nat.zero_add, Nat.reduceAdd])) only [go_sem, ↓reduceIte, Nat.reduceAdd, Int.reduceNeg, Int.reduceAdd, Int.reduceSub, Int.reduceMul, Int.reduceLT, Int.reduceLE, Int.reduceEq, Int.reduceToNat, Nat.reduceBEq, e_sle, e_sge, e_shl1, e_orI, e_andI, e_shr, wrapu, wrap8, tn1, nat1, ix_s, ix_z, st_s, st_z, fl_s, fl_z, fl1_s, fl1_z, map_s, map_z, hs, u_spec_MatchArguments_j2, u_spec_MatchArguments_j3])
      all_goals first
        | omega
        | (have hy := yes ‹_› ‹_› ‹_›; rw [hy] at hmono; simp only at hmono; rw [if_pos (by omega)] at hst; rw [hMA, M2_inl hst hlt]; rfl)
        | exact ⟨i + 1, by rw [yes ‹_› ‹_› ‹_›], ⟨hi2, by rw [yes ‹_› ‹_› ‹_›]; simp only; omega⟩, by omega⟩
        | exact ⟨i + 1, by rw [no (fun h => by first | exact absurd h.1 ‹_› | exact absurd h.2.1 ‹_› | exact absurd h.2.2 ‹_›)], ⟨hi2, by rw [no (fun h => by first | exact absurd h.1 ‹_› | exact absurd h.2.1 ‹_› | exact absurd h.2.2 ‹_›)]; exact q2⟩, by omega⟩
        | skip
    · obtain rfl : i = D := by omega
      rw [if_neg (by omega)] at hst
      have hset : (m2.set (cC F s mt i).2.toNat a).length = F.length := by rw [List.length_set]; exact p3
      repeat' (first | (with_reducible refine jn_in ?_) | (with_reducible refine cl_ok (by assumption) rfl ?_) | (with_reducible refine br_if (fun hbr => ?_) (fun hbr => ?_)) | (with_reducible refine br_ifn (fun hbr => ?_) (fun hbr => ?_)) | (with_reducible refine br_nb (fun hbr => ?_) (fun hbr => ?_)) | (with_reducible refine br_b (fun hbr => ?_) (fun hbr => ?_)) | simp (disch := first | omega | (simp only [List.length_take, List.length_drop, List.length_append, List.map_cons, List.map_nil, List.length_map, List.length_cons, List.length_nil, List.length_set, List.length_replicate]; omega) | (simp only [List.length_cons, List.length_nil, Nat.zero_add, Nat.reduceAdd])) only [go_sem, ↓reduceIte, Nat.reduceAdd, Int.reduceNeg, Int.reduceAdd, Int.reduceSub, Int.reduceMul, Int.reduceLT, Int.reduceLE, Int.reduceEq, Int.reduceToNat, Nat.reduceBEq, e_sle, e_sge, e_shl1, e_orI, e_andI, e_shr, wrapu, wrap8, tn1, nat1, ix_s, ix_z, st_s, st_z, fl_s, fl_z, fl1_s, fl1_z, map_s, map_z, hs, u_spec_MatchArguments_j5])
      all_goals first
        | omega
        | (rw [if_neg (by omega), if_pos ‹_›] at hst; rw [hMA, M2_inl hst hlt]; rfl)
        | exact ⟨(a + 1, m2), rfl, ⟨by simp only; omega, by simp only; rw [hst, if_pos (by omega)], p3⟩, by simp only; omega⟩
        | exact ⟨(a + 1, m2.set (cC F s mt i).2.toNat a), rfl, ⟨by simp only; omega, by simp only; rw [hst, if_neg (by omega), if_neg ‹_›], hset⟩, by simp only; omega⟩
        | skip
  obtain rfl : a = L.length := by omega
  rw [p2] at hMA
  simp only at hMA
  simp (disch := first | omega | (simp only [List.length_take, List.length_drop, List.length_append, List.map_cons, List.map_nil, List.length_map, List.length_cons, List.length_nil, List.length_set, List.length_replicate]; omega) | (simp only [List.length_cons, List.length_nil, Nat.zero_add, Nat.reduceAdd])) only [go_sem, ↓reduceIte, Nat.reduceAdd, Int.reduceNeg, Int.reduceAdd, Int.reduceSub, Int.reduceMul, Int.reduceLT, Int.reduceLE, Int.reduceEq, Int.reduceToNat, Nat.reduceBEq, e_sle, e_sge, e_shl1, e_orI, e_andI, e_shr, wrapu, wrap8, tn1, nat1, ix_s, ix_z, st_s, st_z, fl_s, fl_z, fl1_s, fl1_z, map_s, map_z, true_and]
  refine br_if (fun hbr => absurd hbr (by omega)) (fun hbr => ?_)
  simp (disch := first | omega | (simp only [List.length_take, List.length_drop, List.length_append, List.map_cons, List.map_nil, List.length_map, List.length_cons, List.length_nil, List.length_set, List.length_replicate]; omega) | (simp only [List.length_cons, List.length_nil, Nat.zero_add, Nat.reduceAdd])) only [go_sem, ↓reduceIte, Nat.reduceAdd, Int.reduceNeg, Int.reduceAdd, Int.reduceSub, Int.reduceMul, Int.reduceLT, Int.reduceLE, Int.reduceEq, Int.reduceToNat, Nat.reduceBEq, e_sle, e_sge, e_shl1, e_orI, e_andI, e_shr, wrapu, wrap8, tn1, nat1, ix_s, ix_z, st_s, st_z, fl_s, fl_z, fl1_s, fl1_z, map_s, map_z, true_and]
  refine lp (fun s : Nat × Nat × List Int × List Int => [.sc (.int .i64 (s.1 : Nat)), .sc (.int .i64 (s.2.1 : Nat)), .sl 3 1 (s.2.2.1.map encZ), .sl 3 1 (s.2.2.2.map encZ)])
    (fun s => s.1 ≤ L.length ∧ M3 F L m2 s.1 = .inr (s.2.2.1, s.2.2.2) ∧ s.2.2.1.length = F.length ∧ s.2.2.2.length ≤ s.1 ∧ s.2.1 ≤ D ∧ ∀ j, j < s.2.1 → ¬ s.2.2.1.getD j default < 0) (fun s => L.length - s.1) (0, 0, m2, []) rfl ⟨by simp, rfl, p3, by simp, by simp, by simp⟩ ?_
  rintro ⟨a, x, m3, rs⟩ ⟨r1, r2, r3, r4, r5, r6⟩
  simp only at r1 r2 r3 r4 r5 r6 ⊢
  simp only [u_spec_MatchArguments_l9]
  have hT := l25Taken_m 3 m3 a (by omega)
  by_cases hlt : a < L.length
  · have hst : M3 F L m2 (a + 1) = step3 L F.length (dI F F.length) a (m3, rs) := itS_step r2
    rw [hDD] at hst
    unfold step3 at hst
    simp only at hst
    by_cases hm : (a : Int) ∈ m3
    · rw [if_pos hm] at hst
      repeat' (first | (with_reducible refine jn_in ?_) | (with_reducible refine cl_ok (by assumption) rfl ?_) | (with_reducible refine br_if (fun hbr => ?_) (fun hbr => ?_)) | (with_reducible refine br_ifn (fun hbr => ?_) (fun hbr => ?_)) | (with_reducible refine br_nb (fun hbr => ?_) (fun hbr => ?_)) | (with_reducible refine br_b (fun hbr => ?_) (fun hbr => ?_)) | simp (disch := first | omega | (simp only [List.length_take, List.length_drop, List.length_append, List.map_cons, List.map_nil, List.length_map, List.length_cons, List.length_nil, List.length_set, List.length_replicate]; omega) | (simp only [List.length_cons, List.length_nil, Nat.zero_add, Nat.reduceAdd])) only [go_sem, ↓reduceIte, Nat.reduceAdd, Int.reduceNeg, Int.reduceAdd, Int.reduceSub, Int.reduceMul, Int.reduceLT, Int.reduceLE, Int.reduceEq, Int.reduceToNat, Nat.reduceBEq, e_sle, e_sge, e_shl1, e_orI, e_andI, e_shr, wrapu, wrap8, tn1, nat1, ix_s, ix_z, st_s, st_z, fl_s, fl_z, fl1_s, fl1_z, map_s, map_z, hm, u_spec_MatchArguments_j8])
      all_goals first
        | omega
        | exact ⟨(a + 1, x, m3, rs), rfl, ⟨by simp only; omega, hst, r3, by simp only; omega, r5, r6⟩, by simp only; omega⟩
        | skip
    rw [if_neg hm] at hst
    simp (disch := first | omega | (simp only [List.length_take, List.length_drop, List.length_append, List.map_cons, List.map_nil, List.length_map, List.length_cons, List.length_nil, List.length_set, List.length_replicate]; omega) | (simp only [List.length_cons, List.length_nil, Nat.zero_add, Nat.reduceAdd])) only [go_sem, ↓reduceIte, Nat.reduceAdd, Int.reduceNeg, Int.reduceAdd, Int.reduceSub, Int.reduceMul, Int.reduceLT, Int.reduceLE, Int.reduceEq, Int.reduceToNat, Nat.reduceBEq, e_sle, e_sge, e_shl1, e_orI, e_andI, e_shr, wrapu, wrap8, tn1, nat1, ix_s, ix_z, st_s, st_z, fl_s, fl_z, fl1_s, fl1_z, map_s, map_z, true_and]
    refine br_if (fun hbr => ?_) (fun hbr => absurd hbr (by omega))
    simp (disch := first | omega | (simp only [List.length_take, List.length_drop, List.length_append, List.map_cons, List.map_nil, List.length_map, List.length_cons, List.length_nil, List.length_set, List.length_replicate]; omega) | (simp only [List.length_cons, List.length_nil, Nat.zero_add, Nat.reduceAdd])) only [go_sem, ↓reduceIte, Nat.reduceAdd, Int.reduceNeg, Int.reduceAdd, Int.reduceSub, Int.reduceMul, Int.reduceLT, Int.reduceLE, Int.reduceEq, Int.reduceToNat, Nat.reduceBEq, e_sle, e_sge, e_shl1, e_orI, e_andI, e_shr, wrapu, wrap8, tn1, nat1, ix_s, ix_z, st_s, st_z, fl_s, fl_z, fl1_s, fl1_z, map_s, map_z, true_and]
    refine jn_in ?_
    simp (disch := first | omega | (simp only [List.length_take, List.length_drop, List.length_append, List.map_cons, List.map_nil, List.length_map, List.length_cons, List.length_nil, List.length_set, List.length_replicate]; omega) | (simp only [List.length_cons, List.length_nil, Nat.zero_add, Nat.reduceAdd])) only [go_sem, ↓reduceIte, Nat.reduceAdd, Int.reduceNeg, Int.reduceAdd, Int.reduceSub, Int.reduceMul, Int.reduceLT, Int.reduceLE, Int.reduceEq, Int.reduceToNat, Nat.reduceBEq, e_sle, e_sge, e_shl1, e_orI, e_andI, e_shr, wrapu, wrap8, tn1, nat1, ix_s, ix_z, st_s, st_z, fl_s, fl_z, fl1_s, fl1_z, map_s, map_z, true_and]
    refine cl_ok hT rfl ?_
    simp (disch := first | omega | (simp only [List.length_take, List.length_drop, List.length_append, List.map_cons, List.map_nil, List.length_map, List.length_cons, List.length_nil, List.length_set, List.length_replicate]; omega) | (simp only [List.length_cons, List.length_nil, Nat.zero_add, Nat.reduceAdd])) only [go_sem, ↓reduceIte, Nat.reduceAdd, Int.reduceNeg, Int.reduceAdd, Int.reduceSub, Int.reduceMul, Int.reduceLT, Int.reduceLE, Int.reduceEq, Int.reduceToNat, Nat.reduceBEq, e_sle, e_sge, e_shl1, e_orI, e_andI, e_shr, wrapu, wrap8, tn1, nat1, ix_s, ix_z, st_s, st_z, fl_s, fl_z, fl1_s, fl1_z, map_s, map_z, hm]
    refine jn_in ?_
    simp (disch := first | omega | (simp only [List.length_take, List.length_drop, List.length_append, List.map_cons, List.map_nil, List.length_map, List.length_cons, List.length_nil, List.length_set, List.length_replicate]; omega) | (simp only [List.length_cons, List.length_nil, Nat.zero_add, Nat.reduceAdd])) only [go_sem, ↓reduceIte, Nat.reduceAdd, Int.reduceNeg, Int.reduceAdd, Int.reduceSub, Int.reduceMul, Int.reduceLT, Int.reduceLE, Int.reduceEq, Int.reduceToNat, Nat.reduceBEq, e_sle, e_sge, e_shl1, e_orI, e_andI, e_shr, wrapu, wrap8, tn1, nat1, ix_s, ix_z, st_s, st_z, fl_s, fl_z, fl1_s, fl1_z, map_s, map_z, true_and]
    refine lp (fun i : Nat => [.sc (.int .i64 i)]) (fun i => i ≤ D ∧ ∀ j, j < i → ¬ m3.getD j default < 0) (fun i => D - i) x rfl ⟨r5, r6⟩ ?_
    rintro y ⟨s1, s2⟩
    simp only [u_spec_MatchArguments_l6]
    have hsg : ∀ j, j < y → ¬ (m3.set y (a : Int)).getD j default < 0 := fun j hj => by
      rw [getD_set_ne (by omega)]; exact s2 j hj
    have hsl : (m3.set y (a : Int)).length = F.length := by rw [List.length_set]; exact r3
    by_cases hy : y < D
    · by_cases h7 : m3.getD y default < 0
      · have hnx : nx m3 D = y := nx_is (by omega) s2 (Or.inr h7)
        rw [hnx] at hst
        repeat' (first | (with_reducible refine jn_in ?_) | (with_reducible refine cl_ok (by assumption) rfl ?_) | (with_reducible refine br_if (fun hbr => ?_) (fun hbr => ?_)) | (with_reducible refine br_ifn (fun hbr => ?_) (fun hbr => ?_)) | (with_reducible refine br_nb (fun hbr => ?_) (fun hbr => ?_)) | (with_reducible refine br_b (fun hbr => ?_) (fun hbr => ?_)) | simp (disch := first | omega | (simp only [List.length_take, List.length_drop, List.length_append, List.map_cons, List.map_nil, List.length_map, List.length_cons, List.length_nil, List.length_set, List.length_replicate]; omega) | (simp only [List.length_cons, List.length_nil, Nat.zero_add, Nat.reduceAdd])) only [go_sem, ↓reduceIte, Nat.reduceAdd, Int.reduceNeg, Int.reduceAdd, Int.reduceSub, Int.reduceMul, Int.reduceLT, Int.reduceLE, Int.reduceEq, Int.reduceToNat, Nat.reduceBEq, e_sle, e_sge, e_shl1, e_orI, e_andI, e_shr, wrapu, wrap8, tn1, nat1, ix_s, ix_z, st_s, st_z, fl_s, fl_z, fl1_s, fl1_z, map_s, map_z, u_spec_MatchArguments_j7, u_spec_MatchArguments_j8])
        all_goals first
          | omega
          | (exfalso; omega)
          | exact ⟨(a + 1, y, m3.set y (a : Int), rs), rfl, ⟨by simp only; omega, by simp only; rw [hst, if_pos ⟨‹_›, hy⟩], hsl, by simp only; omega, by simp only; omega, hsg⟩, by simp only; omega⟩
          | exact ⟨(a + 1, y, m3, rs ++ [(a : Int)]), rfl, ⟨by simp only; omega, by simp only; rw [hst, if_neg (fun h => absurd h.1 ‹_›), if_pos (by omega)], r3, by simp only [List.length_append, List.length_singleton]; omega, by simp only; omega, s2⟩, by simp only; omega⟩
          | (rw [if_neg (fun h => absurd h.1 ‹_›), if_neg (by omega)] at hst; rw [hMA, M3_inl hst hlt]; rfl)
          | skip
      · repeat' (first | (with_reducible refine jn_in ?_) | (with_reducible refine cl_ok (by assumption) rfl ?_) | (with_reducible refine br_if (fun hbr => ?_) (fun hbr => ?_)) | (with_reducible refine br_ifn (fun hbr => ?_) (fun hbr => ?_)) | (with_reducible refine br_nb (fun hbr => ?_) (fun hbr => ?_)) | (with_reducible refine br_b (fun hbr => ?_) (fun hbr => ?_)) | simp (disch := first | omega | (simp only [List.length_take, List.length_drop, List.length_append, List.map_cons, List.map_nil, List.length_map, List.length_cons, List.length_nil, List.length_set, List.length_replicate]; omega) | (simp only [List.length_cons, List.length_nil, Nat.zero_add, Nat.reduceAdd])) only [go_sem, ↓reduceIte, Nat.reduceAdd, Int.reduceNeg, Int.reduceAdd, Int.reduceSub, Int.reduceMul, Int.reduceLT, Int.reduceLE, Int.reduceEq, Int.reduceToNat, Nat.reduceBEq, e_sle, e_sge, e_shl1, e_orI, e_andI, e_shr, wrapu, wrap8, tn1, nat1, ix_s, ix_z, st_s, st_z, fl_s, fl_z, fl1_s, fl1_z, map_s, map_z, u_spec_MatchArguments_j7, u_spec_MatchArguments_j8])
        all_goals first
          | omega
          | (exfalso; omega)
          | exact ⟨y + 1, rfl, ⟨by omega, fun j hj => by
              rcases Nat.lt_or_ge j y with h | h
              · exact s2 j h
              · obtain rfl : j = y := by omega
                exact h7⟩, by omega⟩
          | skip
    · obtain rfl : y = D := by omega
      have hnx : nx m3 y = y := nx_is (by omega) s2 (Or.inl rfl)
      rw [hnx, if_neg (fun h => absurd h.2 (by omega))] at hst
      repeat' (first | (with_reducible refine jn_in ?_) | (with_reducible refine cl_ok (by assumption) rfl ?_) | (with_reducible refine br_if (fun hbr => ?_) (fun hbr => ?_)) | (with_reducible refine br_ifn (fun hbr => ?_) (fun hbr => ?_)) | (with_reducible refine br_nb (fun hbr => ?_) (fun hbr => ?_)) | (with_reducible refine br_b (fun hbr => ?_) (fun hbr => ?_)) | simp (disch := first | omega | (simp only [List.length_take, List.length_drop, List.length_append, List.map_cons, List.map_nil, List.length_map, List.length_cons, List.length_nil, List.length_set, List.length_replicate]; omega) | (simp only [List.length_cons, List.length_nil, Nat.zero_add, Nat.reduceAdd])) only [go_sem, ↓reduceIte, Nat.reduceAdd, Int.reduceNeg, Int.reduceAdd, Int.reduceSub, Int.reduceMul, Int.reduceLT, Int.reduceLE, Int.reduceEq, Int.reduceToNat, Nat.reduceBEq, e_sle, e_sge, e_shl1, e_orI, e_andI, e_shr, wrapu, wrap8, tn1, nat1, ix_s, ix_z, st_s, st_z, fl_s, fl_z, fl1_s, fl1_z, map_s, map_z, u_spec_MatchArguments_j7, u_spec_MatchArguments_j8])
      all_goals first
        | omega
        | (exfalso; omega)
        | exact ⟨(a + 1, y, m3, rs ++ [(a : Int)]), rfl, ⟨by simp only; omega, by simp only; rw [hst, if_pos (by omega)], r3, by simp only [List.length_append, List.length_singleton]; omega, by simp only; omega, s2⟩, by simp only; omega⟩
        | (rw [if_neg (by omega)] at hst; rw [hMA, M3_inl hst hlt]; rfl)
        | skip
  · obtain rfl : a = L.length := by omega
    rw [r2] at hMA
    simp only [outM] at hMA
    rw [hMA]
    simp (disch := first | omega | (simp only [List.length_take, List.length_drop, List.length_append, List.map_cons, List.map_nil, List.length_map, List.length_cons, List.length_nil, List.length_set, List.length_replicate]; omega) | (simp only [List.length_cons, List.length_nil, Nat.zero_add, Nat.reduceAdd])) only [go_sem, ↓reduceIte, Nat.reduceAdd, Int.reduceNeg, Int.reduceAdd, Int.reduceSub, Int.reduceMul, Int.reduceLT, Int.reduceLE, Int.reduceEq, Int.reduceToNat, Nat.reduceBEq, e_sle, e_sge, e_shl1, e_orI, e_andI, e_shr, wrapu, wrap8, tn1, nat1, ix_s, ix_z, st_s, st_z, fl_s, fl_z, fl1_s, fl1_z, map_s, map_z, true_and]
    refine br_if (fun hbr => absurd hbr (by omega)) (fun hbr => ?_)
    simp (disch := first | omega | (simp only [List.length_take, List.length_drop, List.length_append, List.map_cons, List.map_nil, List.length_map, List.length_cons, List.length_nil, List.length_set, List.length_replicate]; omega) | (simp only [List.length_cons, List.length_nil, Nat.zero_add, Nat.reduceAdd])) only [go_sem, ↓reduceIte, Nat.reduceAdd, Int.reduceNeg, Int.reduceAdd, Int.reduceSub, Int.reduceMul, Int.reduceLT, Int.reduceLE, Int.reduceEq, Int.reduceToNat, Nat.reduceBEq, e_sle, e_sge, e_shl1, e_orI, e_andI, e_shr, wrapu, wrap8, tn1, nat1, ix_s, ix_z, st_s, st_z, fl_s, fl_z, fl1_s, fl1_z, map_s, map_z, true_and]
    rfl
end Go.Proofs.Ytbddjkbbnflnkaa
