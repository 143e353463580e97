/- impl.MatchArguments. -/
import Derived.Test.YtmbjaohohkfjbaaUMatchI
import Derived.Test.YtmbjaohohkfjbaaMatchS
namespace Go.Proofs.Ytmbjaohohkfjbaa
open Go.RowKit
set_option linter.unusedVariables false
set_option linter.unusedSimpArgs false
set_option maxRecDepth 100000

def uL (n : Nat) (mt : List Int) : List Bool := (List.range n).map fun x : Nat => decide ((x : Int) ∈ mt)
theorem uL_len (n : Nat) (mt : List Int) : (uL n mt).length = n := by simp [uL]
theorem uL_get {n x : Nat} {mt : List Int} (h : x < n) : (uL n mt).getD x default = decide ((x : Int) ∈ mt) := by
  unfold uL
  rw [List.getD_eq_getElem?_getD, List.getElem?_map, List.getElem?_range h]; rfl
theorem mem_setN {mt : List Int} {k a x : Nat} (hk : k < mt.length) (hn : mt.getD k default < 0) : ((x : Int) ∈ mt.set k (a : Int)) ↔ (x = a ∨ (x : Int) ∈ mt) := by
  constructor
  · intro h
    rcases List.mem_or_eq_of_mem_set h with h | h
    · exact .inr h
    · exact .inl (by omega)
  · rintro (h | h)
    · subst h; exact List.mem_of_getElem? (i := k) (by rw [List.getElem?_set, if_pos rfl, if_pos hk])
    · obtain ⟨j, hj⟩ := List.getElem?_of_mem h
      refine List.mem_of_getElem? (i := j) ?_
      rw [List.getElem?_set, if_neg]
      · exact hj
      · rintro rfl
        rw [List.getD_eq_getElem?_getD, hj] at hn
        simp at hn; omega
theorem uL_set {n k a : Nat} {mt : List Int} (hk : k < mt.length) (hn : mt.getD k default < 0) (ha : a < n) : (uL n mt).set a true = uL n (mt.set k (a : Int)) := by
  apply List.ext_getElem?
  intro x
  rw [List.getElem?_set]
  unfold uL
  rw [List.length_map, List.length_range, List.getElem?_map, List.getElem?_map]
  by_cases hx : x < n
  · rw [List.getElem?_range hx]
    simp only [Option.map_some]
    by_cases h : a = x
    · subst h
      rw [if_pos rfl, if_pos ha, decide_eq_true ((mem_setN hk hn).2 (Or.inl rfl))]
    · rw [if_neg h]
      congr 1
      rw [decide_eq_decide, mem_setN hk hn]
      exact ⟨Or.inr, fun g => by rcases g with g | g
                                 · exact absurd g.symm h
                                 · exact g⟩
  · rw [List.getElem?_eq_none (l := List.range n) (by simp; omega)]
    by_cases h : a = x
    · exact absurd (h ▸ ha) hx
    · rw [if_neg h]; rfl
theorem uL_0 (n m : Nat) : uL n (List.replicate m (-1)) = List.replicate n false := by
  unfold uL
  rw [← List.length_range (n := n), ← List.map_const', List.length_range]
  refine List.map_congr_left fun x _ => decide_eq_false fun h => ?_
  have := (List.mem_replicate.1 h).2
  omega
theorem dI_is {F : List ByteArray} : ∀ i, i ≤ F.length → (dI F i = F.length ∧ ∀ j, j < i → F.getD j default ≠ dotS) ∨ ∃ k, k < i ∧ dI F i = k ∧ F.getD k default = dotS
  | 0, _ => .inl ⟨rfl, fun j h => by omega⟩
  | i + 1, hi => by
    unfold dI
    by_cases h : F.getD i default = dotS
    · rw [if_pos h]; exact .inr ⟨i, by omega, rfl, h⟩
    · rw [if_neg h]
      rcases dI_is (F := F) i (by omega) with ⟨h1, h2⟩ | ⟨k, h1, h2, h3⟩
      · refine .inl ⟨h1, fun j hj => ?_⟩
        rcases Nat.lt_or_ge j i with g | g
        · exact h2 j g
        · obtain rfl : j = i := by omega
          exact h
      · exact .inr ⟨k, by omega, h2, h3⟩
theorem dI_find {F : List ByteArray} (hb : allB (vF F) F.length = true) : (find1 F dotS < 0 ∧ dI F F.length = F.length) ∨ (0 ≤ find1 F dotS ∧ find1 F dotS = (dI F F.length : Int) ∧ dI F F.length < F.length) := by
  rcases dI_is (F := F) F.length (Nat.le_refl _) with ⟨h1, h2⟩ | ⟨k, h1, h2, h3⟩
  · refine .inl ⟨?_, h1⟩
    rcases find1_spec F dotS with ⟨h, _⟩ | ⟨k, _, g2, _⟩
    · omega
    · have hk := (List.getElem?_eq_some_iff.1 g2).1
      have := h2 k hk
      rw [List.getD_eq_getElem?_getD, g2] at this
      exact absurd rfl this
  · right
    have hv := allB_iff.1 hb k h1
    unfold vF at hv
    rw [h3] at hv
    simp only [Bool.and_eq_true, Bool.not_eq_true', decide_eq_false_iff_not] at hv
    have hk := getD_some (l := F) h1
    rw [h3] at hk
    rcases find1_spec F dotS with ⟨_, h⟩ | ⟨k1, g1, g2, g3⟩
    · exact absurd (List.mem_of_getElem? hk) h
    · have : k1 ≤ k := by
        rcases Nat.lt_or_ge k k1 with g | g
        · exact absurd hk (g3 k g)
        · exact g
      rw [h2]
      omega
def negO (n i : Nat) : List Int := List.replicate i (-1) ++ List.replicate (n - i) 0
theorem negO_len {n i : Nat} (h : i ≤ n) : (negO n i).length = n := by simp [negO]; omega
theorem negO_set {n i : Nat} (h : i < n) : (negO n i).set i (-1) = negO n (i + 1) := by
  unfold negO
  rw [List.set_append_right _ _ (by simp), List.length_replicate, Nat.sub_self, List.replicate_succ', show n - i = (n - (i + 1)) + 1 by omega, List.replicate_succ, List.set_cons_zero, List.append_assoc]; rfl
def encB (b : Bool) : List DV := [.sc (.bool b)]
theorem ix_b {t : Nat} {l : List Bool} {kd : IntKind} {z : Int} (h : 0 ≤ z) (h1 : z < l.length) : eIdx 1 (some (.sl t 1 (l.map encB))) (some (.sc (.int kd z))) = some [.sc (.bool (l.getD z.toNat default))] := e_idx_map (fun _ => rfl) h h1
theorem st_b {t : Nat} {l : List Bool} {kd : IntKind} {z : Int} {n : Bool} (h : 0 ≤ z) (h1 : z < l.length) : eSet 1 0 (some (.sl t 1 (l.map encB))) (some (.sc (.int kd z))) (some [.sc (.bool n)]) = some [.sl t 1 ((l.set z.toNat n).map encB)] := by
  rw [e_set_map (e := encB) (fun _ => rfl) h h1 rfl, List.map_set]; rfl
theorem cC_le {F : List ByteArray} {s : ByteArray} {ex : List Int} : ∀ i, (cC F s ex i).1 ≤ i
  | 0 => Nat.le_refl _
  | i + 1 => by
    have := cC_le (F := F) (s := s) (ex := ex) i
    unfold cC
    split
    · simp only; omega
    · omega
set_option maxHeartbeats 4000000 in
theorem implMatch_m (F L : List ByteArray) (hF : F.length ≤ 1048576) (hL : L.length ≤ 1048576) (sF : ∀ x ∈ F, x.size ≤ 1048576) (sL : ∀ x ∈ L, x.size ≤ 1048576) :
    Meets Try.prog 6 [(false, [encSs F]), (false, [encSs L])] (resM (matchA F L)) := by
  have hN := fun i => implName_m (F.getD i default) (by have := getD_le sF i; omega)
  have hK := fun s => textIndex_m 9 F s (by omega)
  have hH := fun i s => hasText_m 9 (F.take i) s (by rw [List.length_take]; omega)
  refine meets_upf Try.func6 u_impl_MatchArguments_g rfl ?_; simp only [u_impl_MatchArguments_u]
  simp only [encSs]
  simp (disch := first | omega | (simp only [List.length_take, List.length_drop, List.length_append, List.map_cons, List.map_nil, List.length_map, List.length_cons, List.length_nil, List.length_set, List.length_replicate]; omega) | (simp only [List.length_cons, List.length_nil, Nat.zero_add, Nat.reduceAdd])) only [go_sem, ↓reduceIte, Nat.reduceAdd, Int.reduceNeg, Int.reduceAdd, Int.reduceSub, Int.reduceMul, Int.reduceLT, Int.reduceLE, Int.reduceEq, Int.reduceToNat, Nat.reduceBEq, e_sle, e_sge, e_shl1, e_orI, e_andI, e_shr, wrapu, wrap8, tn1, nat1, ix_s, ix_z, st_s, st_z, fl_s, fl_z, fl1_s, fl1_z, map_s, map_z, true_and]
  refine lp (fun i : Nat => [.sc (.int .i64 i)]) (fun i => i ≤ F.length ∧ allB (vF F) i = true) (fun i => F.length - i) 0 rfl ⟨by omega, rfl⟩ ?_
  rintro i ⟨hi, hb⟩
  simp only [u_impl_MatchArguments_l12]
  by_cases hlt : i < F.length
  · have hNi := hN i
    have hHi := hH i (F.getD i default)
    rw [hasB_take hlt] at hHi
    have hno := @matchA_e0 F L i hlt
    repeat' (first | (with_reducible refine jn_in ?_) | (with_reducible refine cl_ok (by assumption) rfl ?_) | (with_reducible refine cl_okP (by assumption) rfl ?_) | (with_reducible refine br_if (fun hbr => ?_) (fun hbr => ?_)) | (with_reducible refine br_ifn (fun hbr => ?_) (fun hbr => ?_)) | (with_reducible refine br_nb (fun hbr => ?_) (fun hbr => ?_)) | (with_reducible refine br_b (fun hbr => ?_) (fun hbr => ?_)) | simp (disch := first | omega | (simp only [List.length_take, List.length_drop, List.length_append, List.map_cons, List.map_nil, List.length_map, List.length_cons, List.length_nil, List.length_set, List.length_replicate]; omega) | (simp only [List.length_cons, List.length_nil, Nat.zero_add, Nat.reduceAdd])) only [go_sem, ↓reduceIte, Nat.reduceAdd, Int.reduceNeg, Int.reduceAdd, Int.reduceSub, Int.reduceMul, Int.reduceLT, Int.reduceLE, Int.reduceEq, Int.reduceToNat, Nat.reduceBEq, e_sle, e_sge, e_shl1, e_orI, e_andI, e_shr, wrapu, wrap8, tn1, nat1, ix_s, ix_z, st_s, st_z, fl_s, fl_z, fl1_s, fl1_z, map_s, map_z, true_and])
    all_goals first
      | omega
      | (rw [hno (by (first | (simp [-List.getD_eq_getElem?_getD, vF, *]; done) | (simp_all [-List.getD_eq_getElem?_getD, vF]; done) | (simp [-List.getD_eq_getElem?_getD, vF, *]; omega) | (simp_all [-List.getD_eq_getElem?_getD, vF]; omega) | omega))]; rfl)
      | exact ⟨i + 1, rfl, ⟨by omega, allB_step hb (by (first | (simp [-List.getD_eq_getElem?_getD, vF, *]; done) | (simp_all [-List.getD_eq_getElem?_getD, vF]; done) | (simp [-List.getD_eq_getElem?_getD, vF, *]; omega) | (simp_all [-List.getD_eq_getElem?_getD, vF]; omega) | omega))⟩, by omega⟩
      | skip
  obtain rfl : i = F.length := by omega
  have hMA : matchA F L = (match M1 F L L.length with
    | .inl e => ([], [], e)
    | .inr m1 => (match M2 F L m1 L.length with
      | .inl e => ([], [], e)
      | .inr m2 => outM (M3 F L m2 L.length))) := by unfold matchA; rw [if_pos hb]; rfl
  have hKd := hK dotS
  have hD := dI_le F F.length (Nat.le_refl _)
  have hDF := dI_find hb
  unfold dotS at hKd
  generalize hDD : dI F F.length = D at *
  simp (disch := first | omega | (simp only [List.length_take, List.length_drop, List.length_append, List.map_cons, List.map_nil, List.length_map, List.length_cons, List.length_nil, List.length_set, List.length_replicate]; omega) | (simp only [List.length_cons, List.length_nil, Nat.zero_add, Nat.reduceAdd])) only [go_sem, ↓reduceIte, Nat.reduceAdd, Int.reduceNeg, Int.reduceAdd, Int.reduceSub, Int.reduceMul, Int.reduceLT, Int.reduceLE, Int.reduceEq, Int.reduceToNat, Nat.reduceBEq, e_sle, e_sge, e_shl1, e_orI, e_andI, e_shr, wrapu, wrap8, tn1, nat1, ix_s, ix_z, st_s, st_z, fl_s, fl_z, fl1_s, fl1_z, map_s, map_z, true_and]
  refine br_if (fun hbr => absurd hbr (by omega)) (fun hbr => ?_)
  simp (disch := first | omega | (simp only [List.length_take, List.length_drop, List.length_append, List.map_cons, List.map_nil, List.length_map, List.length_cons, List.length_nil, List.length_set, List.length_replicate]; omega) | (simp only [List.length_cons, List.length_nil, Nat.zero_add, Nat.reduceAdd])) only [go_sem, ↓reduceIte, Nat.reduceAdd, Int.reduceNeg, Int.reduceAdd, Int.reduceSub, Int.reduceMul, Int.reduceLT, Int.reduceLE, Int.reduceEq, Int.reduceToNat, Nat.reduceBEq, e_sle, e_sge, e_shl1, e_orI, e_andI, e_shr, wrapu, wrap8, tn1, nat1, ix_s, ix_z, st_s, st_z, fl_s, fl_z, fl1_s, fl1_z, map_s, map_z, true_and]
  refine cl_ok hKd rfl ?_
  rw [show (⟨#[46, 46, 46]⟩ : ByteArray) = dotS from rfl]
  generalize find1 F dotS = D0 at *
  simp (disch := first | omega | (simp only [List.length_take, List.length_drop, List.length_append, List.map_cons, List.map_nil, List.length_map, List.length_cons, List.length_nil, List.length_set, List.length_replicate]; omega) | (simp only [List.length_cons, List.length_nil, Nat.zero_add, Nat.reduceAdd])) only [go_sem, ↓reduceIte, Nat.reduceAdd, Int.reduceNeg, Int.reduceAdd, Int.reduceSub, Int.reduceMul, Int.reduceLT, Int.reduceLE, Int.reduceEq, Int.reduceToNat, Nat.reduceBEq, e_sle, e_sge, e_shl1, e_orI, e_andI, e_shr, wrapu, wrap8, tn1, nat1, ix_s, ix_z, st_s, st_z, fl_s, fl_z, fl1_s, fl1_z, map_s, map_z, true_and]
  refine jn_eq [.sc (.int .i64 (D : Nat))] ?_ ?_
  · refine br_if (fun h => ?_) (fun h => ?_)
    · simp (disch := first | omega | (simp only [List.length_take, List.length_drop, List.length_append, List.map_cons, List.map_nil, List.length_map, List.length_cons, List.length_nil, List.length_set, List.length_replicate]; omega) | (simp only [List.length_cons, List.length_nil, Nat.zero_add, Nat.reduceAdd])) only [go_sem, ↓reduceIte, Nat.reduceAdd, Int.reduceNeg, Int.reduceAdd, Int.reduceSub, Int.reduceMul, Int.reduceLT, Int.reduceLE, Int.reduceEq, Int.reduceToNat, Nat.reduceBEq, e_sle, e_sge, e_shl1, e_orI, e_andI, e_shr, wrapu, wrap8, tn1, nat1, ix_s, ix_z, st_s, st_z, fl_s, fl_z, fl1_s, fl1_z, map_s, map_z, true_and]
      rw [show D0 = (D : Int) by omega]
    · simp (disch := first | omega | (simp only [List.length_take, List.length_drop, List.length_append, List.map_cons, List.map_nil, List.length_map, List.length_cons, List.length_nil, List.length_set, List.length_replicate]; omega) | (simp only [List.length_cons, List.length_nil, Nat.zero_add, Nat.reduceAdd])) only [go_sem, ↓reduceIte, Nat.reduceAdd, Int.reduceNeg, Int.reduceAdd, Int.reduceSub, Int.reduceMul, Int.reduceLT, Int.reduceLE, Int.reduceEq, Int.reduceToNat, Nat.reduceBEq, e_sle, e_sge, e_shl1, e_orI, e_andI, e_shr, wrapu, wrap8, tn1, nat1, ix_s, ix_z, st_s, st_z, fl_s, fl_z, fl1_s, fl1_z, map_s, map_z, true_and]
      rw [show F.length = D by omega]
  simp only [u_impl_MatchArguments_j11]
  simp (disch := first | omega | (simp only [List.length_take, List.length_drop, List.length_append, List.map_cons, List.map_nil, List.length_map, List.length_cons, List.length_nil, List.length_set, List.length_replicate]; omega) | (simp only [List.length_cons, List.length_nil, Nat.zero_add, Nat.reduceAdd])) only [go_sem, ↓reduceIte, Nat.reduceAdd, Int.reduceNeg, Int.reduceAdd, Int.reduceSub, Int.reduceMul, Int.reduceLT, Int.reduceLE, Int.reduceEq, Int.reduceToNat, Nat.reduceBEq, e_sle, e_sge, e_shl1, e_orI, e_andI, e_shr, wrapu, wrap8, tn1, nat1, ix_s, ix_z, st_s, st_z, fl_s, fl_z, fl1_s, fl1_z, map_s, map_z, true_and]
  refine lp_n F.length (fun i => [.sc (.int .i64 (i : Nat)), .sl 3 1 ((negO F.length i).map encZ)]) (by unfold negO; rw [List.replicate_zero, List.nil_append, List.map_replicate]; rfl) fun i hi => ?_
  have hnl := negO_len hi
  simp only [u_impl_MatchArguments_l10]
  simp (disch := first | omega | (simp only [List.length_take, List.length_drop, List.length_append, List.map_cons, List.map_nil, List.length_map, List.length_cons, List.length_nil, List.length_set, List.length_replicate]; omega) | (simp only [List.length_cons, List.length_nil, Nat.zero_add, Nat.reduceAdd])) only [go_sem, ↓reduceIte, Nat.reduceAdd, Int.reduceNeg, Int.reduceAdd, Int.reduceSub, Int.reduceMul, Int.reduceLT, Int.reduceLE, Int.reduceEq, Int.reduceToNat, Nat.reduceBEq, e_sle, e_sge, e_shl1, e_orI, e_andI, e_shr, wrapu, wrap8, tn1, nat1, ix_s, ix_z, st_s, st_z, fl_s, fl_z, fl1_s, fl1_z, map_s, map_z, List.length_replicate]
  refine br_if (fun h => ?_) (fun h => ?_)
  · have hlt : i < F.length := by omega
    simp (disch := first | omega | (simp only [List.length_take, List.length_drop, List.length_append, List.map_cons, List.map_nil, List.length_map, List.length_cons, List.length_nil, List.length_set, List.length_replicate]; omega) | (simp only [List.length_cons, List.length_nil, Nat.zero_add, Nat.reduceAdd])) only [go_sem, ↓reduceIte, Nat.reduceAdd, Int.reduceNeg, Int.reduceAdd, Int.reduceSub, Int.reduceMul, Int.reduceLT, Int.reduceLE, Int.reduceEq, Int.reduceToNat, Nat.reduceBEq, e_sle, e_sge, e_shl1, e_orI, e_andI, e_shr, wrapu, wrap8, tn1, nat1, ix_s, ix_z, st_s, st_z, fl_s, fl_z, fl1_s, fl1_z, map_s, map_z, negO_set hlt]
    exact hlt
  obtain rfl : i = F.length := by omega
  have e0 : negO F.length F.length = List.replicate F.length (-1) := by unfold negO; rw [Nat.sub_self]; simp
  rw [e0]
  simp (disch := first | omega | (simp only [List.length_take, List.length_drop, List.length_append, List.map_cons, List.map_nil, List.length_map, List.length_cons, List.length_nil, List.length_set, List.length_replicate]; omega) | (simp only [List.length_cons, List.length_nil, Nat.zero_add, Nat.reduceAdd])) only [go_sem, ↓reduceIte, Nat.reduceAdd, Int.reduceNeg, Int.reduceAdd, Int.reduceSub, Int.reduceMul, Int.reduceLT, Int.reduceLE, Int.reduceEq, Int.reduceToNat, Nat.reduceBEq, e_sle, e_sge, e_shl1, e_orI, e_andI, e_shr, wrapu, wrap8, tn1, nat1, ix_s, ix_z, st_s, st_z, fl_s, fl_z, fl1_s, fl1_z, map_s, map_z, true_and]
  have hU0 : (.sl 4 1 (List.replicate L.length [.sc (.bool false)]) : DV) = .sl 4 1 ((uL L.length (List.replicate F.length (-1))).map encB) := by rw [uL_0, List.map_replicate]; rfl
  rw [hU0]
  refine lp (fun s : Nat × List Int => [.sc (.int .i64 (s.1 : Nat)), .sl 3 1 (s.2.map encZ), .sl 4 1 ((uL L.length s.2).map encB)]) (fun s => s.1 ≤ L.length ∧ M1 F L s.1 = .inr s.2 ∧ s.2.length = F.length) (fun s => L.length - s.1) (0, List.replicate F.length (-1)) rfl ⟨by simp, rfl, by simp⟩ ?_
  rintro ⟨a, mt⟩ ⟨g1, g2, g3⟩
  simp only at g1 g2 g3 ⊢
  simp only [u_impl_MatchArguments_l9]
  have hul := uL_len L.length mt
  by_cases hlt : a < L.length
  · have hKa := hK (L.getD a default)
    have hst : M1 F L (a + 1) = step1 F L (dI F F.length) a mt := itS_step g2
    unfold step1 at hst
    rw [hDD] at hst
    have hrng := find1_rng F (L.getD a default)
    generalize find1 F (L.getD a default) = k at *
    have hUs := fun (h0 : 0 ≤ k) (h1 : ¬ mt.getD k.toNat default ≥ 0) => uL_set (n := L.length) (k := k.toNat) (a := a) (mt := mt) (by omega) (by omega) hlt
    repeat' (first | (with_reducible refine jn_in ?_) | (with_reducible refine cl_ok (by assumption) rfl ?_) | (with_reducible refine cl_okP (by assumption) rfl ?_) | (with_reducible refine br_if (fun hbr => ?_) (fun hbr => ?_)) | (with_reducible refine br_ifn (fun hbr => ?_) (fun hbr => ?_)) | (with_reducible refine br_nb (fun hbr => ?_) (fun hbr => ?_)) | (with_reducible refine br_b (fun hbr => ?_) (fun hbr => ?_)) | simp (disch := first | omega | (simp only [List.length_take, List.length_drop, List.length_append, List.map_cons, List.map_nil, List.length_map, List.length_cons, List.length_nil, List.length_set, List.length_replicate]; omega) | (simp only [List.length_cons, List.length_nil, Nat.zero_add, Nat.reduceAdd])) only [go_sem, ↓reduceIte, Nat.reduceAdd, Int.reduceNeg, Int.reduceAdd, Int.reduceSub, Int.reduceMul, Int.reduceLT, Int.reduceLE, Int.reduceEq, Int.reduceToNat, Nat.reduceBEq, e_sle, e_sge, e_shl1, e_orI, e_andI, e_shr, wrapu, wrap8, tn1, nat1, ix_s, ix_z, st_s, st_z, fl_s, fl_z, fl1_s, fl1_z, map_s, map_z, u_impl_MatchArguments_j0, ix_b, st_b])
    all_goals first
      | omega
      | (exfalso; omega)
      | exact ⟨(a + 1, mt), rfl, ⟨by simp only; omega, by simp only; rw [hst, if_pos (Or.inl ‹_›)], g3⟩, by simp only; omega⟩
      | exact ⟨(a + 1, mt), rfl, ⟨by simp only; omega, by simp only; rw [hst, if_pos (Or.inr (by omega))], g3⟩, by simp only; omega⟩
      | (rw [if_neg (by omega), if_pos ‹_›] at hst; rw [hMA, M1_inl hst hlt]; rfl)
      | exact ⟨(a + 1, mt.set k.toNat a), by rw [hUs (by omega) ‹_›], ⟨by simp only; omega, by simp only; rw [hst, if_neg (by omega), if_neg ‹_›], by simp only [List.length_set]; exact g3⟩, by simp only; omega⟩
      | skip
  obtain rfl : a = L.length := by omega
  rw [g2] at hMA
  simp only at hMA
  simp (disch := first | omega | (simp only [List.length_take, List.length_drop, List.length_append, List.map_cons, List.map_nil, List.length_map, List.length_cons, List.length_nil, List.length_set, List.length_replicate]; omega) | (simp only [List.length_cons, List.length_nil, Nat.zero_add, Nat.reduceAdd])) only [go_sem, ↓reduceIte, Nat.reduceAdd, Int.reduceNeg, Int.reduceAdd, Int.reduceSub, Int.reduceMul, Int.reduceLT, Int.reduceLE, Int.reduceEq, Int.reduceToNat, Nat.reduceBEq, e_sle, e_sge, e_shl1, e_orI, e_andI, e_shr, wrapu, wrap8, tn1, nat1, ix_s, ix_z, st_s, st_z, fl_s, fl_z, fl1_s, fl1_z, map_s, map_z, true_and]
  refine br_if (fun hbr => absurd hbr (by omega)) (fun hbr => ?_)
  simp (disch := first | omega | (simp only [List.length_take, List.length_drop, List.length_append, List.map_cons, List.map_nil, List.length_map, List.length_cons, List.length_nil, List.length_set, List.length_replicate]; omega) | (simp only [List.length_cons, List.length_nil, Nat.zero_add, Nat.reduceAdd])) only [go_sem, ↓reduceIte, Nat.reduceAdd, Int.reduceNeg, Int.reduceAdd, Int.reduceSub, Int.reduceMul, Int.reduceLT, Int.reduceLE, Int.reduceEq, Int.reduceToNat, Nat.reduceBEq, e_sle, e_sge, e_shl1, e_orI, e_andI, e_shr, wrapu, wrap8, tn1, nat1, ix_s, ix_z, st_s, st_z, fl_s, fl_z, fl1_s, fl1_z, map_s, map_z, true_and]
  refine lp (fun s : Nat × List Int => [.sc (.int .i64 (s.1 : Nat)), .sl 3 1 (s.2.map encZ), .sl 4 1 ((uL L.length s.2).map encB)])
    (fun s => s.1 ≤ L.length ∧ M2 F L mt s.1 = .inr s.2 ∧ s.2.length = F.length ∧ ∀ x : Nat, s.1 ≤ x → ((x : Int) ∈ s.2 ↔ (x : Int) ∈ mt)) (fun s => L.length - s.1) (0, mt) rfl ⟨by simp, rfl, g3, fun x _ => Iff.rfl⟩ ?_
  rintro ⟨a, m2⟩ ⟨p1, p2, p3, p4⟩
  simp only at p1 p2 p3 p4 ⊢
  simp only [u_impl_MatchArguments_l8]
  have hul := uL_len L.length m2
  by_cases hlt : a < L.length
  · have hst : M2 F L mt (a + 1) = step2 F L (dI F F.length) mt a m2 := itS_step p2
    rw [hDD] at hst
    unfold step2 at hst
    have hsL := getD_le sL a
    have hug : (uL L.length m2).getD a default = decide ((a : Int) ∈ mt) := by rw [uL_get hlt, decide_eq_decide]; exact p4 a (Nat.le_refl _)
    have p5 : ∀ x : Nat, a + 1 ≤ x → ((x : Int) ∈ m2 ↔ (x : Int) ∈ mt) := fun x hx => p4 x (by omega)
    simp (disch := first | omega | (simp only [List.length_take, List.length_drop, List.length_append, List.map_cons, List.map_nil, List.length_map, List.length_cons, List.length_nil, List.length_set, List.length_replicate]; omega) | (simp only [List.length_cons, List.length_nil, Nat.zero_add, Nat.reduceAdd])) only [go_sem, ↓reduceIte, Nat.reduceAdd, Int.reduceNeg, Int.reduceAdd, Int.reduceSub, Int.reduceMul, Int.reduceLT, Int.reduceLE, Int.reduceEq, Int.reduceToNat, Nat.reduceBEq, e_sle, e_sge, e_shl1, e_orI, e_andI, e_shr, wrapu, wrap8, tn1, nat1, ix_s, ix_z, st_s, st_z, fl_s, fl_z, fl1_s, fl1_z, map_s, map_z, true_and]
    refine br_if (fun hbr => ?_) (fun hbr => absurd hbr (by omega))
    simp (disch := first | omega | (simp only [List.length_take, List.length_drop, List.length_append, List.map_cons, List.map_nil, List.length_map, List.length_cons, List.length_nil, List.length_set, List.length_replicate]; omega) | (simp only [List.length_cons, List.length_nil, Nat.zero_add, Nat.reduceAdd])) only [go_sem, ↓reduceIte, Nat.reduceAdd, Int.reduceNeg, Int.reduceAdd, Int.reduceSub, Int.reduceMul, Int.reduceLT, Int.reduceLE, Int.reduceEq, Int.reduceToNat, Nat.reduceBEq, e_sle, e_sge, e_shl1, e_orI, e_andI, e_shr, wrapu, wrap8, tn1, nat1, ix_s, ix_z, st_s, st_z, fl_s, fl_z, fl1_s, fl1_z, map_s, map_z, true_and]
    refine jn_in ?_
    simp (disch := first | omega | (simp only [List.length_take, List.length_drop, List.length_append, List.map_cons, List.map_nil, List.length_map, List.length_cons, List.length_nil, List.length_set, List.length_replicate]; omega) | (simp only [List.length_cons, List.length_nil, Nat.zero_add, Nat.reduceAdd])) only [go_sem, ↓reduceIte, Nat.reduceAdd, Int.reduceNeg, Int.reduceAdd, Int.reduceSub, Int.reduceMul, Int.reduceLT, Int.reduceLE, Int.reduceEq, Int.reduceToNat, Nat.reduceBEq, e_sle, e_sge, e_shl1, e_orI, e_andI, e_shr, wrapu, wrap8, tn1, nat1, ix_s, ix_z, st_s, st_z, fl_s, fl_z, fl1_s, fl1_z, map_s, map_z, true_and]
    refine br_if (fun hE => ?_) (fun hE => ?_)
    · repeat' (first | (with_reducible refine jn_in ?_) | (with_reducible refine cl_ok (by assumption) rfl ?_) | (with_reducible refine cl_okP (by assumption) rfl ?_) | (with_reducible refine br_if (fun hbr => ?_) (fun hbr => ?_)) | (with_reducible refine br_ifn (fun hbr => ?_) (fun hbr => ?_)) | (with_reducible refine br_nb (fun hbr => ?_) (fun hbr => ?_)) | (with_reducible refine br_b (fun hbr => ?_) (fun hbr => ?_)) | simp (disch := first | omega | (simp only [List.length_take, List.length_drop, List.length_append, List.map_cons, List.map_nil, List.length_map, List.length_cons, List.length_nil, List.length_set, List.length_replicate]; omega) | (simp only [List.length_cons, List.length_nil, Nat.zero_add, Nat.reduceAdd])) only [go_sem, ↓reduceIte, Nat.reduceAdd, Int.reduceNeg, Int.reduceAdd, Int.reduceSub, Int.reduceMul, Int.reduceLT, Int.reduceLE, Int.reduceEq, Int.reduceToNat, Nat.reduceBEq, e_sle, e_sge, e_shl1, e_orI, e_andI, e_shr, wrapu, wrap8, tn1, nat1, ix_s, ix_z, st_s, st_z, fl_s, fl_z, fl1_s, fl1_z, map_s, map_z, u_impl_MatchArguments_j3])
      exact ⟨(a + 1, m2), rfl, ⟨by simp only; omega, by simp only; rw [hst, if_pos (Or.inl hE)], p3, p5⟩, by simp only; omega⟩
    simp (disch := first | omega | (simp only [List.length_take, List.length_drop, List.length_append, List.map_cons, List.map_nil, List.length_map, List.length_cons, List.length_nil, List.length_set, List.length_replicate]; omega) | (simp only [List.length_cons, List.length_nil, Nat.zero_add, Nat.reduceAdd])) only [go_sem, ↓reduceIte, Nat.reduceAdd, Int.reduceNeg, Int.reduceAdd, Int.reduceSub, Int.reduceMul, Int.reduceLT, Int.reduceLE, Int.reduceEq, Int.reduceToNat, Nat.reduceBEq, e_sle, e_sge, e_shl1, e_orI, e_andI, e_shr, wrapu, wrap8, tn1, nat1, ix_s, ix_z, st_s, st_z, fl_s, fl_z, fl1_s, fl1_z, map_s, map_z, ix_b, hug]
    by_cases hm : (a : Int) ∈ mt
    · simp (disch := first | omega | (simp only [List.length_take, List.length_drop, List.length_append, List.map_cons, List.map_nil, List.length_map, List.length_cons, List.length_nil, List.length_set, List.length_replicate]; omega) | (simp only [List.length_cons, List.length_nil, Nat.zero_add, Nat.reduceAdd])) only [go_sem, ↓reduceIte, Nat.reduceAdd, Int.reduceNeg, Int.reduceAdd, Int.reduceSub, Int.reduceMul, Int.reduceLT, Int.reduceLE, Int.reduceEq, Int.reduceToNat, Nat.reduceBEq, e_sle, e_sge, e_shl1, e_orI, e_andI, e_shr, wrapu, wrap8, tn1, nat1, ix_s, ix_z, st_s, st_z, fl_s, fl_z, fl1_s, fl1_z, map_s, map_z, hm]
      repeat' (first | (with_reducible refine jn_in ?_) | (with_reducible refine cl_ok (by assumption) rfl ?_) | (with_reducible refine cl_okP (by assumption) rfl ?_) | (with_reducible refine br_if (fun hbr => ?_) (fun hbr => ?_)) | (with_reducible refine br_ifn (fun hbr => ?_) (fun hbr => ?_)) | (with_reducible refine br_nb (fun hbr => ?_) (fun hbr => ?_)) | (with_reducible refine br_b (fun hbr => ?_) (fun hbr => ?_)) | simp (disch := first | omega | (simp only [List.length_take, List.length_drop, List.length_append, List.map_cons, List.map_nil, List.length_map, List.length_cons, List.length_nil, List.length_set, List.length_replicate]; omega) | (simp only [List.length_cons, List.length_nil, Nat.zero_add, Nat.reduceAdd])) only [go_sem, ↓reduceIte, Nat.reduceAdd, Int.reduceNeg, Int.reduceAdd, Int.reduceSub, Int.reduceMul, Int.reduceLT, Int.reduceLE, Int.reduceEq, Int.reduceToNat, Nat.reduceBEq, e_sle, e_sge, e_shl1, e_orI, e_andI, e_shr, wrapu, wrap8, tn1, nat1, ix_s, ix_z, st_s, st_z, fl_s, fl_z, fl1_s, fl1_z, map_s, map_z, u_impl_MatchArguments_j3])
      exact ⟨(a + 1, m2), rfl, ⟨by simp only; omega, by simp only; rw [hst, if_pos (Or.inr hm)], p3, p5⟩, by simp only; omega⟩
    rw [if_neg (by rintro (h | h); exact hE h; exact hm h)] at hst
    simp (disch := first | omega | (simp only [List.length_take, List.length_drop, List.length_append, List.map_cons, List.map_nil, List.length_map, List.length_cons, List.length_nil, List.length_set, List.length_replicate]; omega) | (simp only [List.length_cons, List.length_nil, Nat.zero_add, Nat.reduceAdd])) only [go_sem, ↓reduceIte, Nat.reduceAdd, Int.reduceNeg, Int.reduceAdd, Int.reduceSub, Int.reduceMul, Int.reduceLT, Int.reduceLE, Int.reduceEq, Int.reduceToNat, Nat.reduceBEq, e_sle, e_sge, e_shl1, e_orI, e_andI, e_shr, wrapu, wrap8, tn1, nat1, ix_s, ix_z, st_s, st_z, fl_s, fl_z, fl1_s, fl1_z, map_s, map_z, hm]
    generalize hs : L.getD a default = s at *
    refine lp_n D (fun i : Nat => [.sc (.int .i64 i), .sc (.int .i64 ((cC F s mt i).1 : Nat)), .sc (.int .i64 (cC F s mt i).2)]) rfl fun i hi => ?_
    have hat := cC_at (F := F) (s := s) (ex := mt) i
    have hcl := cC_le (F := F) (s := s) (ex := mt) i
    simp only [u_impl_MatchArguments_l2]
    by_cases hi2 : i < D
    · have hsF := getD_le sF i
      have hc : cC F s mt (i + 1) = if cP F s mt i = true then ((cC F s mt i).1 + 1, (i : Int)) else cC F s mt i := rfl
      unfold cP at hc
      have yes : mt.getD i default < 0 → (s.size : Int) < (F.getD i default).size → (F.getD i default).extract 0 s.size = s → cC F s mt (i + 1) = ((cC F s mt i).1 + 1, (i : Int)) := by
        intro x1 x2 x3
        rw [hc, if_pos]; simp only [Bool.and_eq_true, decide_eq_true_eq]; exact ⟨x1, by omega, x3⟩
      have no : ¬ (mt.getD i default < 0 ∧ (s.size : Int) < (F.getD i default).size ∧ (F.getD i default).extract 0 s.size = s) → cC F s mt (i + 1) = cC F s mt i := by
        intro x1
        rw [hc, if_neg]; simp only [Bool.and_eq_true, decide_eq_true_eq]; exact fun h => x1 ⟨h.1, by omega, h.2.2⟩
      repeat' (first | (with_reducible refine jn_in ?_) | (with_reducible refine cl_ok (by assumption) rfl ?_) | (with_reducible refine cl_okP (by assumption) rfl ?_) | (with_reducible refine br_if (fun hbr => ?_) (fun hbr => ?_)) | (with_reducible refine br_ifn (fun hbr => ?_) (fun hbr => ?_)) | (with_reducible refine br_nb (fun hbr => ?_) (fun hbr => ?_)) | (with_reducible refine br_b (fun hbr => ?_) (fun hbr => ?_)) | simp (disch := first | omega | (simp only [List.length_take, List.length_drop, List.length_append, List.map_cons, List.map_nil, List.length_map, List.length_cons, List.length_nil, List.length_set, List.length_replicate]; omega) | (simp only [List.length_cons, List.length_nil, Nat.zero_add, Nat.reduceAdd])) only [go_sem, ↓reduceIte, Nat.reduceAdd, Int.reduceNeg, Int.reduceAdd, Int.reduceSub, Int.reduceMul, Int.reduceLT, Int.reduceLE, Int.reduceEq, Int.reduceToNat, Nat.reduceBEq, e_sle, e_sge, e_shl1, e_orI, e_andI, e_shr, wrapu, wrap8, tn1, nat1, ix_s, ix_z, st_s, st_z, fl_s, fl_z, fl1_s, fl1_z, map_s, map_z, hs, u_impl_MatchArguments_j1])
      all_goals first
        | omega
        | (exfalso; omega)
        | (rw [yes ‹_› ‹_› ‹_›]; exact ⟨rfl, hi2⟩)
        | (rw [no (fun h => by first | exact absurd h.1 ‹_› | exact absurd h.2.1 ‹_› | exact absurd h.2.2 ‹_›)]; exact ⟨rfl, hi2⟩)
        | (rw [no (fun h => by first | exact absurd h.1 ‹_› | exact absurd h.2.1 ‹_› | exact absurd h.2.2 ‹_›)]; exact hi2)
        | skip
    · obtain rfl : i = D := by omega
      have hset : (m2.set (cC F s mt i).2.toNat a).length = F.length := by rw [List.length_set]; exact p3
      have hUs := fun (h0 : 0 < (cC F s mt i).1) (h1 : ¬ m2.getD (cC F s mt i).2.toNat default ≥ 0) => uL_set (n := L.length) (k := (cC F s mt i).2.toNat) (a := a) (mt := m2) (by omega) (by omega) hlt
      have hMs := fun (h0 : 0 < (cC F s mt i).1) (h1 : ¬ m2.getD (cC F s mt i).2.toNat default ≥ 0) (x : Nat) (hx : a + 1 ≤ x) => (mem_setN (mt := m2) (k := (cC F s mt i).2.toNat) (a := a) (x := x) (by omega) (by omega)).trans ⟨fun h => h.elim (fun g => absurd g (by omega)) (fun g => (p5 x hx).1 g), fun h => Or.inr ((p5 x hx).2 h)⟩
      repeat' (first | (with_reducible refine jn_in ?_) | (with_reducible refine cl_ok (by assumption) rfl ?_) | (with_reducible refine cl_okP (by assumption) rfl ?_) | (with_reducible refine br_if (fun hbr => ?_) (fun hbr => ?_)) | (with_reducible refine br_ifn (fun hbr => ?_) (fun hbr => ?_)) | (with_reducible refine br_nb (fun hbr => ?_) (fun hbr => ?_)) | (with_reducible refine br_b (fun hbr => ?_) (fun hbr => ?_)) | simp (disch := first | omega | (simp only [List.length_take, List.length_drop, List.length_append, List.map_cons, List.map_nil, List.length_map, List.length_cons, List.length_nil, List.length_set, List.length_replicate]; omega) | (simp only [List.length_cons, List.length_nil, Nat.zero_add, Nat.reduceAdd])) only [go_sem, ↓reduceIte, Nat.reduceAdd, Int.reduceNeg, Int.reduceAdd, Int.reduceSub, Int.reduceMul, Int.reduceLT, Int.reduceLE, Int.reduceEq, Int.reduceToNat, Nat.reduceBEq, e_sle, e_sge, e_shl1, e_orI, e_andI, e_shr, wrapu, wrap8, tn1, nat1, ix_s, ix_z, st_s, st_z, fl_s, fl_z, fl1_s, fl1_z, map_s, map_z, hs, u_impl_MatchArguments_j3, ix_b, st_b])
      all_goals first
        | omega
        | (exfalso; omega)
        | (rw [if_pos (by omega)] at hst; rw [hMA, M2_inl hst hlt]; rfl)
        | (rw [if_neg (by omega), if_neg (by omega), if_pos ‹_›] at hst; rw [hMA, M2_inl hst hlt]; rfl)
        | exact ⟨(a + 1, m2), rfl, ⟨by simp only; omega, by simp only; rw [hst, if_neg (by omega), if_pos (by omega)], p3, p5⟩, by simp only; omega⟩
        | exact ⟨(a + 1, m2.set (cC F s mt i).2.toNat a), by rw [hUs (by omega) ‹_›], ⟨by simp only; omega, by simp only; rw [hst, if_neg (by omega), if_neg (by omega), if_neg ‹_›], hset, hMs (by omega) ‹_›⟩, by simp only; omega⟩
        | skip
  obtain rfl : a = L.length := by omega
  rw [p2] at hMA
  simp only at hMA
  simp (disch := first | omega | (simp only [List.length_take, List.length_drop, List.length_append, List.map_cons, List.map_nil, List.length_map, List.length_cons, List.length_nil, List.length_set, List.length_replicate]; omega) | (simp only [List.length_cons, List.length_nil, Nat.zero_add, Nat.reduceAdd])) only [go_sem, ↓reduceIte, Nat.reduceAdd, Int.reduceNeg, Int.reduceAdd, Int.reduceSub, Int.reduceMul, Int.reduceLT, Int.reduceLE, Int.reduceEq, Int.reduceToNat, Nat.reduceBEq, e_sle, e_sge, e_shl1, e_orI, e_andI, e_shr, wrapu, wrap8, tn1, nat1, ix_s, ix_z, st_s, st_z, fl_s, fl_z, fl1_s, fl1_z, map_s, map_z, true_and]
  refine br_if (fun hbr => absurd hbr (by omega)) (fun hbr => ?_)
  simp (disch := first | omega | (simp only [List.length_take, List.length_drop, List.length_append, List.map_cons, List.map_nil, List.length_map, List.length_cons, List.length_nil, List.length_set, List.length_replicate]; omega) | (simp only [List.length_cons, List.length_nil, Nat.zero_add, Nat.reduceAdd])) only [go_sem, ↓reduceIte, Nat.reduceAdd, Int.reduceNeg, Int.reduceAdd, Int.reduceSub, Int.reduceMul, Int.reduceLT, Int.reduceLE, Int.reduceEq, Int.reduceToNat, Nat.reduceBEq, e_sle, e_sge, e_shl1, e_orI, e_andI, e_shr, wrapu, wrap8, tn1, nat1, ix_s, ix_z, st_s, st_z, fl_s, fl_z, fl1_s, fl1_z, map_s, map_z, true_and]
  have hUc := uL_len L.length m2
  have hUg := fun (x : Nat) (hx : x < L.length) => uL_get (n := L.length) (mt := m2) hx
  refine lp (fun s : Nat × List Int × List Int => [.sc (.int .i64 (s.1 : Nat)), .sl 3 1 (s.2.1.map encZ), .sl 3 1 (s.2.2.map encZ)])
    (fun s => s.1 ≤ L.length ∧ M3 F L m2 s.1 = .inr (s.2.1, s.2.2) ∧ s.2.1.length = F.length ∧ s.2.2.length ≤ s.1 ∧ ∀ x : Nat, s.1 ≤ x → ((x : Int) ∈ s.2.1 ↔ (x : Int) ∈ m2)) (fun s => L.length - s.1) (0, m2, []) rfl ⟨by simp, rfl, p3, by simp, fun x _ => Iff.rfl⟩ ?_
  rintro ⟨a, m3, rs⟩ ⟨r1, r2, r3, r4, r5⟩
  simp only at r1 r2 r3 r4 r5 ⊢
  simp only [u_impl_MatchArguments_l7]
  by_cases hlt : a < L.length
  · have hst : M3 F L m2 (a + 1) = step3 L F.length (dI F F.length) a (m3, rs) := itS_step r2
    rw [hDD] at hst
    unfold step3 at hst
    simp only at hst
    have hug : (uL L.length m2).getD a default = decide ((a : Int) ∈ m3) := by rw [hUg a hlt, decide_eq_decide]; exact (r5 a (Nat.le_refl _)).symm
    have r6 : ∀ x : Nat, a + 1 ≤ x → ((x : Int) ∈ m3 ↔ (x : Int) ∈ m2) := fun x hx => r5 x (by omega)
    simp (disch := first | omega | (simp only [List.length_take, List.length_drop, List.length_append, List.map_cons, List.map_nil, List.length_map, List.length_cons, List.length_nil, List.length_set, List.length_replicate]; omega) | (simp only [List.length_cons, List.length_nil, Nat.zero_add, Nat.reduceAdd])) only [go_sem, ↓reduceIte, Nat.reduceAdd, Int.reduceNeg, Int.reduceAdd, Int.reduceSub, Int.reduceMul, Int.reduceLT, Int.reduceLE, Int.reduceEq, Int.reduceToNat, Nat.reduceBEq, e_sle, e_sge, e_shl1, e_orI, e_andI, e_shr, wrapu, wrap8, tn1, nat1, ix_s, ix_z, st_s, st_z, fl_s, fl_z, fl1_s, fl1_z, map_s, map_z, true_and]
    refine br_if (fun hbr => ?_) (fun hbr => absurd hbr (by omega))
    simp (disch := first | omega | (simp only [List.length_take, List.length_drop, List.length_append, List.map_cons, List.map_nil, List.length_map, List.length_cons, List.length_nil, List.length_set, List.length_replicate]; omega) | (simp only [List.length_cons, List.length_nil, Nat.zero_add, Nat.reduceAdd])) only [go_sem, ↓reduceIte, Nat.reduceAdd, Int.reduceNeg, Int.reduceAdd, Int.reduceSub, Int.reduceMul, Int.reduceLT, Int.reduceLE, Int.reduceEq, Int.reduceToNat, Nat.reduceBEq, e_sle, e_sge, e_shl1, e_orI, e_andI, e_shr, wrapu, wrap8, tn1, nat1, ix_s, ix_z, st_s, st_z, fl_s, fl_z, fl1_s, fl1_z, map_s, map_z, true_and]
    refine jn_in ?_
    simp (disch := first | omega | (simp only [List.length_take, List.length_drop, List.length_append, List.map_cons, List.map_nil, List.length_map, List.length_cons, List.length_nil, List.length_set, List.length_replicate]; omega) | (simp only [List.length_cons, List.length_nil, Nat.zero_add, Nat.reduceAdd])) only [go_sem, ↓reduceIte, Nat.reduceAdd, Int.reduceNeg, Int.reduceAdd, Int.reduceSub, Int.reduceMul, Int.reduceLT, Int.reduceLE, Int.reduceEq, Int.reduceToNat, Nat.reduceBEq, e_sle, e_sge, e_shl1, e_orI, e_andI, e_shr, wrapu, wrap8, tn1, nat1, ix_s, ix_z, st_s, st_z, fl_s, fl_z, fl1_s, fl1_z, map_s, map_z, ix_b, hug]
    by_cases hm : (a : Int) ∈ m3
    · rw [if_pos hm] at hst
      simp (disch := first | omega | (simp only [List.length_take, List.length_drop, List.length_append, List.map_cons, List.map_nil, List.length_map, List.length_cons, List.length_nil, List.length_set, List.length_replicate]; omega) | (simp only [List.length_cons, List.length_nil, Nat.zero_add, Nat.reduceAdd])) only [go_sem, ↓reduceIte, Nat.reduceAdd, Int.reduceNeg, Int.reduceAdd, Int.reduceSub, Int.reduceMul, Int.reduceLT, Int.reduceLE, Int.reduceEq, Int.reduceToNat, Nat.reduceBEq, e_sle, e_sge, e_shl1, e_orI, e_andI, e_shr, wrapu, wrap8, tn1, nat1, ix_s, ix_z, st_s, st_z, fl_s, fl_z, fl1_s, fl1_z, map_s, map_z, hm]
      repeat' (first | (with_reducible refine jn_in ?_) | (with_reducible refine cl_ok (by assumption) rfl ?_) | (with_reducible refine cl_okP (by assumption) rfl ?_) | (with_reducible refine br_if (fun hbr => ?_) (fun hbr => ?_)) | (with_reducible refine br_ifn (fun hbr => ?_) (fun hbr => ?_)) | (with_reducible refine br_nb (fun hbr => ?_) (fun hbr => ?_)) | (with_reducible refine br_b (fun hbr => ?_) (fun hbr => ?_)) | simp (disch := first | omega | (simp only [List.length_take, List.length_drop, List.length_append, List.map_cons, List.map_nil, List.length_map, List.length_cons, List.length_nil, List.length_set, List.length_replicate]; omega) | (simp only [List.length_cons, List.length_nil, Nat.zero_add, Nat.reduceAdd])) only [go_sem, ↓reduceIte, Nat.reduceAdd, Int.reduceNeg, Int.reduceAdd, Int.reduceSub, Int.reduceMul, Int.reduceLT, Int.reduceLE, Int.reduceEq, Int.reduceToNat, Nat.reduceBEq, e_sle, e_sge, e_shl1, e_orI, e_andI, e_shr, wrapu, wrap8, tn1, nat1, ix_s, ix_z, st_s, st_z, fl_s, fl_z, fl1_s, fl1_z, map_s, map_z, u_impl_MatchArguments_j6])
      exact ⟨(a + 1, m3, rs), rfl, ⟨by simp only; omega, hst, r3, by simp only; omega, r6⟩, by simp only; omega⟩
    rw [if_neg hm] at hst
    simp (disch := first | omega | (simp only [List.length_take, List.length_drop, List.length_append, List.map_cons, List.map_nil, List.length_map, List.length_cons, List.length_nil, List.length_set, List.length_replicate]; omega) | (simp only [List.length_cons, List.length_nil, Nat.zero_add, Nat.reduceAdd])) only [go_sem, ↓reduceIte, Nat.reduceAdd, Int.reduceNeg, Int.reduceAdd, Int.reduceSub, Int.reduceMul, Int.reduceLT, Int.reduceLE, Int.reduceEq, Int.reduceToNat, Nat.reduceBEq, e_sle, e_sge, e_shl1, e_orI, e_andI, e_shr, wrapu, wrap8, tn1, nat1, ix_s, ix_z, st_s, st_z, fl_s, fl_z, fl1_s, fl1_z, map_s, map_z, hm]
    refine jn_in ?_
    simp (disch := first | omega | (simp only [List.length_take, List.length_drop, List.length_append, List.map_cons, List.map_nil, List.length_map, List.length_cons, List.length_nil, List.length_set, List.length_replicate]; omega) | (simp only [List.length_cons, List.length_nil, Nat.zero_add, Nat.reduceAdd])) only [go_sem, ↓reduceIte, Nat.reduceAdd, Int.reduceNeg, Int.reduceAdd, Int.reduceSub, Int.reduceMul, Int.reduceLT, Int.reduceLE, Int.reduceEq, Int.reduceToNat, Nat.reduceBEq, e_sle, e_sge, e_shl1, e_orI, e_andI, e_shr, wrapu, wrap8, tn1, nat1, ix_s, ix_z, st_s, st_z, fl_s, fl_z, fl1_s, fl1_z, map_s, map_z, true_and]
    refine lp (fun i : Nat => [.sc (.int .i64 i)]) (fun i => i ≤ D ∧ ∀ j, j < i → ¬ m3.getD j default < 0) (fun i => D - i) 0 rfl ⟨by omega, fun j hj => by omega⟩ ?_
    rintro y ⟨s1, s2⟩
    simp only [u_impl_MatchArguments_l4]
    have hsl : (m3.set y (a : Int)).length = F.length := by rw [List.length_set]; exact r3
    by_cases hy : y < D
    · by_cases h7 : m3.getD y default < 0
      · have hnx : nx m3 D = y := nx_is (by omega) s2 (Or.inr h7)
        rw [hnx] at hst
        have hMs := fun (x : Nat) (hx : a + 1 ≤ x) => (mem_setN (mt := m3) (k := y) (a := a) (x := x) (by omega) h7).trans ⟨fun h => h.elim (fun g => absurd g (by omega)) (fun g => (r6 x hx).1 g), fun h => Or.inr ((r6 x hx).2 h)⟩
        repeat' (first | (with_reducible refine jn_in ?_) | (with_reducible refine cl_ok (by assumption) rfl ?_) | (with_reducible refine cl_okP (by assumption) rfl ?_) | (with_reducible refine br_if (fun hbr => ?_) (fun hbr => ?_)) | (with_reducible refine br_ifn (fun hbr => ?_) (fun hbr => ?_)) | (with_reducible refine br_nb (fun hbr => ?_) (fun hbr => ?_)) | (with_reducible refine br_b (fun hbr => ?_) (fun hbr => ?_)) | simp (disch := first | omega | (simp only [List.length_take, List.length_drop, List.length_append, List.map_cons, List.map_nil, List.length_map, List.length_cons, List.length_nil, List.length_set, List.length_replicate]; omega) | (simp only [List.length_cons, List.length_nil, Nat.zero_add, Nat.reduceAdd])) only [go_sem, ↓reduceIte, Nat.reduceAdd, Int.reduceNeg, Int.reduceAdd, Int.reduceSub, Int.reduceMul, Int.reduceLT, Int.reduceLE, Int.reduceEq, Int.reduceToNat, Nat.reduceBEq, e_sle, e_sge, e_shl1, e_orI, e_andI, e_shr, wrapu, wrap8, tn1, nat1, ix_s, ix_z, st_s, st_z, fl_s, fl_z, fl1_s, fl1_z, map_s, map_z, u_impl_MatchArguments_j5, u_impl_MatchArguments_j6])
        all_goals first
          | omega
          | (exfalso; omega)
          | exact ⟨(a + 1, m3.set y (a : Int), rs), rfl, ⟨by simp only; omega, by simp only; rw [hst, if_pos ⟨‹_›, hy⟩], hsl, by simp only; omega, hMs⟩, by simp only; omega⟩
          | exact ⟨(a + 1, m3, rs ++ [(a : Int)]), rfl, ⟨by simp only; omega, by simp only; rw [hst, if_neg (fun h => absurd h.1 ‹_›), if_pos (by omega)], r3, by simp only [List.length_append, List.length_singleton]; omega, r6⟩, by simp only; omega⟩
          | (rw [if_neg (fun h => absurd h.1 ‹_›), if_neg (by omega)] at hst; rw [hMA, M3_inl hst hlt]; rfl)
          | skip
      · repeat' (first | (with_reducible refine jn_in ?_) | (with_reducible refine cl_ok (by assumption) rfl ?_) | (with_reducible refine cl_okP (by assumption) rfl ?_) | (with_reducible refine br_if (fun hbr => ?_) (fun hbr => ?_)) | (with_reducible refine br_ifn (fun hbr => ?_) (fun hbr => ?_)) | (with_reducible refine br_nb (fun hbr => ?_) (fun hbr => ?_)) | (with_reducible refine br_b (fun hbr => ?_) (fun hbr => ?_)) | simp (disch := first | omega | (simp only [List.length_take, List.length_drop, List.length_append, List.map_cons, List.map_nil, List.length_map, List.length_cons, List.length_nil, List.length_set, List.length_replicate]; omega) | (simp only [List.length_cons, List.length_nil, Nat.zero_add, Nat.reduceAdd])) only [go_sem, ↓reduceIte, Nat.reduceAdd, Int.reduceNeg, Int.reduceAdd, Int.reduceSub, Int.reduceMul, Int.reduceLT, Int.reduceLE, Int.reduceEq, Int.reduceToNat, Nat.reduceBEq, e_sle, e_sge, e_shl1, e_orI, e_andI, e_shr, wrapu, wrap8, tn1, nat1, ix_s, ix_z, st_s, st_z, fl_s, fl_z, fl1_s, fl1_z, map_s, map_z, u_impl_MatchArguments_j5, u_impl_MatchArguments_j6])
        all_goals first
          | omega
          | (exfalso; omega)
          | exact ⟨y + 1, rfl, ⟨by omega, fun j hj => by
              rcases Nat.lt_or_ge j y with h | h
              · exact s2 j h
              · obtain rfl : j = y := by omega
                exact h7⟩, by omega⟩
          | skip
    · obtain rfl : y = D := by omega
      have hnx : nx m3 y = y := nx_is (by omega) s2 (Or.inl rfl)
      rw [hnx, if_neg (fun h => absurd h.2 (by omega))] at hst
      repeat' (first | (with_reducible refine jn_in ?_) | (with_reducible refine cl_ok (by assumption) rfl ?_) | (with_reducible refine cl_okP (by assumption) rfl ?_) | (with_reducible refine br_if (fun hbr => ?_) (fun hbr => ?_)) | (with_reducible refine br_ifn (fun hbr => ?_) (fun hbr => ?_)) | (with_reducible refine br_nb (fun hbr => ?_) (fun hbr => ?_)) | (with_reducible refine br_b (fun hbr => ?_) (fun hbr => ?_)) | simp (disch := first | omega | (simp only [List.length_take, List.length_drop, List.length_append, List.map_cons, List.map_nil, List.length_map, List.length_cons, List.length_nil, List.length_set, List.length_replicate]; omega) | (simp only [List.length_cons, List.length_nil, Nat.zero_add, Nat.reduceAdd])) only [go_sem, ↓reduceIte, Nat.reduceAdd, Int.reduceNeg, Int.reduceAdd, Int.reduceSub, Int.reduceMul, Int.reduceLT, Int.reduceLE, Int.reduceEq, Int.reduceToNat, Nat.reduceBEq, e_sle, e_sge, e_shl1, e_orI, e_andI, e_shr, wrapu, wrap8, tn1, nat1, ix_s, ix_z, st_s, st_z, fl_s, fl_z, fl1_s, fl1_z, map_s, map_z, u_impl_MatchArguments_j5, u_impl_MatchArguments_j6])
      all_goals first
        | omega
        | (exfalso; omega)
        | exact ⟨(a + 1, m3, rs ++ [(a : Int)]), rfl, ⟨by simp only; omega, by simp only; rw [hst, if_pos (by omega)], r3, by simp only [List.length_append, List.length_singleton]; omega, r6⟩, by simp only; omega⟩
        | (rw [if_neg (by omega)] at hst; rw [hMA, M3_inl hst hlt]; rfl)
        | skip
  · obtain rfl : a = L.length := by omega
    rw [r2] at hMA
    simp only [outM] at hMA
    rw [hMA]
    simp (disch := first | omega | (simp only [List.length_take, List.length_drop, List.length_append, List.map_cons, List.map_nil, List.length_map, List.length_cons, List.length_nil, List.length_set, List.length_replicate]; omega) | (simp only [List.length_cons, List.length_nil, Nat.zero_add, Nat.reduceAdd])) only [go_sem, ↓reduceIte, Nat.reduceAdd, Int.reduceNeg, Int.reduceAdd, Int.reduceSub, Int.reduceMul, Int.reduceLT, Int.reduceLE, Int.reduceEq, Int.reduceToNat, Nat.reduceBEq, e_sle, e_sge, e_shl1, e_orI, e_andI, e_shr, wrapu, wrap8, tn1, nat1, ix_s, ix_z, st_s, st_z, fl_s, fl_z, fl1_s, fl1_z, map_s, map_z, true_and]
    refine br_if (fun hbr => absurd hbr (by omega)) (fun hbr => ?_)
    simp (disch := first | omega | (simp only [List.length_take, List.length_drop, List.length_append, List.map_cons, List.map_nil, List.length_map, List.length_cons, List.length_nil, List.length_set, List.length_replicate]; omega) | (simp only [List.length_cons, List.length_nil, Nat.zero_add, Nat.reduceAdd])) only [go_sem, ↓reduceIte, Nat.reduceAdd, Int.reduceNeg, Int.reduceAdd, Int.reduceSub, Int.reduceMul, Int.reduceLT, Int.reduceLE, Int.reduceEq, Int.reduceToNat, Nat.reduceBEq, e_sle, e_sge, e_shl1, e_orI, e_andI, e_shr, wrapu, wrap8, tn1, nat1, ix_s, ix_z, st_s, st_z, fl_s, fl_z, fl1_s, fl1_z, map_s, map_z, true_and]
    rfl
end Go.Proofs.Ytmbjaohohkfjbaa
