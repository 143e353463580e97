/- Terms numbered anew: spec.l21Tidy. -/
import Derived.Test.YtgmpajfhjnojiaaUDrop1
import Derived.Test.YtgmpajfhjnojiaaHier
namespace Go.Proofs.Ytgmpajfhjnojiaa
open Go.RowKit
set_option linter.unusedVariables false
set_option linter.unusedSimpArgs false
set_option maxRecDepth 100000

/-- bits below i -/
def cntU (u : Nat) : Nat → Nat
  | 0 => 0
  | i + 1 => cntU u i + u / 2 ^ i % 2
theorem cntU_le (u : Nat) : ∀ i, cntU u i ≤ i
  | 0 => Nat.le_refl _
  | i + 1 => by have := cntU_le u i; rw [cntU]; omega
def varsU (u : Nat) (V : List ByteArray) : Nat → List ByteArray
  | 0 => []
  | i + 1 => if u / 2 ^ i % 2 = 1 then varsU u V i ++ [V.getD i default] else varsU u V i
theorem varsU_len (u : Nat) (V : List ByteArray) : ∀ i, (varsU u V i).length = cntU u i
  | 0 => rfl
  | i + 1 => by
    have h := varsU_len u V i
    rw [varsU, cntU]
    split
    · rename_i e; rw [List.length_append, h, e]; rfl
    · rename_i e; rw [h]; omega
theorem varsU_t {u : Nat} {V : List ByteArray} {i : Nat} (h : u / 2 ^ i % 2 = 1) : varsU u V (i + 1) = varsU u V i ++ [V.getD i default] := by rw [varsU, if_pos h]
theorem varsU_f {u : Nat} {V : List ByteArray} {i : Nat} (h : ¬ u / 2 ^ i % 2 = 1) : varsU u V (i + 1) = varsU u V i := by rw [varsU, if_neg h]
def cmpS (u x : Nat) : Nat → Nat
  | 0 => 0
  | i + 1 => if u / 2 ^ i % 2 = 1 then cmpS u x i ||| (x / 2 ^ i % 2 * 2 ^ cntU u i) else cmpS u x i
theorem cmpS_lt (u x : Nat) : ∀ i, cmpS u x i < 2 ^ cntU u i
  | 0 => by simp [cmpS, cntU]
  | i + 1 => by
    have h := cmpS_lt u x i
    rw [cmpS, cntU]
    split
    · rename_i e
      rw [e, Nat.pow_succ]
      have h2 : x / 2 ^ i % 2 * 2 ^ cntU u i < 2 ^ (cntU u i + 1) := by
        rw [Nat.pow_succ]
        have : x / 2 ^ i % 2 < 2 := Nat.mod_lt _ (by decide)
        have hp := Nat.pow_pos (n := cntU u i) (show 0 < 2 by decide)
        rcases (show x / 2 ^ i % 2 = 0 ∨ x / 2 ^ i % 2 = 1 by omega) with e | e <;> rw [e] <;> omega
      have := Nat.or_lt_two_pow (Nat.lt_of_lt_of_le h (Nat.pow_le_pow_right (by decide) (Nat.le_succ _))) h2
      rwa [Nat.pow_succ] at this
    · rename_i e
      rw [show u / 2 ^ i % 2 = 0 by omega, Nat.add_zero]
      exact h
theorem cmpS_t {u x i : Nat} (h : u / 2 ^ i % 2 = 1) : cmpS u x (i + 1) = cmpS u x i ||| (x / 2 ^ i % 2 * 2 ^ cntU u i) := by rw [cmpS, if_pos h]
theorem cmpS_f {u x i : Nat} (h : ¬ u / 2 ^ i % 2 = 1) : cmpS u x (i + 1) = cmpS u x i := by rw [cmpS, if_neg h]
theorem cntU_t {u i : Nat} (h : u / 2 ^ i % 2 = 1) : cntU u (i + 1) = cntU u i + 1 := by rw [cntU, h]
theorem cntU_f {u i : Nat} (h : ¬ u / 2 ^ i % 2 = 1) : cntU u (i + 1) = cntU u i := by rw [cntU]; omega
def cmpZ (u n : Nat) (x : Int) : Int := (cmpS u x.toNat n : Nat)
def orT (T : List Int) : Nat := orL T T.length
theorem orL_lt32 {T : List Int} (hT : ∀ i, i < T.length → 0 ≤ T.getD i default ∧ T.getD i default < 32) : ∀ i, i ≤ T.length → orL T i < 32
  | 0, _ => by simp [orL]
  | i + 1, h => by
    have h1 := orL_lt32 hT i (by omega)
    have h2 := hT i (by omega)
    exact Nat.or_lt_two_pow (n := 5) h1 (by omega)
theorem map_take {α β : Type} [Inhabited α] (f : α → β) {l : List α} {i : Nat} (h : i < l.length) : (l.take (i + 1)).map f = (l.take i).map f ++ [f (l.getD i default)] := by
  rw [List.take_add_one, List.getElem?_eq_getElem h, List.map_append, List.getD_eq_getElem?_getD, List.getElem?_eq_getElem h]; rfl
theorem and1 (n : Nat) : n &&& 1 = n % 2 := Nat.and_one_is_mod n
set_option maxHeartbeats 4000000 in
theorem specTidy_m (V : List ByteArray) (T : List Int) (hV : V.length ≤ 5) (hl : T.length ≤ 100) (hT : ∀ i, i < T.length → 0 ≤ T.getD i default ∧ T.getD i default < 32) :
    Meets Try.prog 28 [(false, [encSs V]), (false, [encZs T])] [(false, [encSs (varsU (orT T) V V.length)], true), (false, [encZs (T.map (cmpZ (orT T) V.length))], true)] := by
  refine meets_upf Try.func28 u_spec_l21Tidy_g rfl ?_; simp only [u_spec_l21Tidy_u]
  simp only [encSs, encZs]
  simp (disch := first | omega | (simp only [List.length_take, List.length_drop, List.length_append, List.map_cons, List.map_nil, List.length_map, List.length_cons, List.length_nil, List.length_set, List.length_replicate]; omega) | (simp only [List.length_cons, List.length_nil, Nat.zero_add, Nat.reduceAdd])) only [go_sem, ↓reduceIte, Nat.reduceAdd, Int.reduceNeg, Int.reduceAdd, Int.reduceSub, Int.reduceMul, Int.reduceLT, Int.reduceLE, Int.reduceEq, Int.reduceToNat, Nat.reduceBEq, e_sle, e_sge, e_shl1, e_orI, e_andI, e_shr, wrapu, wrap8, tn1, nat1, ix_s, ix_z, st_s, st_z, fl_s, fl_z, fl1_s, fl1_z, map_s, map_z, true_and]
  refine lp_n T.length (fun i => [.sc (.int .i64 i), .sc (.int .i64 (orL T i : Nat))]) rfl fun i hi => ?_
  simp only [u_spec_l21Tidy_l5]
  have ho := orL_lt32 hT i hi
  by_cases hlt : i < T.length
  · have hz := hT i hlt
    have e1 : orL T (i + 1) = orL T i ||| (T.getD i default).toNat := rfl
    repeat' (first | (with_reducible refine jn_in ?_) | (with_reducible refine cl_ok (by assumption) rfl ?_) | (with_reducible refine cl_okP (by assumption) rfl ?_) | (with_reducible refine br_if (fun hbr => ?_) (fun hbr => ?_)) | (with_reducible refine br_ifn (fun hbr => ?_) (fun hbr => ?_)) | (with_reducible refine br_nb (fun hbr => ?_) (fun hbr => ?_)) | (with_reducible refine br_b (fun hbr => ?_) (fun hbr => ?_)) | simp (disch := first | omega | (simp only [List.length_take, List.length_drop, List.length_append, List.map_cons, List.map_nil, List.length_map, List.length_cons, List.length_nil, List.length_set, List.length_replicate]; omega) | (simp only [List.length_cons, List.length_nil, Nat.zero_add, Nat.reduceAdd])) only [go_sem, ↓reduceIte, Nat.reduceAdd, Int.reduceNeg, Int.reduceAdd, Int.reduceSub, Int.reduceMul, Int.reduceLT, Int.reduceLE, Int.reduceEq, Int.reduceToNat, Nat.reduceBEq, e_sle, e_sge, e_shl1, e_orI, e_andI, e_shr, wrapu, wrap8, tn1, nat1, ix_s, ix_z, st_s, st_z, fl_s, fl_z, fl1_s, fl1_z, map_s, map_z, e1])
    all_goals first | omega | exact ⟨rfl, hlt⟩ | skip
  obtain rfl : i = T.length := by omega
  clear hi hlt
  have hu : orL T T.length = orT T := rfl
  rw [hu] at ho ⊢
  generalize orT T = u at *
  simp (disch := first | omega | (simp only [List.length_take, List.length_drop, List.length_append, List.map_cons, List.map_nil, List.length_map, List.length_cons, List.length_nil, List.length_set, List.length_replicate]; omega) | (simp only [List.length_cons, List.length_nil, Nat.zero_add, Nat.reduceAdd])) only [go_sem, ↓reduceIte, Nat.reduceAdd, Int.reduceNeg, Int.reduceAdd, Int.reduceSub, Int.reduceMul, Int.reduceLT, Int.reduceLE, Int.reduceEq, Int.reduceToNat, Nat.reduceBEq, e_sle, e_sge, e_shl1, e_orI, e_andI, e_shr, wrapu, wrap8, tn1, nat1, ix_s, ix_z, st_s, st_z, fl_s, fl_z, fl1_s, fl1_z, map_s, map_z, true_and]
  refine br_if (fun hbr => ?_) (fun hbr => ?_)
  · omega
  simp (disch := first | omega | (simp only [List.length_take, List.length_drop, List.length_append, List.map_cons, List.map_nil, List.length_map, List.length_cons, List.length_nil, List.length_set, List.length_replicate]; omega) | (simp only [List.length_cons, List.length_nil, Nat.zero_add, Nat.reduceAdd])) only [go_sem, ↓reduceIte, Nat.reduceAdd, Int.reduceNeg, Int.reduceAdd, Int.reduceSub, Int.reduceMul, Int.reduceLT, Int.reduceLE, Int.reduceEq, Int.reduceToNat, Nat.reduceBEq, e_sle, e_sge, e_shl1, e_orI, e_andI, e_shr, wrapu, wrap8, tn1, nat1, ix_s, ix_z, st_s, st_z, fl_s, fl_z, fl1_s, fl1_z, map_s, map_z, true_and]
  refine lp_n V.length (fun i => [.sc (.int .i64 i), .sl 9 1 ((varsU u V i).map encS)]) rfl fun i hi => ?_
  simp only [u_spec_l21Tidy_l4]
  have hvl := varsU_len u V i
  have hcl := cntU_le u i
  by_cases hlt : i < V.length
  · have e2 := @e_shr false .i64 u i (by omega)
    have e3 := @e_and false (u / 2 ^ i) 1 (Nat.lt_of_le_of_lt (Nat.div_le_self _ _) (by omega))
    rw [and1] at e3
    simp only [Int.natCast_one] at e3
    by_cases hb : u / 2 ^ i % 2 = 1
    · have hv := varsU_t (V := V) hb
      repeat' (first | (with_reducible refine jn_in ?_) | (with_reducible refine cl_ok (by assumption) rfl ?_) | (with_reducible refine cl_okP (by assumption) rfl ?_) | (with_reducible refine br_if (fun hbr => ?_) (fun hbr => ?_)) | (with_reducible refine br_ifn (fun hbr => ?_) (fun hbr => ?_)) | (with_reducible refine br_nb (fun hbr => ?_) (fun hbr => ?_)) | (with_reducible refine br_b (fun hbr => ?_) (fun hbr => ?_)) | simp (disch := first | omega | (simp only [List.length_take, List.length_drop, List.length_append, List.map_cons, List.map_nil, List.length_map, List.length_cons, List.length_nil, List.length_set, List.length_replicate]; omega) | (simp only [List.length_cons, List.length_nil, Nat.zero_add, Nat.reduceAdd])) only [go_sem, ↓reduceIte, Nat.reduceAdd, Int.reduceNeg, Int.reduceAdd, Int.reduceSub, Int.reduceMul, Int.reduceLT, Int.reduceLE, Int.reduceEq, Int.reduceToNat, Nat.reduceBEq, e_sle, e_sge, e_shl1, e_orI, e_andI, e_shr, wrapu, wrap8, tn1, nat1, ix_s, ix_z, st_s, st_z, fl_s, fl_z, fl1_s, fl1_z, map_s, map_z, e2, e3, hb, hv, u_spec_l21Tidy_j0])
      all_goals first | omega | exact ⟨rfl, hlt⟩ | skip
    · have hb0 : u / 2 ^ i % 2 = 0 := by omega
      have hv := varsU_f (V := V) hb
      repeat' (first | (with_reducible refine jn_in ?_) | (with_reducible refine cl_ok (by assumption) rfl ?_) | (with_reducible refine cl_okP (by assumption) rfl ?_) | (with_reducible refine br_if (fun hbr => ?_) (fun hbr => ?_)) | (with_reducible refine br_ifn (fun hbr => ?_) (fun hbr => ?_)) | (with_reducible refine br_nb (fun hbr => ?_) (fun hbr => ?_)) | (with_reducible refine br_b (fun hbr => ?_) (fun hbr => ?_)) | simp (disch := first | omega | (simp only [List.length_take, List.length_drop, List.length_append, List.map_cons, List.map_nil, List.length_map, List.length_cons, List.length_nil, List.length_set, List.length_replicate]; omega) | (simp only [List.length_cons, List.length_nil, Nat.zero_add, Nat.reduceAdd])) only [go_sem, ↓reduceIte, Nat.reduceAdd, Int.reduceNeg, Int.reduceAdd, Int.reduceSub, Int.reduceMul, Int.reduceLT, Int.reduceLE, Int.reduceEq, Int.reduceToNat, Nat.reduceBEq, e_sle, e_sge, e_shl1, e_orI, e_andI, e_shr, wrapu, wrap8, tn1, nat1, ix_s, ix_z, st_s, st_z, fl_s, fl_z, fl1_s, fl1_z, map_s, map_z, e2, e3, hb0, hv, u_spec_l21Tidy_j0])
      all_goals first | omega | exact ⟨rfl, hlt⟩ | skip
  obtain rfl : i = V.length := by omega
  clear hi hlt
  simp (disch := first | omega | (simp only [List.length_take, List.length_drop, List.length_append, List.map_cons, List.map_nil, List.length_map, List.length_cons, List.length_nil, List.length_set, List.length_replicate]; omega) | (simp only [List.length_cons, List.length_nil, Nat.zero_add, Nat.reduceAdd])) only [go_sem, ↓reduceIte, Nat.reduceAdd, Int.reduceNeg, Int.reduceAdd, Int.reduceSub, Int.reduceMul, Int.reduceLT, Int.reduceLE, Int.reduceEq, Int.reduceToNat, Nat.reduceBEq, e_sle, e_sge, e_shl1, e_orI, e_andI, e_shr, wrapu, wrap8, tn1, nat1, ix_s, ix_z, st_s, st_z, fl_s, fl_z, fl1_s, fl1_z, map_s, map_z, true_and]
  refine br_if (fun hbr => ?_) (fun hbr => ?_)
  · omega
  simp (disch := first | omega | (simp only [List.length_take, List.length_drop, List.length_append, List.map_cons, List.map_nil, List.length_map, List.length_cons, List.length_nil, List.length_set, List.length_replicate]; omega) | (simp only [List.length_cons, List.length_nil, Nat.zero_add, Nat.reduceAdd])) only [go_sem, ↓reduceIte, Nat.reduceAdd, Int.reduceNeg, Int.reduceAdd, Int.reduceSub, Int.reduceMul, Int.reduceLT, Int.reduceLE, Int.reduceEq, Int.reduceToNat, Nat.reduceBEq, e_sle, e_sge, e_shl1, e_orI, e_andI, e_shr, wrapu, wrap8, tn1, nat1, ix_s, ix_z, st_s, st_z, fl_s, fl_z, fl1_s, fl1_z, map_s, map_z, true_and]
  refine lp_n T.length (fun i => [.sc (.int .i64 i), .sl 3 1 (((T.take i).map (cmpZ u V.length)).map encZ)]) rfl fun i hi => ?_
  simp only [u_spec_l21Tidy_l3]
  by_cases hlt : i < T.length
  · have hz := hT i hlt
    have hm := map_take (cmpZ u V.length) hlt
    simp (disch := first | omega | (simp only [List.length_take, List.length_drop, List.length_append, List.map_cons, List.map_nil, List.length_map, List.length_cons, List.length_nil, List.length_set, List.length_replicate]; omega) | (simp only [List.length_cons, List.length_nil, Nat.zero_add, Nat.reduceAdd])) only [go_sem, ↓reduceIte, Nat.reduceAdd, Int.reduceNeg, Int.reduceAdd, Int.reduceSub, Int.reduceMul, Int.reduceLT, Int.reduceLE, Int.reduceEq, Int.reduceToNat, Nat.reduceBEq, e_sle, e_sge, e_shl1, e_orI, e_andI, e_shr, wrapu, wrap8, tn1, nat1, ix_s, ix_z, st_s, st_z, fl_s, fl_z, fl1_s, fl1_z, map_s, map_z, true_and]
    refine br_if (fun hbr => ?_) (fun hbr => ?_)
    rotate_left
    · omega
    simp (disch := first | omega | (simp only [List.length_take, List.length_drop, List.length_append, List.map_cons, List.map_nil, List.length_map, List.length_cons, List.length_nil, List.length_set, List.length_replicate]; omega) | (simp only [List.length_cons, List.length_nil, Nat.zero_add, Nat.reduceAdd])) only [go_sem, ↓reduceIte, Nat.reduceAdd, Int.reduceNeg, Int.reduceAdd, Int.reduceSub, Int.reduceMul, Int.reduceLT, Int.reduceLE, Int.reduceEq, Int.reduceToNat, Nat.reduceBEq, e_sle, e_sge, e_shl1, e_orI, e_andI, e_shr, wrapu, wrap8, tn1, nat1, ix_s, ix_z, st_s, st_z, fl_s, fl_z, fl1_s, fl1_z, map_s, map_z, true_and]
    obtain ⟨x, hx⟩ := Int.eq_ofNat_of_zero_le hz.1
    rw [hx] at hz hm
    refine lp_n V.length (fun k => [.sc (.int .i64 k), .sc (.int .i64 (cntU u k : Nat)), .sc (.int .i64 (cmpS u x k : Nat))]) rfl fun k hk => ?_
    simp only [u_spec_l21Tidy_l2]
    have hc := cmpS_lt u x k
    have hcl := cntU_le u k
    have hp := pow_le5 (n := cntU u k) (by omega)
    by_cases hkl : k < V.length
    · have e2 := @e_shr false .i64 u k (by omega)
      have e3 := @e_and false (u / 2 ^ k) 1 (Nat.lt_of_le_of_lt (Nat.div_le_self _ _) (by omega))
      have e4 := @e_shr false .i64 x k (by omega)
      have e5 := @e_and false (x / 2 ^ k) 1 (Nat.lt_of_le_of_lt (Nat.div_le_self _ _) (by omega))
      rw [and1] at e3 e5
      simp only [Int.natCast_one] at e3 e5
      have hxm : x / 2 ^ k % 2 < 2 := Nat.mod_lt _ (by decide)
      have hle : x / 2 ^ k % 2 * 2 ^ cntU u k ≤ 1 * 32 := Nat.mul_le_mul (by omega) hp
      have e6 := @e_shl false .i64 (x / 2 ^ k % 2) (cntU u k) (by omega) (by omega)
      have e7 := @e_or false (cmpS u x k) (x / 2 ^ k % 2 * 2 ^ cntU u k) (by omega) (by omega)
      by_cases hb : u / 2 ^ k % 2 = 1
      · have hv := cmpS_t (x := x) hb
        have hv2 := cntU_t hb
        rw [hv, hv2]
        repeat' (first | (with_reducible refine jn_in ?_) | (with_reducible refine cl_ok (by assumption) rfl ?_) | (with_reducible refine cl_okP (by assumption) rfl ?_) | (with_reducible refine br_if (fun hbr => ?_) (fun hbr => ?_)) | (with_reducible refine br_ifn (fun hbr => ?_) (fun hbr => ?_)) | (with_reducible refine br_nb (fun hbr => ?_) (fun hbr => ?_)) | (with_reducible refine br_b (fun hbr => ?_) (fun hbr => ?_)) | simp (disch := first | omega | (simp only [List.length_take, List.length_drop, List.length_append, List.map_cons, List.map_nil, List.length_map, List.length_cons, List.length_nil, List.length_set, List.length_replicate]; omega) | (simp only [List.length_cons, List.length_nil, Nat.zero_add, Nat.reduceAdd])) only [go_sem, ↓reduceIte, Nat.reduceAdd, Int.reduceNeg, Int.reduceAdd, Int.reduceSub, Int.reduceMul, Int.reduceLT, Int.reduceLE, Int.reduceEq, Int.reduceToNat, Nat.reduceBEq, e_sle, e_sge, e_shl1, e_orI, e_andI, e_shr, wrapu, wrap8, tn1, nat1, ix_s, ix_z, st_s, st_z, fl_s, fl_z, fl1_s, fl1_z, map_s, map_z, e2, e3, hb, e4, e5, e6, e7, hx, u_spec_l21Tidy_j1])
        all_goals first | omega | exact ⟨rfl, hkl⟩ | skip
      · have hb0 : u / 2 ^ k % 2 = 0 := by omega
        have hv := cmpS_f (x := x) hb
        have hv2 := cntU_f hb
        rw [hv, hv2]
        repeat' (first | (with_reducible refine jn_in ?_) | (with_reducible refine cl_ok (by assumption) rfl ?_) | (with_reducible refine cl_okP (by assumption) rfl ?_) | (with_reducible refine br_if (fun hbr => ?_) (fun hbr => ?_)) | (with_reducible refine br_ifn (fun hbr => ?_) (fun hbr => ?_)) | (with_reducible refine br_nb (fun hbr => ?_) (fun hbr => ?_)) | (with_reducible refine br_b (fun hbr => ?_) (fun hbr => ?_)) | simp (disch := first | omega | (simp only [List.length_take, List.length_drop, List.length_append, List.map_cons, List.map_nil, List.length_map, List.length_cons, List.length_nil, List.length_set, List.length_replicate]; omega) | (simp only [List.length_cons, List.length_nil, Nat.zero_add, Nat.reduceAdd])) only [go_sem, ↓reduceIte, Nat.reduceAdd, Int.reduceNeg, Int.reduceAdd, Int.reduceSub, Int.reduceMul, Int.reduceLT, Int.reduceLE, Int.reduceEq, Int.reduceToNat, Nat.reduceBEq, e_sle, e_sge, e_shl1, e_orI, e_andI, e_shr, wrapu, wrap8, tn1, nat1, ix_s, ix_z, st_s, st_z, fl_s, fl_z, fl1_s, fl1_z, map_s, map_z, e2, e3, hb0, u_spec_l21Tidy_j1])
        all_goals first | omega | exact ⟨rfl, hkl⟩ | skip
    obtain rfl : k = V.length := by omega
    rw [hm]
    repeat' (first | (with_reducible refine jn_in ?_) | (with_reducible refine cl_ok (by assumption) rfl ?_) | (with_reducible refine cl_okP (by assumption) rfl ?_) | (with_reducible refine br_if (fun hbr => ?_) (fun hbr => ?_)) | (with_reducible refine br_ifn (fun hbr => ?_) (fun hbr => ?_)) | (with_reducible refine br_nb (fun hbr => ?_) (fun hbr => ?_)) | (with_reducible refine br_b (fun hbr => ?_) (fun hbr => ?_)) | simp (disch := first | omega | (simp only [List.length_take, List.length_drop, List.length_append, List.map_cons, List.map_nil, List.length_map, List.length_cons, List.length_nil, List.length_set, List.length_replicate]; omega) | (simp only [List.length_cons, List.length_nil, Nat.zero_add, Nat.reduceAdd])) only [go_sem, ↓reduceIte, Nat.reduceAdd, Int.reduceNeg, Int.reduceAdd, Int.reduceSub, Int.reduceMul, Int.reduceLT, Int.reduceLE, Int.reduceEq, Int.reduceToNat, Nat.reduceBEq, e_sle, e_sge, e_shl1, e_orI, e_andI, e_shr, wrapu, wrap8, tn1, nat1, ix_s, ix_z, st_s, st_z, fl_s, fl_z, fl1_s, fl1_z, map_s, map_z, true_and])
    all_goals first | omega | exact ⟨rfl, hlt⟩ | skip
  obtain rfl : i = T.length := by omega
  rw [List.take_length]
  repeat' (first | (with_reducible refine jn_in ?_) | (with_reducible refine cl_ok (by assumption) rfl ?_) | (with_reducible refine cl_okP (by assumption) rfl ?_) | (with_reducible refine br_if (fun hbr => ?_) (fun hbr => ?_)) | (with_reducible refine br_ifn (fun hbr => ?_) (fun hbr => ?_)) | (with_reducible refine br_nb (fun hbr => ?_) (fun hbr => ?_)) | (with_reducible refine br_b (fun hbr => ?_) (fun hbr => ?_)) | simp (disch := first | omega | (simp only [List.length_take, List.length_drop, List.length_append, List.map_cons, List.map_nil, List.length_map, List.length_cons, List.length_nil, List.length_set, List.length_replicate]; omega) | (simp only [List.length_cons, List.length_nil, Nat.zero_add, Nat.reduceAdd])) only [go_sem, ↓reduceIte, Nat.reduceAdd, Int.reduceNeg, Int.reduceAdd, Int.reduceSub, Int.reduceMul, Int.reduceLT, Int.reduceLE, Int.reduceEq, Int.reduceToNat, Nat.reduceBEq, e_sle, e_sge, e_shl1, e_orI, e_andI, e_shr, wrapu, wrap8, tn1, nat1, ix_s, ix_z, st_s, st_z, fl_s, fl_z, fl1_s, fl1_z, map_s, map_z, true_and])
  all_goals first | omega | rfl
end Go.Proofs.Ytgmpajfhjnojiaa
