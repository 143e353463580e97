/- hasInt, l21Without, IsHierarchical (impl and spec). -/
import Derived.Test.YtbddjkbbnflnkaaUHier
import Derived.Test.YtbddjkbbnflnkaaFml
namespace Go.Proofs.Ytbddjkbbnflnkaa
open Go.RowKit
set_option linter.unusedVariables false
set_option linter.unusedSimpArgs false
set_option maxRecDepth 100000

theorem mem_of_allB {l : List Int} {n : Int} (h : allB (fun j => !decide (l.getD j default = n)) l.length = true) : ¬ n ∈ l := by
  intro hm
  obtain ⟨j, hj, rfl⟩ := List.mem_iff_getElem.1 hm
  have := allB_iff.1 h j hj
  rw [List.getD_eq_getElem?_getD, List.getElem?_eq_getElem hj] at this
  simp at this
theorem hasInt_m (t : Nat) (l : List Int) (n : Int) (hl : l.length ≤ 100000000000) : Meets Try.prog 84 [(false, [.sl t 1 (l.map encZ)]), (false, [.sc (.int .i64 n)])] [(false, [.sc (.bool (decide (n ∈ l)))], true)] := by
  refine meets_upf Try.func84 u_impl_hasInt_g rfl ?_; simp only [u_impl_hasInt_u]
  simp (disch := first | omega | (simp only [List.length_take, List.length_drop, List.length_append, List.map_cons, List.map_nil, List.length_map, List.length_cons, List.length_nil, List.length_set, List.length_replicate]; omega) | (simp only [List.length_cons, List.length_nil, Nat.zero_add, Nat.reduceAdd])) only [go_sem, ↓reduceIte, Nat.reduceAdd, Int.reduceNeg, Int.reduceAdd, Int.reduceSub, Int.reduceMul, Int.reduceLT, Int.reduceLE, Int.reduceEq, Int.reduceToNat, Nat.reduceBEq, true_and]
  refine lp (fun i : Nat => [.sc (.int .i64 i)]) (fun i => i ≤ l.length ∧ allB (fun j => !decide (l.getD j default = n)) i = true) (fun i => l.length - i) 0 rfl ⟨by omega, rfl⟩ ?_
  rintro i ⟨hi, hb⟩
  simp only [u_impl_hasInt_l0]
  repeat' (first | (with_reducible refine jn_in ?_) | (with_reducible refine cl_ok (by assumption) rfl ?_) | (with_reducible refine br_if (fun hbr => ?_) (fun hbr => ?_)) | (with_reducible refine br_ifn (fun hbr => ?_) (fun hbr => ?_)) | (with_reducible refine br_nb (fun hbr => ?_) (fun hbr => ?_)) | (with_reducible refine br_b (fun hbr => ?_) (fun hbr => ?_)) | simp (disch := first | omega | (simp only [List.length_take, List.length_drop, List.length_append, List.map_cons, List.map_nil, List.length_map, List.length_cons, List.length_nil, List.length_set, List.length_replicate]; omega) | (simp only [List.length_cons, List.length_nil, Nat.zero_add, Nat.reduceAdd])) only [go_sem, ↓reduceIte, Nat.reduceAdd, Int.reduceNeg, Int.reduceAdd, Int.reduceSub, Int.reduceMul, Int.reduceLT, Int.reduceLE, Int.reduceEq, Int.reduceToNat, Nat.reduceBEq, e_sle, e_sge, e_shl1, e_orI, e_andI, e_shr, wrapu, wrap8, tn1, nat1, ix_s, ix_z, st_s, st_z, fl_s, fl_z, fl1_s, fl1_z, map_s, map_z, true_and])
  · exact ret_b (decide_eq_true (by rw [← ‹l.getD i default = n›]; exact getD_mem (by omega)))
  · exact ⟨i + 1, rfl, ⟨by omega, allB_step hb (by (first | (simp [-List.getD_eq_getElem?_getD, true_and, *]; done) | (simp_all [-List.getD_eq_getElem?_getD, true_and]; done) | (simp [-List.getD_eq_getElem?_getD, true_and, *]; omega) | (simp_all [-List.getD_eq_getElem?_getD, true_and]; omega) | omega))⟩, by omega⟩
  · obtain rfl : i = l.length := by omega
    exact ret_b (decide_eq_false (mem_of_allB hb))

def withoutZ (l : List Int) (n : Int) : List Int := l.filter fun x => !decide (x = n)
theorem withoutZ_take {l : List Int} {n : Int} {i : Nat} (h : i < l.length) : withoutZ (l.take (i + 1)) n = if l.getD i default = n then withoutZ (l.take i) n else withoutZ (l.take i) n ++ [l.getD i default] := by
  unfold withoutZ
  rw [List.take_succ_eq_append_getElem h, List.filter_append, List.getD_eq_getElem?_getD, List.getElem?_eq_getElem h]
  simp only [Option.getD_some]
  split
  · rename_i e; simp [e]
  · rename_i e; simp [e]
theorem withoutZ_len (l : List Int) (n : Int) : (withoutZ l n).length ≤ l.length := List.length_filter_le _ _
theorem withoutZ_all {l : List Int} {n : Int} : (withoutZ l n).length = l.length ↔ ¬ n ∈ l := by
  unfold withoutZ
  rw [List.length_filter_eq_length_iff]
  constructor
  · intro h hm; have := h n hm; simp at this
  · intro h x hx; simp; rintro rfl; exact h hx
theorem l21Without_m (t : Nat) (l : List Int) (n : Int) (hl : l.length ≤ 10000000000) : Meets Try.prog 83 [(false, [.sl t 1 (l.map encZ)]), (false, [.sc (.int .i64 n)])] [(false, [encZs (withoutZ l n)], true)] := by
  refine meets_upf Try.func83 u_spec_l21Without_g rfl ?_; simp only [u_spec_l21Without_u]
  simp (disch := first | omega | (simp only [List.length_take, List.length_drop, List.length_append, List.map_cons, List.map_nil, List.length_map, List.length_cons, List.length_nil, List.length_set, List.length_replicate]; omega) | (simp only [List.length_cons, List.length_nil, Nat.zero_add, Nat.reduceAdd])) only [go_sem, ↓reduceIte, Nat.reduceAdd, Int.reduceNeg, Int.reduceAdd, Int.reduceSub, Int.reduceMul, Int.reduceLT, Int.reduceLE, Int.reduceEq, Int.reduceToNat, Nat.reduceBEq, e_sle, e_sge, e_shl1, e_orI, e_andI, e_shr, wrapu, wrap8, tn1, nat1, ix_s, ix_z, st_s, st_z, fl_s, fl_z, fl1_s, fl1_z, map_s, map_z, true_and]
  refine lp_n l.length (fun i => [.sc (.int .i64 i), .sl 3 1 ((withoutZ (l.take i) n).map encZ)]) rfl fun i hi => ?_
  have hw := withoutZ_len (l.take i) n
  rw [List.length_take] at hw
  simp only [u_spec_l21Without_l1]
  by_cases hlt : i < l.length
  · have ht := withoutZ_take (n := n) hlt
    by_cases he : l.getD i default = n
    · rw [if_pos he] at ht
      repeat' (first | (with_reducible refine jn_in ?_) | (with_reducible refine cl_ok (by assumption) rfl ?_) | (with_reducible refine br_if (fun hbr => ?_) (fun hbr => ?_)) | (with_reducible refine br_ifn (fun hbr => ?_) (fun hbr => ?_)) | (with_reducible refine br_nb (fun hbr => ?_) (fun hbr => ?_)) | (with_reducible refine br_b (fun hbr => ?_) (fun hbr => ?_)) | simp (disch := first | omega | (simp only [List.length_take, List.length_drop, List.length_append, List.map_cons, List.map_nil, List.length_map, List.length_cons, List.length_nil, List.length_set, List.length_replicate]; omega) | (simp only [List.length_cons, List.length_nil, Nat.zero_add, Nat.reduceAdd])) only [go_sem, ↓reduceIte, Nat.reduceAdd, Int.reduceNeg, Int.reduceAdd, Int.reduceSub, Int.reduceMul, Int.reduceLT, Int.reduceLE, Int.reduceEq, Int.reduceToNat, Nat.reduceBEq, e_sle, e_sge, e_shl1, e_orI, e_andI, e_shr, wrapu, wrap8, tn1, nat1, ix_s, ix_z, st_s, st_z, fl_s, fl_z, fl1_s, fl1_z, map_s, map_z, he, u_spec_l21Without_j0, ht])
      all_goals omega
    · rw [if_neg he] at ht
      repeat' (first | (with_reducible refine jn_in ?_) | (with_reducible refine cl_ok (by assumption) rfl ?_) | (with_reducible refine br_if (fun hbr => ?_) (fun hbr => ?_)) | (with_reducible refine br_ifn (fun hbr => ?_) (fun hbr => ?_)) | (with_reducible refine br_nb (fun hbr => ?_) (fun hbr => ?_)) | (with_reducible refine br_b (fun hbr => ?_) (fun hbr => ?_)) | simp (disch := first | omega | (simp only [List.length_take, List.length_drop, List.length_append, List.map_cons, List.map_nil, List.length_map, List.length_cons, List.length_nil, List.length_set, List.length_replicate]; omega) | (simp only [List.length_cons, List.length_nil, Nat.zero_add, Nat.reduceAdd])) only [go_sem, ↓reduceIte, Nat.reduceAdd, Int.reduceNeg, Int.reduceAdd, Int.reduceSub, Int.reduceMul, Int.reduceLT, Int.reduceLE, Int.reduceEq, Int.reduceToNat, Nat.reduceBEq, e_sle, e_sge, e_shl1, e_orI, e_andI, e_shr, wrapu, wrap8, tn1, nat1, ix_s, ix_z, st_s, st_z, fl_s, fl_z, fl1_s, fl1_z, map_s, map_z, he, u_spec_l21Without_j0, ht])
      all_goals omega
  · obtain rfl : i = l.length := by omega
    repeat' (first | (with_reducible refine jn_in ?_) | (with_reducible refine cl_ok (by assumption) rfl ?_) | (with_reducible refine br_if (fun hbr => ?_) (fun hbr => ?_)) | (with_reducible refine br_ifn (fun hbr => ?_) (fun hbr => ?_)) | (with_reducible refine br_nb (fun hbr => ?_) (fun hbr => ?_)) | (with_reducible refine br_b (fun hbr => ?_) (fun hbr => ?_)) | simp (disch := first | omega | (simp only [List.length_take, List.length_drop, List.length_append, List.map_cons, List.map_nil, List.length_map, List.length_cons, List.length_nil, List.length_set, List.length_replicate]; omega) | (simp only [List.length_cons, List.length_nil, Nat.zero_add, Nat.reduceAdd])) only [go_sem, ↓reduceIte, Nat.reduceAdd, Int.reduceNeg, Int.reduceAdd, Int.reduceSub, Int.reduceMul, Int.reduceLT, Int.reduceLE, Int.reduceEq, Int.reduceToNat, Nat.reduceBEq, e_sle, e_sge, e_shl1, e_orI, e_andI, e_shr, wrapu, wrap8, tn1, nat1, ix_s, ix_z, st_s, st_z, fl_s, fl_z, fl1_s, fl1_z, map_s, map_z, List.take_length])
    all_goals first | omega | rfl

/-! ### IsHierarchical -/
def hierC (f : Fml) (i y : Nat) : Bool := decide (y = 0) || !(decide (y &&& (f.terms.getD i default).toNat = y) && !decide ((y : Int) ∈ f.terms))
def hierT (f : Fml) (i : Nat) : Bool := allB (hierC f i) (f.terms.getD i default).toNat
def hierB (f : Fml) : Bool := fmlB f && allB (hierT f) f.terms.length
theorem fmlB_T' {f : Fml} (h : fmlB f = true) {i : Nat} (hi : i < f.terms.length) : 1 ≤ f.terms.getD i default ∧ f.terms.getD i default < 32 ∧ f.terms.length ≤ 10 := by
  unfold fmlB at h
  simp only [Bool.and_eq_true, decide_eq_true_eq] at h
  have h1 := allB_iff.1 h.2.2.2.2.1 i hi
  have h2 := pow_le5 h.2.1
  unfold fmlT at h1
  simp only [Bool.and_eq_true, decide_eq_true_eq] at h1
  omega
theorem fmlB_10 {f : Fml} (h : fmlB f = true) : f.terms.length ≤ 10 ∧ f.variables.length ≤ 5 := by
  unfold fmlB at h
  simp only [Bool.and_eq_true, decide_eq_true_eq] at h
  omega
theorem hier_no {f : Fml} {i y : Nat} (hi : i < f.terms.length) (hy : y < (f.terms.getD i default).toNat) (h : hierC f i y = false) : hierB f = false := by
  unfold hierB; rw [allB_no (p := hierT f) hi (allB_no hy h)]; simp

set_option maxHeartbeats 2000000 in
theorem implHier_m (f : Fml) (ok : FmlOk f) : Meets Try.prog 30 [(true, encFml f)] [(false, [.sc (.bool (hierB f))], true)] := by
  have h1 := implFml_m f ok
  have h2 := fun y : Nat => hasInt_m 3 f.terms y ok.2.2.2.1
  cases hf : fmlB f
  · rw [hf] at h1
    obtain ⟨x0, x1, x2, x3⟩ := f
    refine meets_upf Try.func30 u_impl_IsHierarchical_g rfl ?_; simp only [u_impl_IsHierarchical_u]
    simp only [encFml] at h1 ⊢
    repeat' (first | (with_reducible refine jn_in ?_) | (with_reducible refine cl_ok (by assumption) rfl ?_) | (with_reducible refine br_if (fun hbr => ?_) (fun hbr => ?_)) | (with_reducible refine br_ifn (fun hbr => ?_) (fun hbr => ?_)) | (with_reducible refine br_nb (fun hbr => ?_) (fun hbr => ?_)) | (with_reducible refine br_b (fun hbr => ?_) (fun hbr => ?_)) | simp (disch := first | omega | (simp only [List.length_take, List.length_drop, List.length_append, List.map_cons, List.map_nil, List.length_map, List.length_cons, List.length_nil, List.length_set, List.length_replicate]; omega) | (simp only [List.length_cons, List.length_nil, Nat.zero_add, Nat.reduceAdd])) only [go_sem, ↓reduceIte, Nat.reduceAdd, Int.reduceNeg, Int.reduceAdd, Int.reduceSub, Int.reduceMul, Int.reduceLT, Int.reduceLE, Int.reduceEq, Int.reduceToNat, Nat.reduceBEq, true_and])
    exact ret_b (by unfold hierB; rw [hf]; rfl)
  rw [hf] at h1
  obtain ⟨b1, b2⟩ := fmlB_10 hf
  refine meets_upf Try.func30 u_impl_IsHierarchical_g rfl ?_; simp only [u_impl_IsHierarchical_u]
  simp only [encFml] at h1 ⊢
  simp (disch := first | omega | (simp only [List.length_take, List.length_drop, List.length_append, List.map_cons, List.map_nil, List.length_map, List.length_cons, List.length_nil, List.length_set, List.length_replicate]; omega) | (simp only [List.length_cons, List.length_nil, Nat.zero_add, Nat.reduceAdd])) only [go_sem, ↓reduceIte, Nat.reduceAdd, Int.reduceNeg, Int.reduceAdd, Int.reduceSub, Int.reduceMul, Int.reduceLT, Int.reduceLE, Int.reduceEq, Int.reduceToNat, Nat.reduceBEq, e_sle, e_sge, e_shl1, e_orI, e_andI, e_shr, wrapu, wrap8, tn1, nat1, ix_s, ix_z, st_s, st_z, fl_s, fl_z, fl1_s, fl1_z, map_s, map_z, true_and]
  refine cl_ok h1 rfl ?_
  simp only [encZs]
  simp (disch := first | omega | (simp only [List.length_take, List.length_drop, List.length_append, List.map_cons, List.map_nil, List.length_map, List.length_cons, List.length_nil, List.length_set, List.length_replicate]; omega) | (simp only [List.length_cons, List.length_nil, Nat.zero_add, Nat.reduceAdd])) only [go_sem, ↓reduceIte, Nat.reduceAdd, Int.reduceNeg, Int.reduceAdd, Int.reduceSub, Int.reduceMul, Int.reduceLT, Int.reduceLE, Int.reduceEq, Int.reduceToNat, Nat.reduceBEq, e_sle, e_sge, e_shl1, e_orI, e_andI, e_shr, wrapu, wrap8, tn1, nat1, ix_s, ix_z, st_s, st_z, fl_s, fl_z, fl1_s, fl1_z, map_s, map_z, true_and]
  refine lp (fun i : Nat => [.sc (.int .i64 i)]) (fun i => i ≤ f.terms.length ∧ allB (hierT f) i = true) (fun i => f.terms.length - i) 0 rfl ⟨by omega, rfl⟩ ?_
  rintro i ⟨hi, hb⟩
  simp only [u_impl_IsHierarchical_l2]
  by_cases hlt : i < f.terms.length
  rotate_left
  · obtain rfl : i = f.terms.length := by omega
    repeat' (first | (with_reducible refine jn_in ?_) | (with_reducible refine cl_ok (by assumption) rfl ?_) | (with_reducible refine br_if (fun hbr => ?_) (fun hbr => ?_)) | (with_reducible refine br_ifn (fun hbr => ?_) (fun hbr => ?_)) | (with_reducible refine br_nb (fun hbr => ?_) (fun hbr => ?_)) | (with_reducible refine br_b (fun hbr => ?_) (fun hbr => ?_)) | simp (disch := first | omega | (simp only [List.length_take, List.length_drop, List.length_append, List.map_cons, List.map_nil, List.length_map, List.length_cons, List.length_nil, List.length_set, List.length_replicate]; omega) | (simp only [List.length_cons, List.length_nil, Nat.zero_add, Nat.reduceAdd])) only [go_sem, ↓reduceIte, Nat.reduceAdd, Int.reduceNeg, Int.reduceAdd, Int.reduceSub, Int.reduceMul, Int.reduceLT, Int.reduceLE, Int.reduceEq, Int.reduceToNat, Nat.reduceBEq, e_sle, e_sge, e_shl1, e_orI, e_andI, e_shr, wrapu, wrap8, tn1, nat1, ix_s, ix_z, st_s, st_z, fl_s, fl_z, fl1_s, fl1_z, map_s, map_z, true_and])
    · omega
    · exact ret_b (by unfold hierB; rw [hf, hb]; rfl)
  obtain ⟨b3, b4, -⟩ := fmlB_T' hf hlt
  have hno := @hier_no f i
  have hst : allB (hierC f i) (f.terms.getD i default).toNat = true → allB (hierT f) (i + 1) = true := fun h => allB_step hb h
  have hC : ∀ y : Nat, hierC f i y = (decide (y = 0) || !(decide (y &&& (f.terms.getD i default).toNat = y) && !decide ((y : Int) ∈ f.terms))) := fun _ => rfl
  simp (disch := first | omega | (simp only [List.length_take, List.length_drop, List.length_append, List.map_cons, List.map_nil, List.length_map, List.length_cons, List.length_nil, List.length_set, List.length_replicate]; omega) | (simp only [List.length_cons, List.length_nil, Nat.zero_add, Nat.reduceAdd])) only [go_sem, ↓reduceIte, Nat.reduceAdd, Int.reduceNeg, Int.reduceAdd, Int.reduceSub, Int.reduceMul, Int.reduceLT, Int.reduceLE, Int.reduceEq, Int.reduceToNat, Nat.reduceBEq, e_sle, e_sge, e_shl1, e_orI, e_andI, e_shr, wrapu, wrap8, tn1, nat1, ix_s, ix_z, st_s, st_z, fl_s, fl_z, fl1_s, fl1_z, map_s, map_z, true_and]
  refine br_if (fun hbr => ?_) (fun hbr => ?_)
  rotate_left
  · omega
  simp (disch := first | omega | (simp only [List.length_take, List.length_drop, List.length_append, List.map_cons, List.map_nil, List.length_map, List.length_cons, List.length_nil, List.length_set, List.length_replicate]; omega) | (simp only [List.length_cons, List.length_nil, Nat.zero_add, Nat.reduceAdd])) only [go_sem, ↓reduceIte, Nat.reduceAdd, Int.reduceNeg, Int.reduceAdd, Int.reduceSub, Int.reduceMul, Int.reduceLT, Int.reduceLE, Int.reduceEq, Int.reduceToNat, Nat.reduceBEq, e_sle, e_sge, e_shl1, e_orI, e_andI, e_shr, wrapu, wrap8, tn1, nat1, ix_s, ix_z, st_s, st_z, fl_s, fl_z, fl1_s, fl1_z, map_s, map_z, true_and]
  obtain ⟨x, hx⟩ := Int.eq_ofNat_of_zero_le (show 0 ≤ f.terms.getD i default from by omega)
  rw [hx] at hC b3 b4 hst hno ⊢
  simp only [Int.toNat_natCast] at hC hst hno
  refine lp (fun y : Nat => [.sc (.int .i64 y), .sc (.int .i64 x), .sc (.bool (decide ((i : Int) < f.terms.length))), .sc (.int .i64 i)]) (fun y => 1 ≤ y ∧ y ≤ x ∧ allB (hierC f i) y = true) (fun y => x - y) 1 rfl ⟨by omega, by omega, by rw [allB_succ, hC]; rfl⟩ ?_
  rintro y ⟨y1, y2, hy⟩
  have h2y := h2 y
  have hCy := hC y
  have hand : y &&& x = x &&& y := Nat.and_comm _ _
  simp only [u_impl_IsHierarchical_l1]
  repeat' (first | (with_reducible refine jn_in ?_) | (with_reducible refine cl_ok (by assumption) rfl ?_) | (with_reducible refine br_if (fun hbr => ?_) (fun hbr => ?_)) | (with_reducible refine br_ifn (fun hbr => ?_) (fun hbr => ?_)) | (with_reducible refine br_nb (fun hbr => ?_) (fun hbr => ?_)) | (with_reducible refine br_b (fun hbr => ?_) (fun hbr => ?_)) | simp (disch := first | omega | (simp only [List.length_take, List.length_drop, List.length_append, List.map_cons, List.map_nil, List.length_map, List.length_cons, List.length_nil, List.length_set, List.length_replicate]; omega) | (simp only [List.length_cons, List.length_nil, Nat.zero_add, Nat.reduceAdd])) only [go_sem, ↓reduceIte, Nat.reduceAdd, Int.reduceNeg, Int.reduceAdd, Int.reduceSub, Int.reduceMul, Int.reduceLT, Int.reduceLE, Int.reduceEq, Int.reduceToNat, Nat.reduceBEq, e_sle, e_sge, e_shl1, e_orI, e_andI, e_shr, wrapu, wrap8, tn1, nat1, ix_s, ix_z, st_s, st_z, fl_s, fl_z, fl1_s, fl1_z, map_s, map_z, u_impl_IsHierarchical_j0, Int.toNat_natCast])
  · exact ⟨y + 1, rfl, ⟨by omega, by omega, allB_step hy (by (first | (simp [-List.getD_eq_getElem?_getD, hCy, *]; done) | (simp_all [-List.getD_eq_getElem?_getD, hCy]; done) | (simp [-List.getD_eq_getElem?_getD, hCy, *]; omega) | (simp_all [-List.getD_eq_getElem?_getD, hCy]; omega) | omega))⟩, by omega⟩
  · exact ret_b (hno (y := y) hlt (by omega) (by (first | (simp [-List.getD_eq_getElem?_getD, hCy, hand, *]; done) | (simp_all [-List.getD_eq_getElem?_getD, hCy, hand]; done) | (simp [-List.getD_eq_getElem?_getD, hCy, hand, *]; omega) | (simp_all [-List.getD_eq_getElem?_getD, hCy, hand]; omega) | omega)))
  · exact ⟨y + 1, rfl, ⟨by omega, by omega, allB_step hy (by (first | (simp [-List.getD_eq_getElem?_getD, hCy, hand, *]; done) | (simp_all [-List.getD_eq_getElem?_getD, hCy, hand]; done) | (simp [-List.getD_eq_getElem?_getD, hCy, hand, *]; omega) | (simp_all [-List.getD_eq_getElem?_getD, hCy, hand]; omega) | omega))⟩, by omega⟩
  · exact ⟨i + 1, rfl, ⟨by omega, hst (by rw [show x = y from by omega]; exact hy)⟩, by omega⟩

set_option maxHeartbeats 2000000 in
theorem specHier_m (f : Fml) (ok : FmlOk f) : Meets Try.prog 29 [(true, encFml f)] [(false, [.sc (.bool (hierB f))], true)] := by
  have h1 := specFml_m f ok
  cases hf : fmlB f
  · rw [hf] at h1
    obtain ⟨x0, x1, x2, x3⟩ := f
    refine meets_upf Try.func29 u_spec_IsHierarchical_g rfl ?_; simp only [u_spec_IsHierarchical_u]
    simp only [encFml] at h1 ⊢
    repeat' (first | (with_reducible refine jn_in ?_) | (with_reducible refine cl_ok (by assumption) rfl ?_) | (with_reducible refine br_if (fun hbr => ?_) (fun hbr => ?_)) | (with_reducible refine br_ifn (fun hbr => ?_) (fun hbr => ?_)) | (with_reducible refine br_nb (fun hbr => ?_) (fun hbr => ?_)) | (with_reducible refine br_b (fun hbr => ?_) (fun hbr => ?_)) | simp (disch := first | omega | (simp only [List.length_take, List.length_drop, List.length_append, List.map_cons, List.map_nil, List.length_map, List.length_cons, List.length_nil, List.length_set, List.length_replicate]; omega) | (simp only [List.length_cons, List.length_nil, Nat.zero_add, Nat.reduceAdd])) only [go_sem, ↓reduceIte, Nat.reduceAdd, Int.reduceNeg, Int.reduceAdd, Int.reduceSub, Int.reduceMul, Int.reduceLT, Int.reduceLE, Int.reduceEq, Int.reduceToNat, Nat.reduceBEq, true_and])
    exact ret_b (by unfold hierB; rw [hf]; rfl)
  rw [hf] at h1
  obtain ⟨b1, b2⟩ := fmlB_10 hf
  have h2 := fun y : Nat => l21Without_m 3 f.terms y (by omega)
  refine meets_upf Try.func29 u_spec_IsHierarchical_g rfl ?_; simp only [u_spec_IsHierarchical_u]
  simp only [encFml] at h1 ⊢
  simp (disch := first | omega | (simp only [List.length_take, List.length_drop, List.length_append, List.map_cons, List.map_nil, List.length_map, List.length_cons, List.length_nil, List.length_set, List.length_replicate]; omega) | (simp only [List.length_cons, List.length_nil, Nat.zero_add, Nat.reduceAdd])) only [go_sem, ↓reduceIte, Nat.reduceAdd, Int.reduceNeg, Int.reduceAdd, Int.reduceSub, Int.reduceMul, Int.reduceLT, Int.reduceLE, Int.reduceEq, Int.reduceToNat, Nat.reduceBEq, e_sle, e_sge, e_shl1, e_orI, e_andI, e_shr, wrapu, wrap8, tn1, nat1, ix_s, ix_z, st_s, st_z, fl_s, fl_z, fl1_s, fl1_z, map_s, map_z, true_and]
  refine cl_ok h1 rfl ?_
  simp only [encZs] at h2 ⊢
  simp (disch := first | omega | (simp only [List.length_take, List.length_drop, List.length_append, List.map_cons, List.map_nil, List.length_map, List.length_cons, List.length_nil, List.length_set, List.length_replicate]; omega) | (simp only [List.length_cons, List.length_nil, Nat.zero_add, Nat.reduceAdd])) only [go_sem, ↓reduceIte, Nat.reduceAdd, Int.reduceNeg, Int.reduceAdd, Int.reduceSub, Int.reduceMul, Int.reduceLT, Int.reduceLE, Int.reduceEq, Int.reduceToNat, Nat.reduceBEq, e_sle, e_sge, e_shl1, e_orI, e_andI, e_shr, wrapu, wrap8, tn1, nat1, ix_s, ix_z, st_s, st_z, fl_s, fl_z, fl1_s, fl1_z, map_s, map_z, true_and]
  refine lp (fun i : Nat => [.sc (.int .i64 i)]) (fun i => i ≤ f.terms.length ∧ allB (hierT f) i = true) (fun i => f.terms.length - i) 0 rfl ⟨by omega, rfl⟩ ?_
  rintro i ⟨hi, hb⟩
  simp only [u_spec_IsHierarchical_l2]
  by_cases hlt : i < f.terms.length
  rotate_left
  · obtain rfl : i = f.terms.length := by omega
    repeat' (first | (with_reducible refine jn_in ?_) | (with_reducible refine cl_ok (by assumption) rfl ?_) | (with_reducible refine br_if (fun hbr => ?_) (fun hbr => ?_)) | (with_reducible refine br_ifn (fun hbr => ?_) (fun hbr => ?_)) | (with_reducible refine br_nb (fun hbr => ?_) (fun hbr => ?_)) | (with_reducible refine br_b (fun hbr => ?_) (fun hbr => ?_)) | simp (disch := first | omega | (simp only [List.length_take, List.length_drop, List.length_append, List.map_cons, List.map_nil, List.length_map, List.length_cons, List.length_nil, List.length_set, List.length_replicate]; omega) | (simp only [List.length_cons, List.length_nil, Nat.zero_add, Nat.reduceAdd])) only [go_sem, ↓reduceIte, Nat.reduceAdd, Int.reduceNeg, Int.reduceAdd, Int.reduceSub, Int.reduceMul, Int.reduceLT, Int.reduceLE, Int.reduceEq, Int.reduceToNat, Nat.reduceBEq, e_sle, e_sge, e_shl1, e_orI, e_andI, e_shr, wrapu, wrap8, tn1, nat1, ix_s, ix_z, st_s, st_z, fl_s, fl_z, fl1_s, fl1_z, map_s, map_z, true_and])
    · omega
    · exact ret_b (by unfold hierB; rw [hf, hb]; rfl)
  obtain ⟨b3, b4, -⟩ := fmlB_T' hf hlt
  have hno := @hier_no f i
  have hst : allB (hierC f i) (f.terms.getD i default).toNat = true → allB (hierT f) (i + 1) = true := fun h => allB_step hb h
  have hC : ∀ y : Nat, hierC f i y = (decide (y = 0) || !(decide (y &&& (f.terms.getD i default).toNat = y) && !decide ((y : Int) ∈ f.terms))) := fun _ => rfl
  simp (disch := first | omega | (simp only [List.length_take, List.length_drop, List.length_append, List.map_cons, List.map_nil, List.length_map, List.length_cons, List.length_nil, List.length_set, List.length_replicate]; omega) | (simp only [List.length_cons, List.length_nil, Nat.zero_add, Nat.reduceAdd])) only [go_sem, ↓reduceIte, Nat.reduceAdd, Int.reduceNeg, Int.reduceAdd, Int.reduceSub, Int.reduceMul, Int.reduceLT, Int.reduceLE, Int.reduceEq, Int.reduceToNat, Nat.reduceBEq, e_sle, e_sge, e_shl1, e_orI, e_andI, e_shr, wrapu, wrap8, tn1, nat1, ix_s, ix_z, st_s, st_z, fl_s, fl_z, fl1_s, fl1_z, map_s, map_z, true_and]
  refine br_if (fun hbr => ?_) (fun hbr => ?_)
  rotate_left
  · omega
  simp (disch := first | omega | (simp only [List.length_take, List.length_drop, List.length_append, List.map_cons, List.map_nil, List.length_map, List.length_cons, List.length_nil, List.length_set, List.length_replicate]; omega) | (simp only [List.length_cons, List.length_nil, Nat.zero_add, Nat.reduceAdd])) only [go_sem, ↓reduceIte, Nat.reduceAdd, Int.reduceNeg, Int.reduceAdd, Int.reduceSub, Int.reduceMul, Int.reduceLT, Int.reduceLE, Int.reduceEq, Int.reduceToNat, Nat.reduceBEq, e_sle, e_sge, e_shl1, e_orI, e_andI, e_shr, wrapu, wrap8, tn1, nat1, ix_s, ix_z, st_s, st_z, fl_s, fl_z, fl1_s, fl1_z, map_s, map_z, true_and]
  obtain ⟨x, hx⟩ := Int.eq_ofNat_of_zero_le (show 0 ≤ f.terms.getD i default from by omega)
  rw [hx] at hC b3 b4 hst hno
  simp only [Int.toNat_natCast] at hC hst hno
  refine lp (fun y : Nat => [.sc (.int .i64 y), .sc (.bool (decide ((i : Int) < f.terms.length))), .sc (.int .i64 i)]) (fun y => 1 ≤ y ∧ y ≤ x ∧ allB (hierC f i) y = true) (fun y => x - y) 1 rfl ⟨by omega, by omega, by rw [allB_succ, hC]; rfl⟩ ?_
  rintro y ⟨y1, y2, hy⟩
  have h2y := h2 y
  have hl2 := withoutZ_len f.terms y
  have hal := @withoutZ_all f.terms y
  have hCy := hC y
  generalize withoutZ f.terms y = w at h2y hl2 hal
  simp only [u_spec_IsHierarchical_l1]
  repeat' (first | (with_reducible refine jn_in ?_) | (with_reducible refine cl_ok (by assumption) rfl ?_) | (with_reducible refine br_if (fun hbr => ?_) (fun hbr => ?_)) | (with_reducible refine br_ifn (fun hbr => ?_) (fun hbr => ?_)) | (with_reducible refine br_nb (fun hbr => ?_) (fun hbr => ?_)) | (with_reducible refine br_b (fun hbr => ?_) (fun hbr => ?_)) | simp (disch := first | omega | (simp only [List.length_take, List.length_drop, List.length_append, List.map_cons, List.map_nil, List.length_map, List.length_cons, List.length_nil, List.length_set, List.length_replicate]; omega) | (simp only [List.length_cons, List.length_nil, Nat.zero_add, Nat.reduceAdd])) only [go_sem, ↓reduceIte, Nat.reduceAdd, Int.reduceNeg, Int.reduceAdd, Int.reduceSub, Int.reduceMul, Int.reduceLT, Int.reduceLE, Int.reduceEq, Int.reduceToNat, Nat.reduceBEq, e_sle, e_sge, e_shl1, e_orI, e_andI, e_shr, wrapu, wrap8, tn1, nat1, ix_s, ix_z, st_s, st_z, fl_s, fl_z, fl1_s, fl1_z, map_s, map_z, u_spec_IsHierarchical_j0, Int.toNat_natCast, hx])
  all_goals first
    | exact ⟨i + 1, rfl, ⟨by omega, hst (by rw [show x = y from by omega]; exact hy)⟩, by omega⟩
    | exact ⟨y + 1, rfl, ⟨by omega, by omega, allB_step hy (by (first | (simp [-List.getD_eq_getElem?_getD, hCy, *]; done) | (simp_all [-List.getD_eq_getElem?_getD, hCy]; done) | (simp [-List.getD_eq_getElem?_getD, hCy, *]; omega) | (simp_all [-List.getD_eq_getElem?_getD, hCy]; omega) | omega))⟩, by omega⟩
    | exact ret_b (hno (y := y) hlt (by omega) (by have := hal.1 (by omega); (first | (simp [-List.getD_eq_getElem?_getD, hCy, *]; done) | (simp_all [-List.getD_eq_getElem?_getD, hCy]; done) | (simp [-List.getD_eq_getElem?_getD, hCy, *]; omega) | (simp_all [-List.getD_eq_getElem?_getD, hCy]; omega) | omega)))
    | exact ⟨y + 1, rfl, ⟨by omega, by omega, allB_step hy (by have h9 : (y : Int) ∈ f.terms := Classical.byContradiction (fun h => absurd (hal.2 h) (by omega)); (first | (simp [-List.getD_eq_getElem?_getD, hCy, *]; done) | (simp_all [-List.getD_eq_getElem?_getD, hCy]; done) | (simp [-List.getD_eq_getElem?_getD, hCy, *]; omega) | (simp_all [-List.getD_eq_getElem?_getD, hCy]; omega) | omega))⟩, by omega⟩
end Go.Proofs.Ytbddjkbbnflnkaa
