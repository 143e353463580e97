/- hasInt, l21Without, IsHierarchical (impl and spec). -/
import Derived.Test.YtgmpajfhjnojiaaUHier
import Derived.Test.YtgmpajfhjnojiaaFml
namespace Go.Proofs.Ytgmpajfhjnojiaa
open Go.RowKit
set_option linter.unusedVariables false
set_option linter.unusedSimpArgs false
set_option maxRecDepth 100000

theorem mem_of_allB {l : List Int} {n : Int} (h : allB (fun j => !decide (l.getD j default = n)) l.length = true) : ¬ n ∈ l := by
  intro hm
  obtain ⟨j, hj, rfl⟩ := List.mem_iff_getElem.1 hm
  have := allB_iff.1 h j hj
  rw [List.getD_eq_getElem?_getD, List.getElem?_eq_getElem hj] at this
  simp at this
def withoutZ (l : List Int) (n : Int) : List Int := l.filter fun x => !decide (x = n)
theorem withoutZ_take {l : List Int} {n : Int} {i : Nat} (h : i < l.length) : withoutZ (l.take (i + 1)) n = if l.getD i default = n then withoutZ (l.take i) n else withoutZ (l.take i) n ++ [l.getD i default] := by
  unfold withoutZ
  rw [List.take_succ_eq_append_getElem h, List.filter_append, List.getD_eq_getElem?_getD, List.getElem?_eq_getElem h]
  simp only [Option.getD_some]
  split
  · rename_i e; simp [e]
  · rename_i e; simp [e]
theorem withoutZ_len (l : List Int) (n : Int) : (withoutZ l n).length ≤ l.length := List.length_filter_le _ _
theorem withoutZ_all {l : List Int} {n : Int} : (withoutZ l n).length = l.length ↔ ¬ n ∈ l := by
  unfold withoutZ
  rw [List.length_filter_eq_length_iff]
  constructor
  · intro h hm; have := h n hm; simp at this
  · intro h x hx; simp; rintro rfl; exact h hx
theorem l21Without_m (t : Nat) (l : List Int) (n : Int) (hl : l.length ≤ 10000000000) : Meets Try.prog 29 [(false, [.sl t 1 (l.map encZ)]), (false, [.sc (.int .i64 n)])] [(false, [encZs (withoutZ l n)], true)] := by
  refine meets_upf Try.func29 u_spec_l21Without_g rfl ?_; simp only [u_spec_l21Without_u]
  simp (disch := first | omega | (simp only [List.length_take, List.length_drop, List.length_append, List.map_cons, List.map_nil, List.length_map, List.length_cons, List.length_nil, List.length_set, List.length_replicate]; omega) | (simp only [List.length_cons, List.length_nil, Nat.zero_add, Nat.reduceAdd])) only [go_sem, ↓reduceIte, Nat.reduceAdd, Int.reduceNeg, Int.reduceAdd, Int.reduceSub, Int.reduceMul, Int.reduceLT, Int.reduceLE, Int.reduceEq, Int.reduceToNat, Nat.reduceBEq, e_sle, e_sge, e_shl1, e_orI, e_andI, e_shr, wrapu, wrap8, tn1, nat1, ix_s, ix_z, st_s, st_z, fl_s, fl_z, fl1_s, fl1_z, map_s, map_z, true_and]
  refine lp_n l.length (fun i => [.sc (.int .i64 i), .sl 3 1 ((withoutZ (l.take i) n).map encZ)]) rfl fun i hi => ?_
  have hw := withoutZ_len (l.take i) n
  rw [List.length_take] at hw
  simp only [u_spec_l21Without_l1]
  by_cases hlt : i < l.length
  · have ht := withoutZ_take (n := n) hlt
    by_cases he : l.getD i default = n
    · rw [if_pos he] at ht
      repeat' (first | (with_reducible refine jn_in ?_) | (with_reducible refine cl_ok (by assumption) rfl ?_) | (with_reducible refine cl_okP (by assumption) rfl ?_) | (with_reducible refine br_if (fun hbr => ?_) (fun hbr => ?_)) | (with_reducible refine br_ifn (fun hbr => ?_) (fun hbr => ?_)) | (with_reducible refine br_nb (fun hbr => ?_) (fun hbr => ?_)) | (with_reducible refine br_b (fun hbr => ?_) (fun hbr => ?_)) | simp (disch := first | omega | (simp only [List.length_take, List.length_drop, List.length_append, List.map_cons, List.map_nil, List.length_map, List.length_cons, List.length_nil, List.length_set, List.length_replicate]; omega) | (simp only [List.length_cons, List.length_nil, Nat.zero_add, Nat.reduceAdd])) only [go_sem, ↓reduceIte, Nat.reduceAdd, Int.reduceNeg, Int.reduceAdd, Int.reduceSub, Int.reduceMul, Int.reduceLT, Int.reduceLE, Int.reduceEq, Int.reduceToNat, Nat.reduceBEq, e_sle, e_sge, e_shl1, e_orI, e_andI, e_shr, wrapu, wrap8, tn1, nat1, ix_s, ix_z, st_s, st_z, fl_s, fl_z, fl1_s, fl1_z, map_s, map_z, he, u_spec_l21Without_j0, ht])
      all_goals omega
    · rw [if_neg he] at ht
      repeat' (first | (with_reducible refine jn_in ?_) | (with_reducible refine cl_ok (by assumption) rfl ?_) | (with_reducible refine cl_okP (by assumption) rfl ?_) | (with_reducible refine br_if (fun hbr => ?_) (fun hbr => ?_)) | (with_reducible refine br_ifn (fun hbr => ?_) (fun hbr => ?_)) | (with_reducible refine br_nb (fun hbr => ?_) (fun hbr => ?_)) | (with_reducible refine br_b (fun hbr => ?_) (fun hbr => ?_)) | simp (disch := first | omega | (simp only [List.length_take, List.length_drop, List.length_append, List.map_cons, List.map_nil, List.length_map, List.length_cons, List.length_nil, List.length_set, List.length_replicate]; omega) | (simp only [List.length_cons, List.length_nil, Nat.zero_add, Nat.reduceAdd])) only [go_sem, ↓reduceIte, Nat.reduceAdd, Int.reduceNeg, Int.reduceAdd, Int.reduceSub, Int.reduceMul, Int.reduceLT, Int.reduceLE, Int.reduceEq, Int.reduceToNat, Nat.reduceBEq, e_sle, e_sge, e_shl1, e_orI, e_andI, e_shr, wrapu, wrap8, tn1, nat1, ix_s, ix_z, st_s, st_z, fl_s, fl_z, fl1_s, fl1_z, map_s, map_z, he, u_spec_l21Without_j0, ht])
      all_goals omega
  · obtain rfl : i = l.length := by omega
    repeat' (first | (with_reducible refine jn_in ?_) | (with_reducible refine cl_ok (by assumption) rfl ?_) | (with_reducible refine cl_okP (by assumption) rfl ?_) | (with_reducible refine br_if (fun hbr => ?_) (fun hbr => ?_)) | (with_reducible refine br_ifn (fun hbr => ?_) (fun hbr => ?_)) | (with_reducible refine br_nb (fun hbr => ?_) (fun hbr => ?_)) | (with_reducible refine br_b (fun hbr => ?_) (fun hbr => ?_)) | simp (disch := first | omega | (simp only [List.length_take, List.length_drop, List.length_append, List.map_cons, List.map_nil, List.length_map, List.length_cons, List.length_nil, List.length_set, List.length_replicate]; omega) | (simp only [List.length_cons, List.length_nil, Nat.zero_add, Nat.reduceAdd])) only [go_sem, ↓reduceIte, Nat.reduceAdd, Int.reduceNeg, Int.reduceAdd, Int.reduceSub, Int.reduceMul, Int.reduceLT, Int.reduceLE, Int.reduceEq, Int.reduceToNat, Nat.reduceBEq, e_sle, e_sge, e_shl1, e_orI, e_andI, e_shr, wrapu, wrap8, tn1, nat1, ix_s, ix_z, st_s, st_z, fl_s, fl_z, fl1_s, fl1_z, map_s, map_z, List.take_length])
    all_goals first | omega | rfl

/-! ### IsHierarchical -/
def hierC (f : Fml) (i y : Nat) : Bool := decide (y = 0) || !(decide (y &&& (f.terms.getD i default).toNat = y) && !decide ((y : Int) ∈ f.terms))
def hierT (f : Fml) (i : Nat) : Bool := allB (hierC f i) (f.terms.getD i default).toNat
def hierB (f : Fml) : Bool := fmlB f && allB (hierT f) f.terms.length
theorem fmlB_T' {f : Fml} (h : fmlB f = true) {i : Nat} (hi : i < f.terms.length) : 1 ≤ f.terms.getD i default ∧ f.terms.getD i default < 32 ∧ f.terms.length ≤ 10 := by
  unfold fmlB at h
  simp only [Bool.and_eq_true, decide_eq_true_eq] at h
  have h1 := allB_iff.1 h.2.2.2.2.1 i hi
  have h2 := pow_le5 h.2.1
  unfold fmlT at h1
  simp only [Bool.and_eq_true, decide_eq_true_eq] at h1
  omega
theorem fmlB_10 {f : Fml} (h : fmlB f = true) : f.terms.length ≤ 10 ∧ f.variables.length ≤ 5 := by
  unfold fmlB at h
  simp only [Bool.and_eq_true, decide_eq_true_eq] at h
  omega
theorem hier_no {f : Fml} {i y : Nat} (hi : i < f.terms.length) (hy : y < (f.terms.getD i default).toNat) (h : hierC f i y = false) : hierB f = false := by
  unfold hierB; rw [allB_no (p := hierT f) hi (allB_no hy h)]; simp

end Go.Proofs.Ytgmpajfhjnojiaa
