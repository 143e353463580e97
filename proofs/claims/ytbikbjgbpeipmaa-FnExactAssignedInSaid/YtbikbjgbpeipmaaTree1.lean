/- Nodes of trees: counts, texts, labels; the small functions of both packages. -/
import Derived.Test.YtbikbjgbpeipmaaUTree1
import Derived.Test.YtbikbjgbpeipmaaTNod
namespace Go.Proofs.Ytbikbjgbpeipmaa
open Go.RowKit
set_option linter.unusedVariables false
set_option linter.unusedSimpArgs false
set_option maxRecDepth 100000

def cntK (k : Int) : Int := if k ∈ [0, 8, 9, 15, 16] then -1 else if k ∈ [10, 14, 21, 22, 23, 26, 27, 31, 33] then 1 else if k ∈ [11, 12, 13, 17, 18, 24, 25, 28, 29, 30] then 2 else 0
def namK (k : Int) : Bool := decide (k ∈ [7, 18, 22, 23, 24, 25, 26, 27, 28, 29, 30, 31, 32, 34])
def binL : List ByteArray := [⟨#[43]⟩, ⟨#[45]⟩, ⟨#[42]⟩, ⟨#[47]⟩, ⟨#[94]⟩, ⟨#[37, 37]⟩, ⟨#[37, 47, 37]⟩, ⟨#[61, 61]⟩, ⟨#[33, 61]⟩, ⟨#[60]⟩, ⟨#[60, 61]⟩, ⟨#[62]⟩, ⟨#[62, 61]⟩, ⟨#[38]⟩, ⟨#[124]⟩, ⟨#[38, 38]⟩, ⟨#[124, 124]⟩, ⟨#[58]⟩, ⟨#[126]⟩]
def unaL : List ByteArray := [⟨#[45]⟩, ⟨#[33]⟩, ⟨#[126]⟩]
def txtR (k : Int) (s : ByteArray) : Bool :=
  if k = 3 then decide ((s.size : Int) ≤ 60) else if k = 10 then hasB unaL s else if k = 11 then hasB binL s else if k = 14 then decide (1 ≤ (s.size : Int) ∧ (s.size : Int) ≤ 60) else nameB s
def txtB (k : Int) (s : ByteArray) : Bool := if k ∈ [3, 10, 11, 14] ∨ namK k = true then txtR k s else decide (s = ⟨#[]⟩)
theorem unaH (s : ByteArray) : hasB unaL s = decide (s = ⟨#[45]⟩ ∨ s = ⟨#[33]⟩ ∨ s = ⟨#[126]⟩) := by
  rw [Bool.eq_iff_iff, hasB_iff, decide_eq_true_eq]
  simp [unaL]
theorem specCnt_m (k : Int) : Meets Try.prog 44 [(false, [.sc (.int .i64 k)])] [(false, [.sc (.int .i64 (cntK k))], true)] := by
  refine meets_upf Try.func44 u_spec_l16Count_g rfl ?_; simp only [u_spec_l16Count_u]
  repeat' (first | (with_reducible refine jn_in ?_) | (with_reducible refine cl_ok (by assumption) rfl ?_) | (with_reducible refine cl_okP (by assumption) rfl ?_) | (with_reducible refine br_if (fun hbr => ?_) (fun hbr => ?_)) | (with_reducible refine br_ifn (fun hbr => ?_) (fun hbr => ?_)) | (with_reducible refine br_nb (fun hbr => ?_) (fun hbr => ?_)) | (with_reducible refine br_b (fun hbr => ?_) (fun hbr => ?_)) | simp (disch := first | omega | (simp only [List.length_take, List.length_drop, List.length_append, List.map_cons, List.map_nil, List.length_map, List.length_cons, List.length_nil, List.length_set, List.length_replicate]; omega) | (simp only [List.length_cons, List.length_nil, Nat.zero_add, Nat.reduceAdd])) only [go_sem, ↓reduceIte, Nat.reduceAdd, Int.reduceNeg, Int.reduceAdd, Int.reduceSub, Int.reduceMul, Int.reduceLT, Int.reduceLE, Int.reduceEq, Int.reduceToNat, Nat.reduceBEq, e_sle, e_sge, e_shl1, e_orI, e_andI, e_shr, wrapu, wrap8, tn1, nat1, ix_s, ix_z, st_s, st_z, fl_s, fl_z, fl1_s, fl1_z, map_s, map_z, true_and])
  all_goals first
    | (exfalso; omega)
    | (subst_vars; exact ret_z (by decide))
    | exact ret_z (by simp [cntK, *])
    | skip
theorem specBin_m : Meets Try.prog 51 [] [(false, [encSs binL], true)] := by
  refine meets_upf Try.func51 u_spec_l16Binary_g rfl ?_; simp only [u_spec_l16Binary_u]
  repeat' (first | (with_reducible refine jn_in ?_) | (with_reducible refine cl_ok (by assumption) rfl ?_) | (with_reducible refine cl_okP (by assumption) rfl ?_) | (with_reducible refine br_if (fun hbr => ?_) (fun hbr => ?_)) | (with_reducible refine br_ifn (fun hbr => ?_) (fun hbr => ?_)) | (with_reducible refine br_nb (fun hbr => ?_) (fun hbr => ?_)) | (with_reducible refine br_b (fun hbr => ?_) (fun hbr => ?_)) | simp (disch := first | omega | (simp only [List.length_take, List.length_drop, List.length_append, List.map_cons, List.map_nil, List.length_map, List.length_cons, List.length_nil, List.length_set, List.length_replicate]; omega) | (simp only [List.length_cons, List.length_nil, Nat.zero_add, Nat.reduceAdd])) only [go_sem, ↓reduceIte, Nat.reduceAdd, Int.reduceNeg, Int.reduceAdd, Int.reduceSub, Int.reduceMul, Int.reduceLT, Int.reduceLE, Int.reduceEq, Int.reduceToNat, Nat.reduceBEq, e_sle, e_sge, e_shl1, e_orI, e_andI, e_shr, wrapu, wrap8, tn1, nat1, ix_s, ix_z, st_s, st_z, fl_s, fl_z, fl1_s, fl1_z, map_s, map_z, true_and])
  rfl
theorem implBin_m (s : ByteArray) : Meets Try.prog 52 [(false, [.sc (.string s)])] [(false, [.sc (.bool (hasB binL s))], true)] := by
  have h := hasText_m 9 binL s (by decide)
  simp only [binL, encS, List.map_cons, List.map_nil] at h
  refine meets_upf Try.func52 u_impl_isBinary_g rfl ?_; simp only [u_impl_isBinary_u]
  repeat' (first | (with_reducible refine jn_in ?_) | (with_reducible refine cl_ok (by assumption) rfl ?_) | (with_reducible refine cl_okP (by assumption) rfl ?_) | (with_reducible refine br_if (fun hbr => ?_) (fun hbr => ?_)) | (with_reducible refine br_ifn (fun hbr => ?_) (fun hbr => ?_)) | (with_reducible refine br_nb (fun hbr => ?_) (fun hbr => ?_)) | (with_reducible refine br_b (fun hbr => ?_) (fun hbr => ?_)) | simp (disch := first | omega | (simp only [List.length_take, List.length_drop, List.length_append, List.map_cons, List.map_nil, List.length_map, List.length_cons, List.length_nil, List.length_set, List.length_replicate]; omega) | (simp only [List.length_cons, List.length_nil, Nat.zero_add, Nat.reduceAdd])) only [go_sem, ↓reduceIte, Nat.reduceAdd, Int.reduceNeg, Int.reduceAdd, Int.reduceSub, Int.reduceMul, Int.reduceLT, Int.reduceLE, Int.reduceEq, Int.reduceToNat, Nat.reduceBEq, e_sle, e_sge, e_shl1, e_orI, e_andI, e_shr, wrapu, wrap8, tn1, nat1, ix_s, ix_z, st_s, st_z, fl_s, fl_z, fl1_s, fl1_z, map_s, map_z, true_and])
  rfl
theorem specTxt_m (k n c : Int) (s : ByteArray) (L : List ByteArray) (hs : s.size ≤ 100000000000) : Meets Try.prog 45 [(true, encNod ⟨k, n, s, L, c⟩)] [(false, [.sc (.bool (txtB k s))], true)] := by
  have h1 := l1In_m (s.size : Int) 1 60
  have h2 := specName_m s hs
  have h3 := l1Has_m 9 unaL s (by decide)
  have h4 := l1Has_m 9 binL s (by decide)
  have h5 := specBin_m
  simp only [unaL, encS, List.map_cons, List.map_nil] at h3
  simp only [encSs] at h5
  refine meets_upf Try.func45 u_spec_l16Text_g rfl ?_; simp only [u_spec_l16Text_u]
  simp only [encNod, encSs]
  repeat' (first | (with_reducible refine jn_in ?_) | (with_reducible refine cl_ok (by assumption) rfl ?_) | (with_reducible refine cl_okP (by assumption) rfl ?_) | (with_reducible refine br_if (fun hbr => ?_) (fun hbr => ?_)) | (with_reducible refine br_ifn (fun hbr => ?_) (fun hbr => ?_)) | (with_reducible refine br_nb (fun hbr => ?_) (fun hbr => ?_)) | (with_reducible refine br_b (fun hbr => ?_) (fun hbr => ?_)) | simp (disch := first | omega | (simp only [List.length_take, List.length_drop, List.length_append, List.map_cons, List.map_nil, List.length_map, List.length_cons, List.length_nil, List.length_set, List.length_replicate]; omega) | (simp only [List.length_cons, List.length_nil, Nat.zero_add, Nat.reduceAdd])) only [go_sem, ↓reduceIte, Nat.reduceAdd, Int.reduceNeg, Int.reduceAdd, Int.reduceSub, Int.reduceMul, Int.reduceLT, Int.reduceLE, Int.reduceEq, Int.reduceToNat, Nat.reduceBEq, e_sle, e_sge, e_shl1, e_orI, e_andI, e_shr, wrapu, wrap8, tn1, nat1, ix_s, ix_z, st_s, st_z, fl_s, fl_z, fl1_s, fl1_z, map_s, map_z, u_spec_l16Text_j0])
  all_goals first
    | (exfalso; omega)
    | (subst_vars; exact ret_b (by first | rfl | (simp [txtB, txtR, namK, unaL, *]; done)))
    | exact ret_b (by rw [txtB, if_neg (by simp [namK, *])])
    | skip
theorem implTxt_m (k n c : Int) (s : ByteArray) (L : List ByteArray) (hs : s.size ≤ 100000000000) : Meets Try.prog 48 [(true, encNod ⟨k, n, s, L, c⟩)] [(false, [.sc (.bool (txtR k s))], true)] := by
  have h2 := implName_m s hs
  have h4 := implBin_m s
  refine meets_upf Try.func48 u_impl_textRight_g rfl ?_; simp only [u_impl_textRight_u]
  simp only [encNod, encSs]
  repeat' (first | (with_reducible refine jn_in ?_) | (with_reducible refine cl_ok (by assumption) rfl ?_) | (with_reducible refine cl_okP (by assumption) rfl ?_) | (with_reducible refine br_if (fun hbr => ?_) (fun hbr => ?_)) | (with_reducible refine br_ifn (fun hbr => ?_) (fun hbr => ?_)) | (with_reducible refine br_nb (fun hbr => ?_) (fun hbr => ?_)) | (with_reducible refine br_b (fun hbr => ?_) (fun hbr => ?_)) | simp (disch := first | omega | (simp only [List.length_take, List.length_drop, List.length_append, List.map_cons, List.map_nil, List.length_map, List.length_cons, List.length_nil, List.length_set, List.length_replicate]; omega) | (simp only [List.length_cons, List.length_nil, Nat.zero_add, Nat.reduceAdd])) only [go_sem, ↓reduceIte, Nat.reduceAdd, Int.reduceNeg, Int.reduceAdd, Int.reduceSub, Int.reduceMul, Int.reduceLT, Int.reduceLE, Int.reduceEq, Int.reduceToNat, Nat.reduceBEq, e_sle, e_sge, e_shl1, e_orI, e_andI, e_shr, wrapu, wrap8, tn1, nat1, ix_s, ix_z, st_s, st_z, fl_s, fl_z, fl1_s, fl1_z, map_s, map_z, true_and])
  all_goals first
    | (exfalso; omega)
    | exact ret_b (by rw [txtR, if_pos ‹k = 3›])
    | exact ret_b (by rw [txtR, if_neg ‹¬ k = 3›, if_pos ‹k = 10›, unaH]; simp [*])
    | exact ret_b (by rw [txtR, if_neg ‹¬ k = 3›, if_neg ‹¬ k = 10›, if_pos ‹k = 11›])
    | exact ret_b (by rw [txtR, if_neg ‹¬ k = 3›, if_neg ‹¬ k = 10›, if_neg ‹¬ k = 11›, if_pos ‹k = 14›]; simp [*])
    | exact ret_b (by rw [txtR, if_neg ‹¬ k = 3›, if_neg ‹¬ k = 10›, if_neg ‹¬ k = 11›, if_neg ‹¬ k = 14›])
    | skip
end Go.Proofs.Ytbikbjgbpeipmaa
