/- The law FnExactMultiplyMatrices. -/
import Derived.Test.YtlcnokbhoekpkaaLawMt
import Derived.Test.YtlcnokbhoekpkaaMul2
import Derived.Test.YtlcnokbhoekpkaaGen
import Derived.Test.YtlcnokbhoekpkaaGX
namespace Go.Proofs.Ytlcnokbhoekpkaa
open Go.RowKit
set_option linter.unusedVariables false
set_option linter.unusedSimpArgs false
set_option maxRecDepth 100000

theorem mulM_len (a b : Mt) : (mulM a b).cells.length ≤ 144 := by
  cases h : mulB a b
  · rw [mulM_false h]; simp
  · rw [mulM_true h]
    unfold mulB at h
    simp only [Bool.and_eq_true] at h
    obtain ⟨h1, h2, h3, h4, -⟩ := mtB_dims h.1.1.1
    obtain ⟨k1, k2, k3, k4, -⟩ := mtB_dims h.1.1.2
    simp only [mulL, gridL_len]
    have : a.rows.toNat * b.cols.toNat ≤ 12 * 12 := Nat.mul_le_mul (by omega) (by omega)
    omega

set_option maxHeartbeats 8000000 in
theorem lawMul_m (a b : Mt) (hna : a.cells.length ≤ 9223372036854775807) (hta : ∀ x ∈ a.cells, x.text.size ≤ 9223372036854775807) (hnb : b.cells.length ≤ 9223372036854775807) (htb : ∀ x ∈ b.cells, x.text.size ≤ 9223372036854775807) :
    Meets Try.prog 8 [(true, encMtL a), (true, encMtL b)] [(false, [.sc (.bool true)], true)] := by
  obtain ⟨r, c, l⟩ := a
  obtain ⟨r1, c1, l1⟩ := b
  have hS := specMul_m ⟨r, c, l⟩ ⟨r1, c1, l1⟩
  have hI := implMul_m ⟨r, c, l⟩ ⟨r1, c1, l1⟩
  have hTl := mulM_len ⟨r, c, l⟩ ⟨r1, c1, l1⟩
  generalize mulM ⟨r, c, l⟩ ⟨r1, c1, l1⟩ = T at *
  generalize mulB ⟨r, c, l⟩ ⟨r1, c1, l1⟩ = bb at *
  obtain ⟨r2, c2, l2⟩ := T
  simp only at hna hta hnb htb hTl
  refine meets_upf Try.func8 u_laws_FnExactMultiplyMatrices_g rfl ?_; simp only [u_laws_FnExactMultiplyMatrices_u]
  simp (disch := first | omega | (simp only [List.length_take, List.length_drop, List.length_append, List.map_cons, List.map_nil, List.length_map, List.length_cons, List.length_nil, List.length_set, List.length_replicate]; omega) | (simp only [List.length_cons, List.length_nil, Nat.zero_add, Nat.reduceAdd])) only [v_po, bd_some, v_cl, v_mk, v_ite, br_true, br_false, v_jump, jp_some, v_ret, rt_some, v_sel, sl_some, ev_k, ev_e, ev_bin, e_add, e_sub, e_mul, e_eql, e_neq, e_lss, e_leq, e_gtr, e_geq, e_seq, e_sne, e_slt, e_sgt, e_beq, e_bne, ev_un, e_neg, e_not, wrap_id, ev_isI, e_isI, ev_sc, e_scI, e_scS, e_scB, k_int, k_str, k_bool, ev_flat, e_flat0, ev_cvI, e_cvI, ev_cvS, e_cvS, ev_lenS, e_lenS, ev_lenL, e_lenL, ev_chr, e_chr', ev_idx, ev_chk, e_chk_map, ev_cutS, e_cS, e_cS1, e_cS2, ev_cutL, e_cL, e_cL1, e_cL2, gI_e, gIE_some, gIo_none, gIo_some, ev_app, e_app1, e_appm, e_app0, e_app01, ev_mk, eMk, ev_make, e_make, ev_set, e_cat, e_quo, e_rem, psh, flatA, flatR, gL, gLL, gArgs, List.getElem?_cons_zero, List.getElem?_cons_succ, List.getElem?_nil, List.map_cons, List.map_nil, List.length_map, List.length_cons, List.length_nil, List.nil_append, List.cons_append, Option.map_some, Option.getD_some, Option.getD_none, Int.toNat_natCast, Int.natCast_zero, ↓reduceIte, if_true, Bool.not_true, Bool.not_false, not_false_eq_true, not_true_eq_false, true_implies, false_implies, implies_true, and_true, true_and, Nat.add_sub_cancel_left, Nat.reduceAdd, Int.reduceNeg, Int.reduceAdd, Int.reduceSub, Int.reduceMul, Int.reduceLT, Int.reduceLE, Int.reduceEq, Int.reduceToNat, decide_true, decide_false, Nat.reduceBEq, List.all_cons, List.all_nil, Bool.and_true, beq_self_eq_true, Bool.and_self, encMtL]
  have hz := szMatrix_m ⟨r, c, l⟩ 1048576 hna hta (by decide) (by decide)
  simp only [encMtL] at hz
  refine cl_ok hz rfl ?_
  by_cases hc : (wtItems l : Int) ≤ 1048576
  rotate_left
  · have hs := szF_gt (left := 1048576) (wt := wtItems l) (by omega)
    simp (disch := first | omega | (simp only [List.length_take, List.length_drop, List.length_append, List.map_cons, List.map_nil, List.length_map, List.length_cons, List.length_nil, List.length_set, List.length_replicate]; omega) | (simp only [List.length_cons, List.length_nil, Nat.zero_add, Nat.reduceAdd])) only [v_po, bd_some, v_cl, v_mk, v_ite, br_true, br_false, v_jump, jp_some, v_ret, rt_some, v_sel, sl_some, ev_k, ev_e, ev_bin, e_add, e_sub, e_mul, e_eql, e_neq, e_lss, e_leq, e_gtr, e_geq, e_seq, e_sne, e_slt, e_sgt, e_beq, e_bne, ev_un, e_neg, e_not, wrap_id, ev_isI, e_isI, ev_sc, e_scI, e_scS, e_scB, k_int, k_str, k_bool, ev_flat, e_flat0, ev_cvI, e_cvI, ev_cvS, e_cvS, ev_lenS, e_lenS, ev_lenL, e_lenL, ev_chr, e_chr', ev_idx, ev_chk, e_chk_map, ev_cutS, e_cS, e_cS1, e_cS2, ev_cutL, e_cL, e_cL1, e_cL2, gI_e, gIE_some, gIo_none, gIo_some, ev_app, e_app1, e_appm, e_app0, e_app01, ev_mk, eMk, ev_make, e_make, ev_set, e_cat, e_quo, e_rem, psh, flatA, flatR, gL, gLL, gArgs, List.getElem?_cons_zero, List.getElem?_cons_succ, List.getElem?_nil, List.map_cons, List.map_nil, List.length_map, List.length_cons, List.length_nil, List.nil_append, List.cons_append, Option.map_some, Option.getD_some, Option.getD_none, Int.toNat_natCast, Int.natCast_zero, ↓reduceIte, if_true, Bool.not_true, Bool.not_false, not_false_eq_true, not_true_eq_false, true_implies, false_implies, implies_true, and_true, true_and, Nat.add_sub_cancel_left, Nat.reduceAdd, Int.reduceNeg, Int.reduceAdd, Int.reduceSub, Int.reduceMul, Int.reduceLT, Int.reduceLE, Int.reduceEq, Int.reduceToNat, decide_true, decide_false, Nat.reduceBEq, List.all_cons, List.all_nil, Bool.and_true, beq_self_eq_true, Bool.and_self, hs]
    rfl
  have hs := szF_le hc
  have hd : decide ((1048576 : Int) - (wtItems l : Int) < 0) = false := decide_eq_false (by omega)
  simp (disch := first | omega | (simp only [List.length_take, List.length_drop, List.length_append, List.map_cons, List.map_nil, List.length_map, List.length_cons, List.length_nil, List.length_set, List.length_replicate]; omega) | (simp only [List.length_cons, List.length_nil, Nat.zero_add, Nat.reduceAdd])) only [v_po, bd_some, v_cl, v_mk, v_ite, br_true, br_false, v_jump, jp_some, v_ret, rt_some, v_sel, sl_some, ev_k, ev_e, ev_bin, e_add, e_sub, e_mul, e_eql, e_neq, e_lss, e_leq, e_gtr, e_geq, e_seq, e_sne, e_slt, e_sgt, e_beq, e_bne, ev_un, e_neg, e_not, wrap_id, ev_isI, e_isI, ev_sc, e_scI, e_scS, e_scB, k_int, k_str, k_bool, ev_flat, e_flat0, ev_cvI, e_cvI, ev_cvS, e_cvS, ev_lenS, e_lenS, ev_lenL, e_lenL, ev_chr, e_chr', ev_idx, ev_chk, e_chk_map, ev_cutS, e_cS, e_cS1, e_cS2, ev_cutL, e_cL, e_cL1, e_cL2, gI_e, gIE_some, gIo_none, gIo_some, ev_app, e_app1, e_appm, e_app0, e_app01, ev_mk, eMk, ev_make, e_make, ev_set, e_cat, e_quo, e_rem, psh, flatA, flatR, gL, gLL, gArgs, List.getElem?_cons_zero, List.getElem?_cons_succ, List.getElem?_nil, List.map_cons, List.map_nil, List.length_map, List.length_cons, List.length_nil, List.nil_append, List.cons_append, Option.map_some, Option.getD_some, Option.getD_none, Int.toNat_natCast, Int.natCast_zero, ↓reduceIte, if_true, Bool.not_true, Bool.not_false, not_false_eq_true, not_true_eq_false, true_implies, false_implies, implies_true, and_true, true_and, Nat.add_sub_cancel_left, Nat.reduceAdd, Int.reduceNeg, Int.reduceAdd, Int.reduceSub, Int.reduceMul, Int.reduceLT, Int.reduceLE, Int.reduceEq, Int.reduceToNat, decide_true, decide_false, Nat.reduceBEq, List.all_cons, List.all_nil, Bool.and_true, beq_self_eq_true, Bool.and_self, hs, hd]
  have hz1 := szMatrix_m ⟨r1, c1, l1⟩ (1048576 - (wtItems l : Int)) hnb htb (by omega) (by omega)
  simp only [encMtL] at hz1
  refine cl_ok hz1 rfl ?_
  by_cases hc1 : (wtItems l1 : Int) ≤ 1048576 - (wtItems l : Int)
  rotate_left
  · have hs1 := szF_gt (left := 1048576 - (wtItems l : Int)) (wt := wtItems l1) (by omega)
    simp (disch := first | omega | (simp only [List.length_take, List.length_drop, List.length_append, List.map_cons, List.map_nil, List.length_map, List.length_cons, List.length_nil, List.length_set, List.length_replicate]; omega) | (simp only [List.length_cons, List.length_nil, Nat.zero_add, Nat.reduceAdd])) only [v_po, bd_some, v_cl, v_mk, v_ite, br_true, br_false, v_jump, jp_some, v_ret, rt_some, v_sel, sl_some, ev_k, ev_e, ev_bin, e_add, e_sub, e_mul, e_eql, e_neq, e_lss, e_leq, e_gtr, e_geq, e_seq, e_sne, e_slt, e_sgt, e_beq, e_bne, ev_un, e_neg, e_not, wrap_id, ev_isI, e_isI, ev_sc, e_scI, e_scS, e_scB, k_int, k_str, k_bool, ev_flat, e_flat0, ev_cvI, e_cvI, ev_cvS, e_cvS, ev_lenS, e_lenS, ev_lenL, e_lenL, ev_chr, e_chr', ev_idx, ev_chk, e_chk_map, ev_cutS, e_cS, e_cS1, e_cS2, ev_cutL, e_cL, e_cL1, e_cL2, gI_e, gIE_some, gIo_none, gIo_some, ev_app, e_app1, e_appm, e_app0, e_app01, ev_mk, eMk, ev_make, e_make, ev_set, e_cat, e_quo, e_rem, psh, flatA, flatR, gL, gLL, gArgs, List.getElem?_cons_zero, List.getElem?_cons_succ, List.getElem?_nil, List.map_cons, List.map_nil, List.length_map, List.length_cons, List.length_nil, List.nil_append, List.cons_append, Option.map_some, Option.getD_some, Option.getD_none, Int.toNat_natCast, Int.natCast_zero, ↓reduceIte, if_true, Bool.not_true, Bool.not_false, not_false_eq_true, not_true_eq_false, true_implies, false_implies, implies_true, and_true, true_and, Nat.add_sub_cancel_left, Nat.reduceAdd, Int.reduceNeg, Int.reduceAdd, Int.reduceSub, Int.reduceMul, Int.reduceLT, Int.reduceLE, Int.reduceEq, Int.reduceToNat, decide_true, decide_false, Nat.reduceBEq, List.all_cons, List.all_nil, Bool.and_true, beq_self_eq_true, Bool.and_self, hs1]
    rfl
  have hs1 := szF_le hc1
  have hd1 : decide ((1048576 : Int) - (wtItems l : Int) - (wtItems l1 : Int) < 0) = false := decide_eq_false (by omega)
  have hln : l.length ≤ 1048576 := by unfold wtItems at hc; omega
  have hln1 : l1.length ≤ 1048576 := by unfold wtItems at hc1; omega
  have hmx : Marks Try.prog 24 true (encMt ⟨r, c, l⟩) 1 (encMt ⟨r, c, marksIt 1 l.length⟩) ((1 + 3 * l.length : Nat) : Int) := markMatrix_k r c l 1 (by decide) (by omega)
  have hmy : Marks Try.prog 24 true (encMt ⟨r1, c1, l1⟩) ((1 + 3 * l.length : Nat) : Int) (encMt ⟨r1, c1, marksIt (1 + 3 * l.length) l1.length⟩) ((1 + 3 * l.length + 3 * l1.length : Nat) : Int) := markMatrix_k r1 c1 l1 (1 + 3 * l.length) (by omega) (by omega)
  have hmg : Marks Try.prog 24 true (encMt ⟨r2, c2, l2⟩) 1 (encMt ⟨r2, c2, marksIt 1 l2.length⟩) ((1 + 3 * l2.length : Nat) : Int) := markMatrix_k r2 c2 l2 1 (by decide) (by omega)
  have hhg : Meets Try.prog 25 [(true, encMt ⟨r2, c2, marksIt 1 l2.length⟩), (false, [.sc (.int .i64 1)])] [(false, [.sc (.int .i64 ((1 + 3 * l2.length : Nat) : Int))], true)] := heldMatrix_m r2 c2 1 l2.length (by decide) (by omega)
  have hkx : decide (((1 + 3 * l.length + 3 * l1.length : Nat) : Int) < 0) = false := decide_eq_false (by omega)
  have hkg : decide (((1 + 3 * l2.length : Nat) : Int) < 0) = false := decide_eq_false (by omega)
  have ht := toMatrix_m ⟨r, c, l⟩ hln
  have ht1 := toMatrix_m ⟨r1, c1, l1⟩ hln1
  have hq := eqMatrix_m ⟨r, c, l⟩ (by simp only; omega)
  have hq1 := eqMatrix_m ⟨r1, c1, l1⟩ (by simp only; omega)
  have hq2 := eqMatrix_m ⟨r2, c2, l2⟩ (by simp only; omega)
  simp only [encMtL, encMt, encIts] at ht ht1 hq hq1 hq2 hmx hmy hmg hhg hS hI
  repeat' (first | (with_reducible refine cl_ok (by assumption) rfl ?_) | (refine mk_ok (by assumption) ?_ ?_; (· first | exact ⟨⟨_, rfl, rfl⟩, ⟨_, rfl, rfl⟩, trivial⟩ | exact trivial | exact ⟨⟨_, rfl, rfl⟩, trivial⟩)) | simp (disch := first | omega | (simp only [List.length_take, List.length_drop, List.length_append, List.map_cons, List.map_nil, List.length_map, List.length_cons, List.length_nil, List.length_set, List.length_replicate]; omega) | (simp only [List.length_cons, List.length_nil, Nat.zero_add, Nat.reduceAdd])) only [v_po, bd_some, v_cl, v_mk, v_ite, br_true, br_false, v_jump, jp_some, v_ret, rt_some, v_sel, sl_some, ev_k, ev_e, ev_bin, e_add, e_sub, e_mul, e_eql, e_neq, e_lss, e_leq, e_gtr, e_geq, e_seq, e_sne, e_slt, e_sgt, e_beq, e_bne, ev_un, e_neg, e_not, wrap_id, ev_isI, e_isI, ev_sc, e_scI, e_scS, e_scB, k_int, k_str, k_bool, ev_flat, e_flat0, ev_cvI, e_cvI, ev_cvS, e_cvS, ev_lenS, e_lenS, ev_lenL, e_lenL, ev_chr, e_chr', ev_idx, ev_chk, e_chk_map, ev_cutS, e_cS, e_cS1, e_cS2, ev_cutL, e_cL, e_cL1, e_cL2, gI_e, gIE_some, gIo_none, gIo_some, ev_app, e_app1, e_appm, e_app0, e_app01, ev_mk, eMk, ev_make, e_make, ev_set, e_cat, e_quo, e_rem, psh, flatA, flatR, gL, gLL, gArgs, List.getElem?_cons_zero, List.getElem?_cons_succ, List.getElem?_nil, List.map_cons, List.map_nil, List.length_map, List.length_cons, List.length_nil, List.nil_append, List.cons_append, Option.map_some, Option.getD_some, Option.getD_none, Int.toNat_natCast, Int.natCast_zero, ↓reduceIte, if_true, Bool.not_true, Bool.not_false, not_false_eq_true, not_true_eq_false, true_implies, false_implies, implies_true, and_true, true_and, Nat.add_sub_cancel_left, Nat.reduceAdd, Int.reduceNeg, Int.reduceAdd, Int.reduceSub, Int.reduceMul, Int.reduceLT, Int.reduceLE, Int.reduceEq, Int.reduceToNat, decide_true, decide_false, Nat.reduceBEq, List.all_cons, List.all_nil, Bool.and_true, beq_self_eq_true, Bool.and_self, hs1, hd1, hkx, hkg])
  rfl
end Go.Proofs.Ytlcnokbhoekpkaa
