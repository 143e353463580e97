/- The law FnExactPredictWith. -/
import Derived.Test.YtlcnokbhoekpkaaLawMul
import Derived.Test.YtlcnokbhoekpkaaPred
import Derived.Test.YtlcnokbhoekpkaaOpenE
namespace Go.Proofs.Ytlcnokbhoekpkaa
open Go.RowKit
set_option linter.unusedVariables false
set_option linter.unusedSimpArgs false
set_option maxRecDepth 100000

theorem prL_len (x : Mt) (b : List It) : (prL x b).length ≤ 144 := by
  unfold prL
  split
  · exact mulM_len _ _
  · simp

/-- an argument of type []laws.Item -/
theorem arg_its {H : Type} {enc : TypeId × Value → H} {w : World} {base b : Nat} {spare : Nat → Bool} {held : Bool} {v : Value} {d : DataW H} {p : List MemPlace} (h : DataW.Trod enc Try.prog w b spare held 22 v d p) (ok : Value.okWide Try.prog w .any base 22 v) :
    ∃ (l : List It) (f : List Nat), ArgR w (· ∈ f) v (false, [.sl 70 3 (l.map encIt)]) ∧ (∀ c ∈ f, c < w.heap.size) ∧ l.length ≤ 9223372036854775807 ∧ (∀ x ∈ l, ItOk x) := by
  obtain ⟨fuel, hf⟩ := h
  obtain ⟨l, f, A, nn, cp, h2, i2⟩ := opens_items H enc w b spare held fuel _ _ hf
  obtain ⟨x0, x1, x2, rfl⟩ := Go.WideShapes.okWide_slice Try.underlying22 ok
  simp [Value.cells] at h2
  obtain ⟨rfl, rfl, rfl⟩ := h2
  obtain ⟨r1, r2, r3⟩ := slr_rep 70 i2
  exact ⟨l, f, r1, i2.lt, r2, r3⟩

set_option maxHeartbeats 8000000 in
theorem lawPred_m (a : Mt) (b : List It) (hna : a.cells.length ≤ 9223372036854775807) (hta : ∀ x ∈ a.cells, x.text.size ≤ 9223372036854775807) (hnb : b.length ≤ 9223372036854775807) (htb : ∀ x ∈ b, x.text.size ≤ 9223372036854775807) :
    Meets Try.prog 9 [(true, encMtL a), (false, [.sl 70 3 (b.map encIt)])] [(false, [.sc (.bool true)], true)] := by
  obtain ⟨r, c, l⟩ := a
  have hTl := prL_len ⟨r, c, l⟩ b
  have hS := specPred_m ⟨r, c, l⟩ b
  have hI := implPred_m ⟨r, c, l⟩ b
  generalize prL ⟨r, c, l⟩ b = l2 at *
  generalize prB ⟨r, c, l⟩ b = bb at *
  simp only at hna hta
  refine meets_upf Try.func9 u_laws_FnExactPredictWith_g rfl ?_; simp only [u_laws_FnExactPredictWith_u]
  simp (disch := first | omega | (simp only [List.length_take, List.length_drop, List.length_append, List.map_cons, List.map_nil, List.length_map, List.length_cons, List.length_nil, List.length_set, List.length_replicate]; omega) | (simp only [List.length_cons, List.length_nil, Nat.zero_add, Nat.reduceAdd])) only [v_po, bd_some, v_cl, v_mk, v_ite, br_true, br_false, v_jump, jp_some, v_ret, rt_some, v_sel, sl_some, ev_k, ev_e, ev_bin, e_add, e_sub, e_mul, e_eql, e_neq, e_lss, e_leq, e_gtr, e_geq, e_seq, e_sne, e_slt, e_sgt, e_beq, e_bne, ev_un, e_neg, e_not, wrap_id, ev_isI, e_isI, ev_sc, e_scI, e_scS, e_scB, k_int, k_str, k_bool, ev_flat, e_flat0, ev_cvI, e_cvI, ev_cvS, e_cvS, ev_lenS, e_lenS, ev_lenL, e_lenL, ev_chr, e_chr', ev_idx, ev_chk, e_chk_map, ev_cutS, e_cS, e_cS1, e_cS2, ev_cutL, e_cL, e_cL1, e_cL2, gI_e, gIE_some, gIo_none, gIo_some, ev_app, e_app1, e_appm, e_app0, e_app01, ev_mk, eMk, ev_make, e_make, ev_set, ev_eqS, e_cat, e_quo, e_rem, psh, flatA, flatR, gL, gLL, gArgs, List.getElem?_cons_zero, List.getElem?_cons_succ, List.getElem?_nil, List.map_cons, List.map_nil, List.length_map, List.length_cons, List.length_nil, List.nil_append, List.cons_append, Option.map_some, Option.getD_some, Option.getD_none, Int.toNat_natCast, Int.natCast_zero, ↓reduceIte, if_true, Bool.not_true, Bool.not_false, not_false_eq_true, not_true_eq_false, true_implies, false_implies, implies_true, and_true, true_and, Nat.add_sub_cancel_left, Nat.reduceAdd, Int.reduceNeg, Int.reduceAdd, Int.reduceSub, Int.reduceMul, Int.reduceLT, Int.reduceLE, Int.reduceEq, Int.reduceToNat, decide_true, decide_false, Nat.reduceBEq, List.all_cons, List.all_nil, Bool.and_true, beq_self_eq_true, Bool.and_self, encMtL]
  have hz := szMatrix_m ⟨r, c, l⟩ 1048576 hna hta (by decide) (by decide)
  simp only [encMtL] at hz
  refine cl_ok hz rfl ?_
  by_cases hc : (wtItems l : Int) ≤ 1048576
  rotate_left
  · have hs := szF_gt (left := 1048576) (wt := wtItems l) (by omega)
    simp (disch := first | omega | (simp only [List.length_take, List.length_drop, List.length_append, List.map_cons, List.map_nil, List.length_map, List.length_cons, List.length_nil, List.length_set, List.length_replicate]; omega) | (simp only [List.length_cons, List.length_nil, Nat.zero_add, Nat.reduceAdd])) only [v_po, bd_some, v_cl, v_mk, v_ite, br_true, br_false, v_jump, jp_some, v_ret, rt_some, v_sel, sl_some, ev_k, ev_e, ev_bin, e_add, e_sub, e_mul, e_eql, e_neq, e_lss, e_leq, e_gtr, e_geq, e_seq, e_sne, e_slt, e_sgt, e_beq, e_bne, ev_un, e_neg, e_not, wrap_id, ev_isI, e_isI, ev_sc, e_scI, e_scS, e_scB, k_int, k_str, k_bool, ev_flat, e_flat0, ev_cvI, e_cvI, ev_cvS, e_cvS, ev_lenS, e_lenS, ev_lenL, e_lenL, ev_chr, e_chr', ev_idx, ev_chk, e_chk_map, ev_cutS, e_cS, e_cS1, e_cS2, ev_cutL, e_cL, e_cL1, e_cL2, gI_e, gIE_some, gIo_none, gIo_some, ev_app, e_app1, e_appm, e_app0, e_app01, ev_mk, eMk, ev_make, e_make, ev_set, ev_eqS, e_cat, e_quo, e_rem, psh, flatA, flatR, gL, gLL, gArgs, List.getElem?_cons_zero, List.getElem?_cons_succ, List.getElem?_nil, List.map_cons, List.map_nil, List.length_map, List.length_cons, List.length_nil, List.nil_append, List.cons_append, Option.map_some, Option.getD_some, Option.getD_none, Int.toNat_natCast, Int.natCast_zero, ↓reduceIte, if_true, Bool.not_true, Bool.not_false, not_false_eq_true, not_true_eq_false, true_implies, false_implies, implies_true, and_true, true_and, Nat.add_sub_cancel_left, Nat.reduceAdd, Int.reduceNeg, Int.reduceAdd, Int.reduceSub, Int.reduceMul, Int.reduceLT, Int.reduceLE, Int.reduceEq, Int.reduceToNat, decide_true, decide_false, Nat.reduceBEq, List.all_cons, List.all_nil, Bool.and_true, beq_self_eq_true, Bool.and_self, hs]
    rfl
  have hs := szF_le hc
  have hd : decide ((1048576 : Int) - (wtItems l : Int) < 0) = false := decide_eq_false (by omega)
  simp (disch := first | omega | (simp only [List.length_take, List.length_drop, List.length_append, List.map_cons, List.map_nil, List.length_map, List.length_cons, List.length_nil, List.length_set, List.length_replicate]; omega) | (simp only [List.length_cons, List.length_nil, Nat.zero_add, Nat.reduceAdd])) only [v_po, bd_some, v_cl, v_mk, v_ite, br_true, br_false, v_jump, jp_some, v_ret, rt_some, v_sel, sl_some, ev_k, ev_e, ev_bin, e_add, e_sub, e_mul, e_eql, e_neq, e_lss, e_leq, e_gtr, e_geq, e_seq, e_sne, e_slt, e_sgt, e_beq, e_bne, ev_un, e_neg, e_not, wrap_id, ev_isI, e_isI, ev_sc, e_scI, e_scS, e_scB, k_int, k_str, k_bool, ev_flat, e_flat0, ev_cvI, e_cvI, ev_cvS, e_cvS, ev_lenS, e_lenS, ev_lenL, e_lenL, ev_chr, e_chr', ev_idx, ev_chk, e_chk_map, ev_cutS, e_cS, e_cS1, e_cS2, ev_cutL, e_cL, e_cL1, e_cL2, gI_e, gIE_some, gIo_none, gIo_some, ev_app, e_app1, e_appm, e_app0, e_app01, ev_mk, eMk, ev_make, e_make, ev_set, ev_eqS, e_cat, e_quo, e_rem, psh, flatA, flatR, gL, gLL, gArgs, List.getElem?_cons_zero, List.getElem?_cons_succ, List.getElem?_nil, List.map_cons, List.map_nil, List.length_map, List.length_cons, List.length_nil, List.nil_append, List.cons_append, Option.map_some, Option.getD_some, Option.getD_none, Int.toNat_natCast, Int.natCast_zero, ↓reduceIte, if_true, Bool.not_true, Bool.not_false, not_false_eq_true, not_true_eq_false, true_implies, false_implies, implies_true, and_true, true_and, Nat.add_sub_cancel_left, Nat.reduceAdd, Int.reduceNeg, Int.reduceAdd, Int.reduceSub, Int.reduceMul, Int.reduceLT, Int.reduceLE, Int.reduceEq, Int.reduceToNat, decide_true, decide_false, Nat.reduceBEq, List.all_cons, List.all_nil, Bool.and_true, beq_self_eq_true, Bool.and_self, hs, hd]
  have hz1 := szItemS_m 70 b (1048576 - (wtItems l : Int)) hnb htb (by omega) (by omega)
  refine cl_ok hz1 rfl ?_
  by_cases hc1 : (wtItems b : Int) ≤ 1048576 - (wtItems l : Int)
  rotate_left
  · have hs1 := szF_gt (left := 1048576 - (wtItems l : Int)) (wt := wtItems b) (by omega)
    simp (disch := first | omega | (simp only [List.length_take, List.length_drop, List.length_append, List.map_cons, List.map_nil, List.length_map, List.length_cons, List.length_nil, List.length_set, List.length_replicate]; omega) | (simp only [List.length_cons, List.length_nil, Nat.zero_add, Nat.reduceAdd])) only [v_po, bd_some, v_cl, v_mk, v_ite, br_true, br_false, v_jump, jp_some, v_ret, rt_some, v_sel, sl_some, ev_k, ev_e, ev_bin, e_add, e_sub, e_mul, e_eql, e_neq, e_lss, e_leq, e_gtr, e_geq, e_seq, e_sne, e_slt, e_sgt, e_beq, e_bne, ev_un, e_neg, e_not, wrap_id, ev_isI, e_isI, ev_sc, e_scI, e_scS, e_scB, k_int, k_str, k_bool, ev_flat, e_flat0, ev_cvI, e_cvI, ev_cvS, e_cvS, ev_lenS, e_lenS, ev_lenL, e_lenL, ev_chr, e_chr', ev_idx, ev_chk, e_chk_map, ev_cutS, e_cS, e_cS1, e_cS2, ev_cutL, e_cL, e_cL1, e_cL2, gI_e, gIE_some, gIo_none, gIo_some, ev_app, e_app1, e_appm, e_app0, e_app01, ev_mk, eMk, ev_make, e_make, ev_set, ev_eqS, e_cat, e_quo, e_rem, psh, flatA, flatR, gL, gLL, gArgs, List.getElem?_cons_zero, List.getElem?_cons_succ, List.getElem?_nil, List.map_cons, List.map_nil, List.length_map, List.length_cons, List.length_nil, List.nil_append, List.cons_append, Option.map_some, Option.getD_some, Option.getD_none, Int.toNat_natCast, Int.natCast_zero, ↓reduceIte, if_true, Bool.not_true, Bool.not_false, not_false_eq_true, not_true_eq_false, true_implies, false_implies, implies_true, and_true, true_and, Nat.add_sub_cancel_left, Nat.reduceAdd, Int.reduceNeg, Int.reduceAdd, Int.reduceSub, Int.reduceMul, Int.reduceLT, Int.reduceLE, Int.reduceEq, Int.reduceToNat, decide_true, decide_false, Nat.reduceBEq, List.all_cons, List.all_nil, Bool.and_true, beq_self_eq_true, Bool.and_self, hs1]
    rfl
  have hs1 := szF_le hc1
  have hd1 : decide ((1048576 : Int) - (wtItems l : Int) - (wtItems b : Int) < 0) = false := decide_eq_false (by omega)
  have hln : l.length ≤ 1048576 := by unfold wtItems at hc; omega
  have hln1 : b.length ≤ 1048576 := by unfold wtItems at hc1; omega
  have hS := hS (by omega)
  have hI := hI (by omega)
  have hmx : Marks Try.prog 24 true (encMt ⟨r, c, l⟩) 1 (encMt ⟨r, c, marksIt 1 l.length⟩) ((1 + 3 * l.length : Nat) : Int) := markMatrix_k r c l 1 (by decide) (by omega)
  have hmy : Marks Try.prog 40 false [encIts b] ((1 + 3 * l.length : Nat) : Int) [encIts (marksIt (1 + 3 * l.length) b.length)] ((1 + 3 * l.length + 3 * b.length : Nat) : Int) := markItemS_k b (1 + 3 * l.length) (by omega) (by omega)
  have hmg : Marks Try.prog 40 false [encIts l2] 1 [encIts (marksIt 1 l2.length)] ((1 + 3 * l2.length : Nat) : Int) := markItemS_k l2 1 (by decide) (by omega)
  have hhg : Meets Try.prog 41 [(false, [encIts (marksIt 1 l2.length)]), (false, [.sc (.int .i64 1)])] [(false, [.sc (.int .i64 ((1 + 3 * l2.length : Nat) : Int))], true)] := heldItemS_m 1 l2.length (by decide) (by omega)
  have hkx : decide (((1 + 3 * l.length + 3 * b.length : Nat) : Int) < 0) = false := decide_eq_false (by omega)
  have hkg : decide (((1 + 3 * l2.length : Nat) : Int) < 0) = false := decide_eq_false (by omega)
  have ht := toMatrix_m ⟨r, c, l⟩ hln
  have ht1 := toItemS_m 70 b hln1
  have hq := eqMatrix_m ⟨r, c, l⟩ (by simp only; omega)
  have hq1 := eqItemS_m b (by omega)
  have hq2 := eqItemS_m l2 (by omega)
  simp only [encMtL, encMt, encIts] at ht ht1 hq hq1 hq2 hmx hmy hmg hhg hS hI
  repeat' (first | (with_reducible refine cl_ok (by assumption) rfl ?_) | (refine mk_ok (by assumption) ?_ ?_; (· first | exact ⟨⟨_, rfl, rfl⟩, ⟨_, rfl, rfl⟩, trivial⟩ | exact trivial | exact ⟨⟨_, rfl, rfl⟩, trivial⟩)) | simp (disch := first | omega | (simp only [List.length_take, List.length_drop, List.length_append, List.map_cons, List.map_nil, List.length_map, List.length_cons, List.length_nil, List.length_set, List.length_replicate]; omega) | (simp only [List.length_cons, List.length_nil, Nat.zero_add, Nat.reduceAdd])) only [v_po, bd_some, v_cl, v_mk, v_ite, br_true, br_false, v_jump, jp_some, v_ret, rt_some, v_sel, sl_some, ev_k, ev_e, ev_bin, e_add, e_sub, e_mul, e_eql, e_neq, e_lss, e_leq, e_gtr, e_geq, e_seq, e_sne, e_slt, e_sgt, e_beq, e_bne, ev_un, e_neg, e_not, wrap_id, ev_isI, e_isI, ev_sc, e_scI, e_scS, e_scB, k_int, k_str, k_bool, ev_flat, e_flat0, ev_cvI, e_cvI, ev_cvS, e_cvS, ev_lenS, e_lenS, ev_lenL, e_lenL, ev_chr, e_chr', ev_idx, ev_chk, e_chk_map, ev_cutS, e_cS, e_cS1, e_cS2, ev_cutL, e_cL, e_cL1, e_cL2, gI_e, gIE_some, gIo_none, gIo_some, ev_app, e_app1, e_appm, e_app0, e_app01, ev_mk, eMk, ev_make, e_make, ev_set, ev_eqS, e_cat, e_quo, e_rem, psh, flatA, flatR, gL, gLL, gArgs, List.getElem?_cons_zero, List.getElem?_cons_succ, List.getElem?_nil, List.map_cons, List.map_nil, List.length_map, List.length_cons, List.length_nil, List.nil_append, List.cons_append, Option.map_some, Option.getD_some, Option.getD_none, Int.toNat_natCast, Int.natCast_zero, ↓reduceIte, if_true, Bool.not_true, Bool.not_false, not_false_eq_true, not_true_eq_false, true_implies, false_implies, implies_true, and_true, true_and, Nat.add_sub_cancel_left, Nat.reduceAdd, Int.reduceNeg, Int.reduceAdd, Int.reduceSub, Int.reduceMul, Int.reduceLT, Int.reduceLE, Int.reduceEq, Int.reduceToNat, decide_true, decide_false, Nat.reduceBEq, List.all_cons, List.all_nil, Bool.and_true, beq_self_eq_true, Bool.and_self, hs1, hd1, hkx, hkg])
  rfl
end Go.Proofs.Ytlcnokbhoekpkaa
