/- impl.beside and spec.l14Beside. -/
import Derived.Test.YtlcnokbhoekpkaaGen
import Derived.Test.YtlcnokbhoekpkaaMatA
import Derived.Test.YtlcnokbhoekpkaaGX
namespace Go.Proofs.Ytlcnokbhoekpkaa
open Go.RowKit
set_option linter.unusedVariables false
set_option linter.unusedSimpArgs false
set_option maxRecDepth 100000

instance : Inhabited It := ⟨⟨0, 0, ByteArray.empty⟩⟩
theorem encIt_all (x : It) : (encIt x).all isScD = true := rfl
theorem fl_it {t k : Nat} {l : List It} : eFlat (some (.sl t k (l.map encIt))) = some [] := e_flat_map encIt_all
theorem ix_it {t : Nat} {l : List It} {kd : IntKind} {z : Int} (h : 0 ≤ z) (h1 : z < l.length) : eIdx 3 (some (.sl t 3 (l.map encIt))) (some (.sc (.int kd z))) = some (encIt (l.getD z.toNat default)) := e_idx_map (fun _ => rfl) h h1
theorem st_it {t : Nat} {l : List It} {kd : IntKind} {z : Int} {ds : List DV} (h : 0 ≤ z) (h1 : z < l.length) (hl : ds.length = 3) : eSet 3 0 (some (.sl t 3 (l.map encIt))) (some (.sc (.int kd z))) (some ds) = some [.sl t 3 ((l.map encIt).set z.toNat ds)] := e_set_map (fun _ => rfl) h h1 hl
def besL (a b : Nat) (la lb : List It) : Nat → List It
  | 0 => []
  | i + 1 => besL a b la lb i ++ ((la.drop (i * a)).take a ++ (lb.drop (i * b)).take b)
theorem besL_len (a b : Nat) (la lb : List It) : ∀ i, (besL a b la lb i).length ≤ i * (a + b)
  | 0 => by simp [besL]
  | i + 1 => by
    have := besL_len a b la lb i
    simp only [besL, List.length_append, List.length_take, List.length_drop, Nat.succ_mul]
    omega

set_option maxHeartbeats 1000000 in
theorem implBeside_m (n a b : Nat) (r : Int) (la lb : List It) (hn : n ≤ 12) (ha : a ≤ 12) (hb : b ≤ 12) (hla : la.length = n * a) (hlb : lb.length = n * b) :
    Meets Try.prog 87 [(true, encMt ⟨n, a, la⟩), (true, encMt ⟨r, b, lb⟩)] [(true, encMt ⟨n, (a + b : Nat), besL a b la lb n⟩, true)] := by
  refine meets_upf Try.func87 u_impl_beside_g rfl ?_; simp only [u_impl_beside_u]
  simp (disch := first | omega | (simp only [List.length_take, List.length_drop, List.length_append, List.map_cons, List.map_nil, List.length_map, List.length_cons, List.length_nil, List.length_set, List.length_replicate]; omega) | exact rfl) only [v_po, bd_some, v_cl, v_mk, v_ite, br_true, br_false, v_jump, jp_some, v_ret, rt_some, v_sel, sl_some, ev_k, ev_e, ev_bin, e_add, e_sub, e_mul, e_eql, e_neq, e_lss, e_leq, e_gtr, e_geq, e_seq, e_sne, e_slt, e_sgt, e_beq, e_bne, ev_un, e_neg, e_not, wrap_id, ev_isI, e_isI, ev_sc, e_scI, e_scS, e_scB, k_int, k_str, k_bool, ev_flat, e_flat0, ev_cvI, e_cvI, ev_cvS, e_cvS, ev_lenS, e_lenS, ev_lenL, e_lenL, ev_chr, e_chr', ev_idx, ev_chk, e_chk_map, ev_cutS, e_cS, e_cS1, e_cS2, ev_cutL, e_cL, e_cL1, e_cL2, gI_e, gIE_some, gIo_none, gIo_some, ev_app, e_app1, e_appm, e_app0, e_app01, ev_mk, e_mk, ev_make, e_make, ev_set, e_cat, e_quo, e_rem, psh, flatA, flatR, gL, gLL, gArgs, List.getElem?_cons_zero, List.getElem?_cons_succ, List.getElem?_nil, List.map_cons, List.map_nil, List.length_map, List.length_cons, List.length_nil, List.nil_append, List.cons_append, Option.map_some, Option.getD_some, Option.getD_none, Int.toNat_natCast, ↓reduceIte, if_true, Bool.not_true, Bool.not_false, not_false_eq_true, not_true_eq_false, true_implies, false_implies, implies_true, and_true, true_and, Nat.add_sub_cancel_left, Nat.reduceAdd, Int.reduceNeg, Int.reduceAdd, Int.reduceSub, Int.reduceMul, Int.reduceLT, Int.reduceLE, Int.reduceEq, Int.reduceToNat, decide_true, decide_false, Nat.reduceBEq, List.all_cons, List.all_nil, Bool.and_true, beq_self_eq_true, Bool.and_self, encMt, encIts]
  refine lp_n n (fun i => [.sc (.int .i64 (i : Nat)), .sl 25 3 ((besL a b la lb i).map encIt)]) rfl fun i hi => ?_
  have h1 : i * a ≤ 12 * 12 := Nat.mul_le_mul (by omega) (by omega)
  have h2 : i * b ≤ 12 * 12 := Nat.mul_le_mul (by omega) (by omega)
  have h3 := besL_len a b la lb i
  have h4 : i * (a + b) ≤ 12 * 24 := Nat.mul_le_mul (by omega) (by omega)
  have g1 : (i : Int) * a = ((i * a : Nat) : Int) := by simp
  have g2 : (i : Int) * b = ((i * b : Nat) : Int) := by simp
  have g3 : ((i + 1 : Nat) : Int) * a = ((i * a + a : Nat) : Int) := by rw [← Int.natCast_mul, Nat.succ_mul]
  have g4 : ((i + 1 : Nat) : Int) * b = ((i * b + b : Nat) : Int) := by rw [← Int.natCast_mul, Nat.succ_mul]
  simp only [u_impl_beside_l0]
  simp (disch := first | omega | (simp only [List.length_take, List.length_drop, List.length_append, List.map_cons, List.map_nil, List.length_map, List.length_cons, List.length_nil, List.length_set, List.length_replicate]; omega) | exact rfl) only [v_po, bd_some, v_cl, v_mk, v_ite, br_true, br_false, v_jump, jp_some, v_ret, rt_some, v_sel, sl_some, ev_k, ev_e, ev_bin, e_add, e_sub, e_mul, e_eql, e_neq, e_lss, e_leq, e_gtr, e_geq, e_seq, e_sne, e_slt, e_sgt, e_beq, e_bne, ev_un, e_neg, e_not, wrap_id, ev_isI, e_isI, ev_sc, e_scI, e_scS, e_scB, k_int, k_str, k_bool, ev_flat, e_flat0, ev_cvI, e_cvI, ev_cvS, e_cvS, ev_lenS, e_lenS, ev_lenL, e_lenL, ev_chr, e_chr', ev_idx, ev_chk, e_chk_map, ev_cutS, e_cS, e_cS1, e_cS2, ev_cutL, e_cL, e_cL1, e_cL2, gI_e, gIE_some, gIo_none, gIo_some, ev_app, e_app1, e_appm, e_app0, e_app01, ev_mk, e_mk, ev_make, e_make, ev_set, e_cat, e_quo, e_rem, psh, flatA, flatR, gL, gLL, gArgs, List.getElem?_cons_zero, List.getElem?_cons_succ, List.getElem?_nil, List.map_cons, List.map_nil, List.length_map, List.length_cons, List.length_nil, List.nil_append, List.cons_append, Option.map_some, Option.getD_some, Option.getD_none, Int.toNat_natCast, ↓reduceIte, if_true, Bool.not_true, Bool.not_false, not_false_eq_true, not_true_eq_false, true_implies, false_implies, implies_true, and_true, true_and, Nat.add_sub_cancel_left, Nat.reduceAdd, Int.reduceNeg, Int.reduceAdd, Int.reduceSub, Int.reduceMul, Int.reduceLT, Int.reduceLE, Int.reduceEq, Int.reduceToNat, decide_true, decide_false, Nat.reduceBEq, List.all_cons, List.all_nil, Bool.and_true, beq_self_eq_true, Bool.and_self, nat1, g1, g2, g3, g4]
  refine br_if (fun h => ?_) (fun h => ?_)
  · have hlt : i < n := by omega
    have k1 : i * a + a ≤ n * a := by rw [← Nat.succ_mul]; exact Nat.mul_le_mul_right _ hlt
    have k2 : i * b + b ≤ n * b := by rw [← Nat.succ_mul]; exact Nat.mul_le_mul_right _ hlt
    simp (disch := first | omega | (simp only [List.length_take, List.length_drop, List.length_append, List.map_cons, List.map_nil, List.length_map, List.length_cons, List.length_nil, List.length_set, List.length_replicate]; omega) | exact rfl) only [v_po, bd_some, v_cl, v_mk, v_ite, br_true, br_false, v_jump, jp_some, v_ret, rt_some, v_sel, sl_some, ev_k, ev_e, ev_bin, e_add, e_sub, e_mul, e_eql, e_neq, e_lss, e_leq, e_gtr, e_geq, e_seq, e_sne, e_slt, e_sgt, e_beq, e_bne, ev_un, e_neg, e_not, wrap_id, ev_isI, e_isI, ev_sc, e_scI, e_scS, e_scB, k_int, k_str, k_bool, ev_flat, e_flat0, ev_cvI, e_cvI, ev_cvS, e_cvS, ev_lenS, e_lenS, ev_lenL, e_lenL, ev_chr, e_chr', ev_idx, ev_chk, e_chk_map, ev_cutS, e_cS, e_cS1, e_cS2, ev_cutL, e_cL, e_cL1, e_cL2, gI_e, gIE_some, gIo_none, gIo_some, ev_app, e_app1, e_appm, e_app0, e_app01, ev_mk, e_mk, ev_make, e_make, ev_set, e_cat, e_quo, e_rem, psh, flatA, flatR, gL, gLL, gArgs, List.getElem?_cons_zero, List.getElem?_cons_succ, List.getElem?_nil, List.map_cons, List.map_nil, List.length_map, List.length_cons, List.length_nil, List.nil_append, List.cons_append, Option.map_some, Option.getD_some, Option.getD_none, Int.toNat_natCast, ↓reduceIte, if_true, Bool.not_true, Bool.not_false, not_false_eq_true, not_true_eq_false, true_implies, false_implies, implies_true, and_true, true_and, Nat.add_sub_cancel_left, Nat.reduceAdd, Int.reduceNeg, Int.reduceAdd, Int.reduceSub, Int.reduceMul, Int.reduceLT, Int.reduceLE, Int.reduceEq, Int.reduceToNat, decide_true, decide_false, Nat.reduceBEq, List.all_cons, List.all_nil, Bool.and_true, beq_self_eq_true, Bool.and_self, nat1, g1, g2, g3, g4, fl_it]
    refine ⟨?_, hlt⟩
    simp [besL]
  · have : i = n := by omega
    subst this
    simp (disch := first | omega | (simp only [List.length_take, List.length_drop, List.length_append, List.map_cons, List.map_nil, List.length_map, List.length_cons, List.length_nil, List.length_set, List.length_replicate]; omega) | exact rfl) only [v_po, bd_some, v_cl, v_mk, v_ite, br_true, br_false, v_jump, jp_some, v_ret, rt_some, v_sel, sl_some, ev_k, ev_e, ev_bin, e_add, e_sub, e_mul, e_eql, e_neq, e_lss, e_leq, e_gtr, e_geq, e_seq, e_sne, e_slt, e_sgt, e_beq, e_bne, ev_un, e_neg, e_not, wrap_id, ev_isI, e_isI, ev_sc, e_scI, e_scS, e_scB, k_int, k_str, k_bool, ev_flat, e_flat0, ev_cvI, e_cvI, ev_cvS, e_cvS, ev_lenS, e_lenS, ev_lenL, e_lenL, ev_chr, e_chr', ev_idx, ev_chk, e_chk_map, ev_cutS, e_cS, e_cS1, e_cS2, ev_cutL, e_cL, e_cL1, e_cL2, gI_e, gIE_some, gIo_none, gIo_some, ev_app, e_app1, e_appm, e_app0, e_app01, ev_mk, e_mk, ev_make, e_make, ev_set, e_cat, e_quo, e_rem, psh, flatA, flatR, gL, gLL, gArgs, List.getElem?_cons_zero, List.getElem?_cons_succ, List.getElem?_nil, List.map_cons, List.map_nil, List.length_map, List.length_cons, List.length_nil, List.nil_append, List.cons_append, Option.map_some, Option.getD_some, Option.getD_none, Int.toNat_natCast, ↓reduceIte, if_true, Bool.not_true, Bool.not_false, not_false_eq_true, not_true_eq_false, true_implies, false_implies, implies_true, and_true, true_and, Nat.add_sub_cancel_left, Nat.reduceAdd, Int.reduceNeg, Int.reduceAdd, Int.reduceSub, Int.reduceMul, Int.reduceLT, Int.reduceLE, Int.reduceEq, Int.reduceToNat, decide_true, decide_false, Nat.reduceBEq, List.all_cons, List.all_nil, Bool.and_true, beq_self_eq_true, Bool.and_self, true_and]
    rfl
end Go.Proofs.Ytlcnokbhoekpkaa
