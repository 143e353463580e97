/- The draw of a contrast matrix's size and kind. -/
import Derived.Test.YtolkglnkdfcceaaUDrC
import Derived.Test.YtolkglnkdfcceaaCur
import Derived.Test.YtolkglnkdfcceaaVdT
namespace Go.Proofs.Ytolkglnkdfcceaa
open Go.RowKit
set_option linter.unusedVariables false
set_option linter.unusedSimpArgs false
set_option maxRecDepth 100000

theorem drawCon_e (l : List Int) (hl : l.length ≤ 1048576) : ∃ a : Int × Int, (a.1 ∈ [0, 1, 2, 3, 4, 12, 13, -1] ∧ -1 ≤ a.2 ∧ a.2 ≤ 3) ∧ Meets Try.prog 8 [(false, [encU8s l])] [(false, [.sc (.int .i64 a.1)], true), (false, [.sc (.int .i64 a.2)], true)] := by
  refine meets_ex Try.func8 u_spec_DrawContrastMatrix_g rfl (by kernel_rfl) ?_; simp only [u_spec_DrawContrastMatrix_u]
  simp (disch := first | omega | (simp only [List.length_take, List.length_drop, List.length_append, List.map_cons, List.map_nil, List.length_map, List.length_cons, List.length_nil, List.length_set, List.length_replicate]; omega) | (simp only [List.length_cons, List.length_nil, Nat.zero_add, Nat.reduceAdd])) only [go_sem, ↓reduceIte, Nat.reduceAdd, Int.reduceNeg, Int.reduceAdd, Int.reduceSub, Int.reduceMul, Int.reduceLT, Int.reduceLE, Int.reduceEq, Int.reduceToNat, Nat.reduceBEq, e_sle, e_sge, e_shl1, e_orI, e_andI, e_shr, wrapu, wrap8, tn1, nat1, ix_s, ix_z, st_s, st_z, fl_s, fl_z, fl1_s, fl1_z, map_s, map_z, true_and]
  obtain ⟨c, hc, hcb⟩ := new_e l hl
  refine cl_okN hcb rfl ?_
  clear hcb
  simp (disch := first | omega | (simp only [List.length_take, List.length_drop, List.length_append, List.map_cons, List.map_nil, List.length_map, List.length_cons, List.length_nil, List.length_set, List.length_replicate]; omega) | (simp only [List.length_cons, List.length_nil, Nat.zero_add, Nat.reduceAdd])) only [go_sem, ↓reduceIte, Nat.reduceAdd, Int.reduceNeg, Int.reduceAdd, Int.reduceSub, Int.reduceMul, Int.reduceLT, Int.reduceLE, Int.reduceEq, Int.reduceToNat, Nat.reduceBEq, e_sle, e_sge, e_shl1, e_orI, e_andI, e_shr, wrapu, wrap8, tn1, nat1, ix_s, ix_z, st_s, st_z, fl_s, fl_z, fl1_s, fl1_z, map_s, map_z, true_and]
  obtain ⟨n, c1, hn, h1, hcb⟩ := pki_e 3 l c [0, 1, 2, 3, 4, 12, 13, -1] (by first | assumption | omega) (by omega) (by simp) (by simp); refine cl_okC hcb rfl ?_; clear hcb; simp (disch := first | omega | (simp only [List.length_take, List.length_drop, List.length_append, List.map_cons, List.map_nil, List.length_map, List.length_cons, List.length_nil, List.length_set, List.length_replicate]; omega) | (simp only [List.length_cons, List.length_nil, Nat.zero_add, Nat.reduceAdd])) only [go_sem, ↓reduceIte, Nat.reduceAdd, Int.reduceNeg, Int.reduceAdd, Int.reduceSub, Int.reduceMul, Int.reduceLT, Int.reduceLE, Int.reduceEq, Int.reduceToNat, Nat.reduceBEq, e_sle, e_sge, e_shl1, e_orI, e_andI, e_shr, wrapu, wrap8, tn1, nat1, ix_s, ix_z, st_s, st_z, fl_s, fl_z, fl1_s, fl1_z, map_s, map_z, true_and]
  obtain ⟨k, c2, hk, h2, hcb⟩ := bel_e l c1 5 (by first | assumption | omega) (by omega) (by omega) (by omega); refine cl_okC hcb rfl ?_; clear hcb; simp (disch := first | omega | (simp only [List.length_take, List.length_drop, List.length_append, List.map_cons, List.map_nil, List.length_map, List.length_cons, List.length_nil, List.length_set, List.length_replicate]; omega) | (simp only [List.length_cons, List.length_nil, Nat.zero_add, Nat.reduceAdd])) only [go_sem, ↓reduceIte, Nat.reduceAdd, Int.reduceNeg, Int.reduceAdd, Int.reduceSub, Int.reduceMul, Int.reduceLT, Int.reduceLE, Int.reduceEq, Int.reduceToNat, Nat.reduceBEq, e_sle, e_sge, e_shl1, e_orI, e_andI, e_shr, wrapu, wrap8, tn1, nat1, ix_s, ix_z, st_s, st_z, fl_s, fl_z, fl1_s, fl1_z, map_s, map_z, true_and]
  exact ⟨(n, k - 1), ⟨hn, by simp only; omega, by simp only; omega⟩, rfl⟩
end Go.Proofs.Ytolkglnkdfcceaa
