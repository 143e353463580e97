/- The law FnExactIsTree. -/
import Derived.Test.YtaoblebmcjgodaaULIsTree
import Derived.Test.YtaoblebmcjgodaaTree6
namespace Go.Proofs.Ytaoblebmcjgodaa
open Go.RowKit
set_option linter.unusedVariables false
set_option linter.unusedSimpArgs false
set_option maxRecDepth 100000

set_option maxHeartbeats 4000000 in
theorem lawIsTree_m (a0 : List Nod) (ok0 : OkNods a0) : Meets Try.prog 3 [(false, [encNodsL a0])] [(false, [.sc (.bool true)], true)] := by
  have hz0 := szNods_m a0 ((1048576 : Int)) ok0 (by omega) (by omega)
  by_cases hc0 : ((wtNods a0 : Nat) : Int) ≤ (1048576 : Int)
  rotate_left
  · rw [szF_gt (by omega)] at hz0
    refine meets_upf Try.func3 u_laws_FnExactIsTree_g rfl ?_; simp only [u_laws_FnExactIsTree_u]
    simp only [encNods, encNodsL, encSs, encZs] at hz0 ⊢
    repeat' (first | (with_reducible refine jn_in ?_) | (with_reducible refine cl_ok (by assumption) rfl ?_) | (with_reducible refine br_if (fun hbr => ?_) (fun hbr => ?_)) | (with_reducible refine br_ifn (fun hbr => ?_) (fun hbr => ?_)) | (with_reducible refine br_nb (fun hbr => ?_) (fun hbr => ?_)) | (with_reducible refine br_b (fun hbr => ?_) (fun hbr => ?_)) | simp (disch := first | omega | (simp only [List.length_take, List.length_drop, List.length_append, List.map_cons, List.map_nil, List.length_map, List.length_cons, List.length_nil, List.length_set, List.length_replicate]; omega) | (simp only [List.length_cons, List.length_nil, Nat.zero_add, Nat.reduceAdd])) only [go_sem, ↓reduceIte, Nat.reduceAdd, Int.reduceNeg, Int.reduceAdd, Int.reduceSub, Int.reduceMul, Int.reduceLT, Int.reduceLE, Int.reduceEq, Int.reduceToNat, Nat.reduceBEq, eq_self])
    all_goals first | rfl | omega
  rw [szF_le hc0] at hz0
  have hd0 : decide ((1048576 : Int) - ((wtNods a0 : Nat) : Int) < 0) = false := decide_eq_false (by omega)
  have ht0 := toNods_m a0 (by omega)
  have hq0 := eqNods_m a0 (by omega)
  have h1 := specTree_m a0 (wtNods_ok (by omega)).1 (wtNods_ok (by omega)).2
  have h2 := implTree_m a0 (wtNods_ok (by omega)).1 (wtNods_ok (by omega)).2
  refine meets_upf Try.func3 u_laws_FnExactIsTree_g rfl ?_; simp only [u_laws_FnExactIsTree_u]
  simp only [encNods, encNodsL, encSs, encZs] at hz0 ht0 hq0 h1 h2 ⊢
  repeat' (first | (with_reducible refine jn_in ?_) | (with_reducible refine cl_ok (by assumption) rfl ?_) | (with_reducible refine br_if (fun hbr => ?_) (fun hbr => ?_)) | (with_reducible refine br_ifn (fun hbr => ?_) (fun hbr => ?_)) | (with_reducible refine br_nb (fun hbr => ?_) (fun hbr => ?_)) | (with_reducible refine br_b (fun hbr => ?_) (fun hbr => ?_)) | simp (disch := first | omega | (simp only [List.length_take, List.length_drop, List.length_append, List.map_cons, List.map_nil, List.length_map, List.length_cons, List.length_nil, List.length_set, List.length_replicate]; omega) | (simp only [List.length_cons, List.length_nil, Nat.zero_add, Nat.reduceAdd])) only [go_sem, ↓reduceIte, Nat.reduceAdd, Int.reduceNeg, Int.reduceAdd, Int.reduceSub, Int.reduceMul, Int.reduceLT, Int.reduceLE, Int.reduceEq, Int.reduceToNat, Nat.reduceBEq, hd0, eq_self])
  all_goals first | rfl | omega
end Go.Proofs.Ytaoblebmcjgodaa
