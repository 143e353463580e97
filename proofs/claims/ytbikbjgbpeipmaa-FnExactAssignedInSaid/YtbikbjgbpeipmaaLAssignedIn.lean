/- The law FnExactAssignedIn. -/
import Derived.Test.YtbikbjgbpeipmaaULAssignedIn
import Derived.Test.YtbikbjgbpeipmaaAsg2
import Derived.Test.YtbikbjgbpeipmaaNodW
namespace Go.Proofs.Ytbikbjgbpeipmaa
open Go.RowKit
set_option linter.unusedVariables false
set_option linter.unusedSimpArgs false
set_option maxRecDepth 100000

set_option maxHeartbeats 8000000 in
theorem lawAssignedIn_m (a0 : List Nod) (ok0 : OkNods a0) :
    Meets Try.prog 3 [(false, [encNodsL a0])] [(false, [.sc (.bool true)], true)] := by
  have hz0 := szNods_m a0 ((1048576 : Int)) ok0 (by omega) (by omega)
  by_cases hc0 : ((wtNods a0 : Nat) : Int) ≤ (1048576 : Int)
  rotate_left
  · rw [szF_gt (by omega)] at hz0
    refine meets_upf Try.func3 u_laws_FnExactAssignedIn_g rfl ?_; simp only [u_laws_FnExactAssignedIn_u]
    simp only [encNods, encNodsL, encSs, encZs] at hz0 ⊢
    repeat' (first | (with_reducible refine jn_in ?_) | (with_reducible refine cl_ok (by assumption) rfl ?_) | (with_reducible refine cl_okP (by assumption) rfl ?_) | (with_reducible refine br_if (fun hbr => ?_) (fun hbr => ?_)) | (with_reducible refine br_ifn (fun hbr => ?_) (fun hbr => ?_)) | (with_reducible refine br_nb (fun hbr => ?_) (fun hbr => ?_)) | (with_reducible refine br_b (fun hbr => ?_) (fun hbr => ?_)) | simp (disch := first | omega | (simp only [List.length_take, List.length_drop, List.length_append, List.map_cons, List.map_nil, List.length_map, List.length_cons, List.length_nil, List.length_set, List.length_replicate]; omega) | (simp only [List.length_cons, List.length_nil, Nat.zero_add, Nat.reduceAdd])) only [go_sem, ↓reduceIte, Nat.reduceAdd, Int.reduceNeg, Int.reduceAdd, Int.reduceSub, Int.reduceMul, Int.reduceLT, Int.reduceLE, Int.reduceEq, Int.reduceToNat, Nat.reduceBEq, eq_self])
    all_goals first | rfl | omega
  rw [szF_le hc0] at hz0
  have hd0 : decide ((1048576 : Int) - ((wtNods a0 : Nat) : Int) < 0) = false := decide_eq_false (by omega)
  have wa0 : wtNods a0 ≤ 1048576 := by omega
  have ht0 := toNods_m a0 (wa0)
  have hq0 := eqNods_m a0 (by omega)
  have hw0 := sumOf_wNd a0
  have hl0 : a0.length ≤ 1048576 := (wtNods_ok wa0).1
  have h1 := specAsg_m a0 wa0
  have h2 := implAsg_m a0 wa0
  have hbd0 := asgB_len wa0
  generalize asgB a0 = R at *
  have hr0 := eqSs_m R (by omega)
  have hmx0 : Marks Try.prog 12 false [encNods a0] 1 [encNods (marksN (1) a0)] ((1 + sumOf wNd a0 : Nat) : Int) := markNodeS_k a0 (1) (by omega) (by omega)
  have hkx : decide (((1 + sumOf wNd a0 : Nat) : Int) < 0) = false := decide_eq_false (by omega)
  have hmg0 : Marks Try.prog 13 false [encSs R] 1 [encSs (marksS (1) R.length)] ((1 + R.length : Nat) : Int) := markStringS_k R (1) (by omega) (by omega)
  have hhg0 : Meets Try.prog 14 [(false, [encSs (marksS (1) R.length)]), (false, [.sc (.int .i64 1)])] [(false, [.sc (.int .i64 ((1 + R.length : Nat) : Int))], true)] := heldStringS_m (1) R.length (by omega) (by omega)
  have hkg0 : decide (((1 + R.length : Nat) : Int) < 0) = false := decide_eq_false (by omega)
  refine meets_upf Try.func3 u_laws_FnExactAssignedIn_g rfl ?_; simp only [u_laws_FnExactAssignedIn_u]
  simp only [encNods, encNodsL, encSs, encZs] at hz0 ht0 hq0 h1 h2 hr0 hmx0 hmg0 hhg0 ⊢
  repeat' (first | (with_reducible refine cl_ok (by assumption) rfl ?_) | (with_reducible refine cl_okP (by assumption) rfl ?_) | (refine mk_ok (by assumption) ?_ ?_; (· first | exact ⟨⟨_, rfl, rfl⟩, ⟨_, rfl, rfl⟩, trivial⟩ | exact trivial | exact ⟨⟨_, rfl, rfl⟩, trivial⟩)) | simp (disch := first | omega | (simp only [List.length_take, List.length_drop, List.length_append, List.map_cons, List.map_nil, List.length_map, List.length_cons, List.length_nil, List.length_set, List.length_replicate]; omega) | (simp only [List.length_cons, List.length_nil, Nat.zero_add, Nat.reduceAdd])) only [go_sem, ↓reduceIte, Nat.reduceAdd, Int.reduceNeg, Int.reduceAdd, Int.reduceSub, Int.reduceMul, Int.reduceLT, Int.reduceLE, Int.reduceEq, Int.reduceToNat, Nat.reduceBEq, hd0, hkx, hkg0])
  all_goals first | rfl | omega
end Go.Proofs.Ytbikbjgbpeipmaa
