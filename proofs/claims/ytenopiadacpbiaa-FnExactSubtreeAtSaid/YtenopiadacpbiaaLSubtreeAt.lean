/- The law FnExactSubtreeAt. -/
import Derived.Test.YtenopiadacpbiaaULSubtreeAt
import Derived.Test.YtenopiadacpbiaaSub4
import Derived.Test.YtenopiadacpbiaaNodW
namespace Go.Proofs.Ytenopiadacpbiaa
open Go.RowKit
set_option linter.unusedVariables false
set_option linter.unusedSimpArgs false
set_option maxRecDepth 100000

set_option maxHeartbeats 8000000 in
theorem lawSubtreeAt_m (a0 : List Nod) (ok0 : OkNods a0) (a1 : Int) :
    Meets Try.prog 3 [(false, [encNodsL a0]), (false, [.sc (.int .i64 a1)])] [(false, [.sc (.bool true)], true)] := by
  have hz0 := szNods_m a0 ((1048576 : Int)) ok0 (by omega) (by omega)
  by_cases hc0 : ((wtNods a0 : Nat) : Int) ≤ (1048576 : Int)
  rotate_left
  · rw [szF_gt (by omega)] at hz0
    refine meets_upf Try.func3 u_laws_FnExactSubtreeAt_g rfl ?_; simp only [u_laws_FnExactSubtreeAt_u]
    simp only [encNods, encNodsL, encSs, encZs] at hz0 ⊢
    repeat' (first | (with_reducible refine jn_in ?_) | (with_reducible refine cl_ok (by assumption) rfl ?_) | (with_reducible refine br_if (fun hbr => ?_) (fun hbr => ?_)) | (with_reducible refine br_ifn (fun hbr => ?_) (fun hbr => ?_)) | (with_reducible refine br_nb (fun hbr => ?_) (fun hbr => ?_)) | (with_reducible refine br_b (fun hbr => ?_) (fun hbr => ?_)) | simp (disch := first | omega | (simp only [List.length_take, List.length_drop, List.length_append, List.map_cons, List.map_nil, List.length_map, List.length_cons, List.length_nil, List.length_set, List.length_replicate]; omega) | (simp only [List.length_cons, List.length_nil, Nat.zero_add, Nat.reduceAdd])) only [go_sem, ↓reduceIte, Nat.reduceAdd, Int.reduceNeg, Int.reduceAdd, Int.reduceSub, Int.reduceMul, Int.reduceLT, Int.reduceLE, Int.reduceEq, Int.reduceToNat, Nat.reduceBEq, eq_self])
    all_goals first | rfl | omega
  rw [szF_le hc0] at hz0
  have hd0 : decide ((1048576 : Int) - ((wtNods a0 : Nat) : Int) < 0) = false := decide_eq_false (by omega)
  have wa0 : wtNods a0 ≤ 1048576 := by omega
  have ht0 := toNods_m a0 (wa0)
  have hq0 := eqNods_m a0 (by omega)
  have hw0 := sumOf_wNd a0
  have hl0 : a0.length ≤ 1048576 := (wtNods_ok wa0).1
  have h1 := specAt_m a0 a1 (.of wa0)
  have h2 := implAt_m a0 a1 (.of wa0)
  have hbd0 := cutT_wt (i := a1) wa0
  generalize cutT a0 a1 = R at *
  obtain ⟨R0, R1⟩ := R
  simp only at h1 h2 hbd0
  have hv0 := sumOf_wNd R0
  have hn0 : R0.length ≤ wtNods R0 := by unfold wtNods; omega
  have hr0 := eqNods_m R0 (by omega)
  have hmx0 : Marks Try.prog 11 false [encNods a0] 1 [encNods (marksN (1) a0)] ((1 + sumOf wNd a0 : Nat) : Int) := markNodeS_k a0 (1) (by omega) (by omega)
  have hkx : decide (((1 + sumOf wNd a0 : Nat) : Int) < 0) = false := decide_eq_false (by omega)
  have hmg0 : Marks Try.prog 11 false [encNods R0] 1 [encNods (marksN (1) R0)] ((1 + sumOf wNd R0 : Nat) : Int) := markNodeS_k R0 (1) (by omega) (by omega)
  have hhg0 : Meets Try.prog 12 [(false, [encNods (marksN (1) R0)]), (false, [.sc (.int .i64 1)])] [(false, [.sc (.int .i64 ((1 + sumOf wNd R0 : Nat) : Int))], true)] := heldNodeS_m (1) R0 (by omega) (by omega) (by omega)
  have hkg0 : decide (((1 + sumOf wNd R0 : Nat) : Int) < 0) = false := decide_eq_false (by omega)
  refine meets_upf Try.func3 u_laws_FnExactSubtreeAt_g rfl ?_; simp only [u_laws_FnExactSubtreeAt_u]
  simp only [encNods, encNodsL, encSs, encZs] at hz0 ht0 hq0 h1 h2 hr0 hmx0 hmg0 hhg0 ⊢
  repeat' (first | (with_reducible refine cl_ok (by assumption) rfl ?_) | (refine mk_ok (by assumption) ?_ ?_; (· first | exact ⟨⟨_, rfl, rfl⟩, ⟨_, rfl, rfl⟩, trivial⟩ | exact trivial | exact ⟨⟨_, rfl, rfl⟩, trivial⟩)) | simp (disch := first | omega | (simp only [List.length_take, List.length_drop, List.length_append, List.map_cons, List.map_nil, List.length_map, List.length_cons, List.length_nil, List.length_set, List.length_replicate]; omega) | (simp only [List.length_cons, List.length_nil, Nat.zero_add, Nat.reduceAdd])) only [go_sem, ↓reduceIte, Nat.reduceAdd, Int.reduceNeg, Int.reduceAdd, Int.reduceSub, Int.reduceMul, Int.reduceLT, Int.reduceLE, Int.reduceEq, Int.reduceToNat, Nat.reduceBEq, hd0, hkx, hkg0])
  all_goals first | rfl | omega
end Go.Proofs.Ytenopiadacpbiaa
