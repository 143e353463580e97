/- The law FnExactRankOf. -/
import Derived.Test.YtmanijpmkeheeaaULRankOf
import Derived.Test.YtmanijpmkeheeaaLawMt
import Derived.Test.YtmanijpmkeheeaaRedR
import Derived.Test.YtmanijpmkeheeaaOpenE
namespace Go.Proofs.Ytmanijpmkeheeaa
open Go.RowKit
set_option linter.unusedVariables false
set_option linter.unusedSimpArgs false
set_option maxRecDepth 100000

set_option maxHeartbeats 8000000 in
theorem lawRankOf_m (a0 : Mt) (hn0 : a0.cells.length ≤ 9223372036854775807) (ht0 : ∀ x ∈ a0.cells, x.text.size ≤ 9223372036854775807) :
    Meets Try.prog 4 [(true, encMtL a0)] [(false, [.sc (.bool true)], true)] := by
  obtain ⟨r0, c0, l0⟩ := a0
  simp only at hn0 ht0
  have hS := specRank_m ⟨r0, c0, l0⟩
  have hI := implRank_m ⟨r0, c0, l0⟩
  refine meets_upf Try.func4 u_laws_FnExactRankOf_g rfl ?_; simp only [u_laws_FnExactRankOf_u]
  simp (disch := first | omega | (simp only [List.length_take, List.length_drop, List.length_append, List.map_cons, List.map_nil, List.length_map, List.length_cons, List.length_nil, List.length_set, List.length_replicate]; omega) | (simp only [List.length_cons, List.length_nil, Nat.zero_add, Nat.reduceAdd])) only [go_sem, ↓reduceIte, Nat.reduceAdd, Int.reduceNeg, Int.reduceAdd, Int.reduceSub, Int.reduceMul, Int.reduceLT, Int.reduceLE, Int.reduceEq, Int.reduceToNat, Nat.reduceBEq, encMtL]
  have hz0 := szMatrix_m ⟨r0, c0, l0⟩ 1048576 hn0 ht0 (by omega) (by omega)
  simp only [encMtL] at hz0
  refine cl_ok hz0 rfl ?_
  by_cases hc0 : (wtItems l0 : Int) ≤ 1048576
  rotate_left
  · have hs := szF_gt (left := 1048576) (wt := wtItems l0) (by omega)
    simp (disch := first | omega | (simp only [List.length_take, List.length_drop, List.length_append, List.map_cons, List.map_nil, List.length_map, List.length_cons, List.length_nil, List.length_set, List.length_replicate]; omega) | (simp only [List.length_cons, List.length_nil, Nat.zero_add, Nat.reduceAdd])) only [go_sem, ↓reduceIte, Nat.reduceAdd, Int.reduceNeg, Int.reduceAdd, Int.reduceSub, Int.reduceMul, Int.reduceLT, Int.reduceLE, Int.reduceEq, Int.reduceToNat, Nat.reduceBEq, hs]
    rfl
  have hs0 := szF_le hc0
  have hd0 : decide ((1048576 : Int) - (wtItems l0 : Int) < 0) = false := decide_eq_false (by omega)
  have hln0 : l0.length ≤ 1048576 := by unfold wtItems at hc0; omega
  have hto0 := toMatrix_m ⟨r0, c0, l0⟩ hln0
  have hq0 := eqMatrix_m ⟨r0, c0, l0⟩ (by simp only; omega)
  simp only [encMtL, encMt, encIts] at hto0 hq0 hS hI
  repeat' (first | (with_reducible refine cl_ok (by assumption) rfl ?_) | (refine mk_ok (by assumption) ?_ ?_; (· first | exact ⟨⟨_, rfl, rfl⟩, ⟨_, rfl, rfl⟩, trivial⟩ | exact trivial | exact ⟨⟨_, rfl, rfl⟩, trivial⟩)) | simp (disch := first | omega | (simp only [List.length_take, List.length_drop, List.length_append, List.map_cons, List.map_nil, List.length_map, List.length_cons, List.length_nil, List.length_set, List.length_replicate]; omega) | (simp only [List.length_cons, List.length_nil, Nat.zero_add, Nat.reduceAdd])) only [go_sem, ↓reduceIte, Nat.reduceAdd, Int.reduceNeg, Int.reduceAdd, Int.reduceSub, Int.reduceMul, Int.reduceLT, Int.reduceLE, Int.reduceEq, Int.reduceToNat, Nat.reduceBEq, hs0, hd0])
  all_goals rfl
end Go.Proofs.Ytmanijpmkeheeaa
