/- The law FnExactNullSpace. -/
import Derived.Test.YtmanijpmkeheeaaULNullSpace
import Derived.Test.YtmanijpmkeheeaaLawMt
import Derived.Test.YtmanijpmkeheeaaNul
import Derived.Test.YtmanijpmkeheeaaOpenE
namespace Go.Proofs.Ytmanijpmkeheeaa
open Go.RowKit
set_option linter.unusedVariables false
set_option linter.unusedSimpArgs false
set_option maxRecDepth 100000

set_option maxHeartbeats 8000000 in
theorem lawNullSpace_m (a0 : Mt) (hn0 : a0.cells.length ≤ 9223372036854775807) (ht0 : ∀ x ∈ a0.cells, x.text.size ≤ 9223372036854775807) :
    Meets Try.prog 8 [(true, encMtL a0)] [(false, [.sc (.bool true)], true)] := by
  obtain ⟨r0, c0, l0⟩ := a0
  simp only at hn0 ht0
  have hS := specNul_m ⟨r0, c0, l0⟩
  have hI := implNul_m ⟨r0, c0, l0⟩
  have hT0 : (nulM ⟨r0, c0, l0⟩).cells.length ≤ 144 := nulM_len _
  generalize nulM ⟨r0, c0, l0⟩ = T0 at *
  obtain ⟨R0, C0, L0⟩ := T0
  simp only at hT0
  generalize (nulO ⟨r0, c0, l0⟩).isSome = G1 at *
  refine meets_upf Try.func8 u_laws_FnExactNullSpace_g rfl ?_; simp only [u_laws_FnExactNullSpace_u]
  simp (disch := first | omega | (simp only [List.length_take, List.length_drop, List.length_append, List.map_cons, List.map_nil, List.length_map, List.length_cons, List.length_nil, List.length_set, List.length_replicate]; omega) | (simp only [List.length_cons, List.length_nil, Nat.zero_add, Nat.reduceAdd])) only [go_sem, ↓reduceIte, Nat.reduceAdd, Int.reduceNeg, Int.reduceAdd, Int.reduceSub, Int.reduceMul, Int.reduceLT, Int.reduceLE, Int.reduceEq, Int.reduceToNat, Nat.reduceBEq, encMtL]
  have hz0 := szMatrix_m ⟨r0, c0, l0⟩ 1048576 hn0 ht0 (by omega) (by omega)
  simp only [encMtL] at hz0
  refine cl_ok hz0 rfl ?_
  by_cases hc0 : (wtItems l0 : Int) ≤ 1048576
  rotate_left
  · have hs := szF_gt (left := 1048576) (wt := wtItems l0) (by omega)
    simp (disch := first | omega | (simp only [List.length_take, List.length_drop, List.length_append, List.map_cons, List.map_nil, List.length_map, List.length_cons, List.length_nil, List.length_set, List.length_replicate]; omega) | (simp only [List.length_cons, List.length_nil, Nat.zero_add, Nat.reduceAdd])) only [go_sem, ↓reduceIte, Nat.reduceAdd, Int.reduceNeg, Int.reduceAdd, Int.reduceSub, Int.reduceMul, Int.reduceLT, Int.reduceLE, Int.reduceEq, Int.reduceToNat, Nat.reduceBEq, hs]
    rfl
  have hs0 := szF_le hc0
  have hd0 : decide ((1048576 : Int) - (wtItems l0 : Int) < 0) = false := decide_eq_false (by omega)
  have hln0 : l0.length ≤ 1048576 := by unfold wtItems at hc0; omega
  have hmx0 : Marks Try.prog 21 true (encMt ⟨r0, c0, l0⟩) 1 (encMt ⟨r0, c0, marksIt (1) l0.length⟩) ((1 + 3 * l0.length : Nat) : Int) := markMatrix_k r0 c0 l0 (1) (by omega) (by omega)
  have hkx : decide (((1 + 3 * l0.length : Nat) : Int) < 0) = false := decide_eq_false (by omega)
  have hmg0 : Marks Try.prog 21 true (encMt ⟨R0, C0, L0⟩) 1 (encMt ⟨R0, C0, marksIt (1) L0.length⟩) ((1 + 3 * L0.length : Nat) : Int) := markMatrix_k R0 C0 L0 (1) (by omega) (by omega)
  have hhg0 : Meets Try.prog 23 [(true, encMt ⟨R0, C0, marksIt (1) L0.length⟩), (false, [.sc (.int .i64 1)])] [(false, [.sc (.int .i64 ((1 + 3 * L0.length : Nat) : Int))], true)] := heldMatrix_m R0 C0 (1) L0.length (by omega) (by omega)
  have hkg0 : decide (((1 + 3 * L0.length : Nat) : Int) < 0) = false := decide_eq_false (by omega)
  have hto0 := toMatrix_m ⟨r0, c0, l0⟩ hln0
  have hq0 := eqMatrix_m ⟨r0, c0, l0⟩ (by simp only; omega)
  have hr0 := eqMatrix_m ⟨R0, C0, L0⟩ (by simp only; omega)
  simp only [encMtL, encMt, encIts] at hmx0 hmg0 hhg0 hto0 hq0 hr0 hS hI
  repeat' (first | (with_reducible refine cl_ok (by assumption) rfl ?_) | (refine mk_ok (by assumption) ?_ ?_; (· first | exact ⟨⟨_, rfl, rfl⟩, ⟨_, rfl, rfl⟩, trivial⟩ | exact trivial | exact ⟨⟨_, rfl, rfl⟩, trivial⟩)) | simp (disch := first | omega | (simp only [List.length_take, List.length_drop, List.length_append, List.map_cons, List.map_nil, List.length_map, List.length_cons, List.length_nil, List.length_set, List.length_replicate]; omega) | (simp only [List.length_cons, List.length_nil, Nat.zero_add, Nat.reduceAdd])) only [go_sem, ↓reduceIte, Nat.reduceAdd, Int.reduceNeg, Int.reduceAdd, Int.reduceSub, Int.reduceMul, Int.reduceLT, Int.reduceLE, Int.reduceEq, Int.reduceToNat, Nat.reduceBEq, hs0, hd0, hkx, hkg0])
  all_goals rfl
end Go.Proofs.Ytmanijpmkeheeaa
