/- The law FnExactContrastMatrix. -/
import Derived.Test.YtlcnokbhoekpkaaLawMt
import Derived.Test.YtlcnokbhoekpkaaCon2
namespace Go.Proofs.Ytlcnokbhoekpkaa
open Go.RowKit
set_option linter.unusedVariables false
set_option linter.unusedSimpArgs false
set_option maxRecDepth 100000

theorem conM_len (L kind : Int) : (conM L kind).cells.length ≤ 144 := by
  unfold conM
  split
  · rename_i h
    have h := of_decide_eq_true h
    simp only [conL, gridL_len]
    have : L.toNat * (L - 1).toNat ≤ 12 * 12 := Nat.mul_le_mul (by omega) (by omega)
    omega
  · simp

set_option maxHeartbeats 4000000 in
theorem lawCon_m (L kind : Int) : Meets Try.prog 4 [(false, [.sc (.int .i64 L)]), (false, [.sc (.int .i64 kind)])] [(false, [.sc (.bool true)], true)] := by
  have hS := specCon_m L kind
  have hI := implCon_m L kind
  have hTl := conM_len L kind
  generalize conM L kind = T at *
  generalize conB L kind = b at *
  obtain ⟨r2, c2, l2⟩ := T
  simp only at hTl
  have hmg : Marks Try.prog 24 true (encMt ⟨r2, c2, l2⟩) 1 (encMt ⟨r2, c2, marksIt 1 l2.length⟩) ((1 + 3 * l2.length : Nat) : Int) := markMatrix_k r2 c2 l2 1 (by decide) (by omega)
  have hhg : Meets Try.prog 25 [(true, encMt ⟨r2, c2, marksIt 1 l2.length⟩), (false, [.sc (.int .i64 1)])] [(false, [.sc (.int .i64 ((1 + 3 * l2.length : Nat) : Int))], true)] := heldMatrix_m r2 c2 1 l2.length (by decide) (by omega)
  have hkg : decide (((1 + 3 * l2.length : Nat) : Int) < 0) = false := decide_eq_false (by omega)
  refine meets_of Try.func4 rfl (by kernel_rfl) (by simp) Try.ntmps4 (congrArg Array.toList Try.results4) ?_
  simp only [go_sem, ↓reduceIte, Nat.reduceAdd, Nat.reduceSub, Nat.reduceMul, Nat.reduceLT, Nat.reduceLeDiff, Nat.reduceEqDiff, Int.reduceLT, Int.reduceLE, Int.reduceEq, Nat.reduceBEq, reduceCtorEq, reduceCtorEq, true_and]
  refine astep_callX rfl hS rfl rfl (by simp only [go_sem, ↓reduceIte, Nat.reduceAdd, Nat.reduceSub, Nat.reduceMul, Nat.reduceLT, Nat.reduceLeDiff, Nat.reduceEqDiff, Int.reduceLT, Int.reduceLE, Int.reduceEq, Nat.reduceBEq, reduceCtorEq, reduceCtorEq, true_and]) ?_
  simp only [go_sem, ↓reduceIte, Nat.reduceAdd, Nat.reduceSub, Nat.reduceMul, Nat.reduceLT, Nat.reduceLeDiff, Nat.reduceEqDiff, Int.reduceLT, Int.reduceLE, Int.reduceEq, Nat.reduceBEq, reduceCtorEq, reduceCtorEq, encMt, encIts]
  refine astep_callX rfl hI rfl rfl (by simp only [go_sem, ↓reduceIte, Nat.reduceAdd, Nat.reduceSub, Nat.reduceMul, Nat.reduceLT, Nat.reduceLeDiff, Nat.reduceEqDiff, Int.reduceLT, Int.reduceLE, Int.reduceEq, Nat.reduceBEq, reduceCtorEq, reduceCtorEq, true_and]) ?_
  simp only [go_sem, ↓reduceIte, Nat.reduceAdd, Nat.reduceSub, Nat.reduceMul, Nat.reduceLT, Nat.reduceLeDiff, Nat.reduceEqDiff, Int.reduceLT, Int.reduceLE, Int.reduceEq, Nat.reduceBEq, reduceCtorEq, reduceCtorEq, encMt, encIts]
  refine astep_call rfl (eqMatrix_m ⟨r2, c2, l2⟩ (by simp only; omega)) rfl rfl (by simp only [go_sem, ↓reduceIte, Nat.reduceAdd, Nat.reduceSub, Nat.reduceMul, Nat.reduceLT, Nat.reduceLeDiff, Nat.reduceEqDiff, Int.reduceLT, Int.reduceLE, Int.reduceEq, Nat.reduceBEq, reduceCtorEq, reduceCtorEq, encMt, encIts]) ?_
  simp only [go_sem, ↓reduceIte, Nat.reduceAdd, Nat.reduceSub, Nat.reduceMul, Nat.reduceLT, Nat.reduceLeDiff, Nat.reduceEqDiff, Int.reduceLT, Int.reduceLE, Int.reduceEq, Nat.reduceBEq, reduceCtorEq, reduceCtorEq, beq_self_eq_true]
  refine astep_mark (L := [_]) rfl rfl hmg rfl rfl ⟨⟨_, rfl, rfl, rfl⟩, ⟨_, rfl, rfl, rfl⟩, rfl, rfl, trivial⟩ (by simp) ?_
  simp only [go_sem, ↓reduceIte, Nat.reduceAdd, Nat.reduceSub, Nat.reduceMul, Nat.reduceLT, Nat.reduceLeDiff, Nat.reduceEqDiff, Int.reduceLT, Int.reduceLE, Int.reduceEq, Nat.reduceBEq, reduceCtorEq, reduceCtorEq, true_and]
  refine astep_call rfl hhg rfl rfl (by simp only [go_sem, ↓reduceIte, Nat.reduceAdd, Nat.reduceSub, Nat.reduceMul, Nat.reduceLT, Nat.reduceLeDiff, Nat.reduceEqDiff, Int.reduceLT, Int.reduceLE, Int.reduceEq, Nat.reduceBEq, reduceCtorEq, reduceCtorEq, encMt, encIts]) ?_
  simp only [go_sem, ↓reduceIte, Nat.reduceAdd, Nat.reduceSub, Nat.reduceMul, Nat.reduceLT, Nat.reduceLeDiff, Nat.reduceEqDiff, Int.reduceLT, Int.reduceLE, Int.reduceEq, Nat.reduceBEq, reduceCtorEq, reduceCtorEq, hkg]
  refine astep_callX rfl hI rfl rfl (by simp only [go_sem, ↓reduceIte, Nat.reduceAdd, Nat.reduceSub, Nat.reduceMul, Nat.reduceLT, Nat.reduceLeDiff, Nat.reduceEqDiff, Int.reduceLT, Int.reduceLE, Int.reduceEq, Nat.reduceBEq, reduceCtorEq, reduceCtorEq, true_and]) ?_
  simp only [go_sem, ↓reduceIte, Nat.reduceAdd, Nat.reduceSub, Nat.reduceMul, Nat.reduceLT, Nat.reduceLeDiff, Nat.reduceEqDiff, Int.reduceLT, Int.reduceLE, Int.reduceEq, Nat.reduceBEq, reduceCtorEq, reduceCtorEq, encMt, encIts]
  refine astep_call rfl (eqMatrix_m ⟨r2, c2, l2⟩ (by simp only; omega)) rfl rfl (by simp only [go_sem, ↓reduceIte, Nat.reduceAdd, Nat.reduceSub, Nat.reduceMul, Nat.reduceLT, Nat.reduceLeDiff, Nat.reduceEqDiff, Int.reduceLT, Int.reduceLE, Int.reduceEq, Nat.reduceBEq, reduceCtorEq, reduceCtorEq, encMt, encIts]) ?_
  simp only [go_sem, ↓reduceIte, Nat.reduceAdd, Nat.reduceSub, Nat.reduceMul, Nat.reduceLT, Nat.reduceLeDiff, Nat.reduceEqDiff, Int.reduceLT, Int.reduceLE, Int.reduceEq, Nat.reduceBEq, reduceCtorEq, reduceCtorEq, beq_self_eq_true]
  refine astep_call rfl hhg rfl rfl (by simp only [go_sem, ↓reduceIte, Nat.reduceAdd, Nat.reduceSub, Nat.reduceMul, Nat.reduceLT, Nat.reduceLeDiff, Nat.reduceEqDiff, Int.reduceLT, Int.reduceLE, Int.reduceEq, Nat.reduceBEq, reduceCtorEq, reduceCtorEq, encMt, encIts]) ?_
  simp only [go_sem, ↓reduceIte, Nat.reduceAdd, Nat.reduceSub, Nat.reduceMul, Nat.reduceLT, Nat.reduceLeDiff, Nat.reduceEqDiff, Int.reduceLT, Int.reduceLE, Int.reduceEq, Nat.reduceBEq, reduceCtorEq, reduceCtorEq, hkg]
  refine Or.inl ?_; repeat' (first | exact gives_nil | exact trivial | with_reducible apply gives_sc | with_reducible apply gives_nilS (by decide) | with_reducible apply gives_own | with_reducible apply Exists.intro | with_reducible apply And.intro | (show (_ : Option Ob) = _; simp only [go_sem, ↓reduceIte, Nat.reduceAdd, Nat.reduceSub, Nat.reduceMul, Nat.reduceLT, Nat.reduceLeDiff, Nat.reduceEqDiff, Int.reduceLT, Int.reduceLE, Int.reduceEq, Nat.reduceBEq, reduceCtorEq, reduceCtorEq, true_and]))
end Go.Proofs.Ytlcnokbhoekpkaa
