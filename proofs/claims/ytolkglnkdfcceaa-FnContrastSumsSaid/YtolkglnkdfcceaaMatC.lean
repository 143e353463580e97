/- spec.l14Known, IsMatrix, TransposeMatrix. -/
import Derived.Test.YtolkglnkdfcceaaMatB
namespace Go.Proofs.Ytolkglnkdfcceaa
open Go.RowKit
set_option linter.unusedVariables false
set_option linter.unusedSimpArgs false
set_option maxRecDepth 100000

theorem l14Known_m (r c : Int) (l : List It) (hl : l.length ≤ 1000000) : Meets Try.prog 48 [(true, encMt ⟨r, c, l⟩)] [(false, [.sc (.bool (allN l))], true)] := by
  refine meets_of Try.func48 rfl (by kernel_rfl) (by simp) Try.ntmps48 (congrArg Array.toList Try.results48) ?_
  simp only [go_sem, ↓reduceIte, Nat.reduceAdd, Nat.reduceSub, Nat.reduceMul, Nat.reduceLT, Nat.reduceLeDiff, Nat.reduceEqDiff, Int.reduceLT, Int.reduceLE, Int.reduceEq, Nat.reduceBEq, reduceCtorEq, reduceCtorEq, encMt, encIts]
  refine awp_loop (fun s m => ∃ k : Nat, k ≤ l.length ∧ m = l.length - k ∧ allN (l.take k) = true ∧ s.n = 1 ∧ s.sl 1 = .p false [.ptr 0 0 0] ∧ s.ob 0 = .var 0 28 ((encMt ⟨r, c, l⟩).map .d) ∧ s.sl 3 = .p false [.d (.sc (.int .i64 k))]) l.length ?_ ?_
  · exact ⟨0, Nat.zero_le _, rfl, rfl, rfl, rfl, rfl, rfl⟩
  · rintro s m ⟨k, hk, rfl, ha, hn, g1, o0, h3⟩
    by_cases hlt : k < l.length
    · have hx := List.getElem?_eq_getElem hlt
      generalize l[k] = x at hx
      have hd : decide ((k : Int) < (l.length : Int)) = true := by simpa using hlt
      have hw : IntKind.i64.wrap ((k : Int) + 1) = (k + 1 : Nat) := wrapN (k + 1) (by omega)
      simp only [go_sem, ↓reduceIte, Nat.reduceAdd, Nat.reduceSub, Nat.reduceMul, Nat.reduceLT, Nat.reduceLeDiff, Nat.reduceEqDiff, Int.reduceLT, Int.reduceLE, Int.reduceEq, Nat.reduceBEq, reduceCtorEq, reduceCtorEq, g1, o0, h3, hn, encMt, encIts, List.length_map, hd, List.getElem?_map, hx, Option.map_some, encIt]
      refine astep_call rfl (mSpecIsNum x) rfl rfl (by simp only [go_sem, ↓reduceIte, Nat.reduceAdd, Nat.reduceSub, Nat.reduceMul, Nat.reduceLT, Nat.reduceLeDiff, Nat.reduceEqDiff, Int.reduceLT, Int.reduceLE, Int.reduceEq, Nat.reduceBEq, reduceCtorEq, reduceCtorEq, encIt]) ?_
      cases hb : numB x
      · simp only [go_sem, ↓reduceIte, Nat.reduceAdd, Nat.reduceSub, Nat.reduceMul, Nat.reduceLT, Nat.reduceLeDiff, Nat.reduceEqDiff, Int.reduceLT, Int.reduceLE, Int.reduceEq, Nat.reduceBEq, reduceCtorEq, reduceCtorEq, hb, allN_get hx hb]
        refine Or.inl ?_; repeat' (first | exact gives_nil | exact trivial | with_reducible apply gives_sc | with_reducible apply gives_nilS (by decide) | with_reducible apply gives_own | with_reducible apply Exists.intro | with_reducible apply And.intro | (show (_ : Option Ob) = _; simp only [go_sem, ↓reduceIte, Nat.reduceAdd, Nat.reduceSub, Nat.reduceMul, Nat.reduceLT, Nat.reduceLeDiff, Nat.reduceEqDiff, Int.reduceLT, Int.reduceLE, Int.reduceEq, Nat.reduceBEq, reduceCtorEq, reduceCtorEq, true_and]))
      · simp only [go_sem, ↓reduceIte, Nat.reduceAdd, Nat.reduceSub, Nat.reduceMul, Nat.reduceLT, Nat.reduceLeDiff, Nat.reduceEqDiff, Int.reduceLT, Int.reduceLE, Int.reduceEq, Nat.reduceBEq, reduceCtorEq, reduceCtorEq, hb, h3, hn, hw]
        exact ⟨1, l.length - (k + 1), by omega, by omega, k + 1, by omega, rfl, by rw [allN_succ hx, ha, hb]; rfl, rfl, g1, o0, rfl⟩
    · have hd : decide ((k : Int) < (l.length : Int)) = false := by simpa using hlt
      rw [List.take_of_length_le (by omega)] at ha
      simp only [go_sem, ↓reduceIte, Nat.reduceAdd, Nat.reduceSub, Nat.reduceMul, Nat.reduceLT, Nat.reduceLeDiff, Nat.reduceEqDiff, Int.reduceLT, Int.reduceLE, Int.reduceEq, Nat.reduceBEq, reduceCtorEq, reduceCtorEq, g1, o0, h3, hn, encMt, encIts, List.length_map, hd, ha]
      refine Or.inl ?_; repeat' (first | exact gives_nil | exact trivial | with_reducible apply gives_sc | with_reducible apply gives_nilS (by decide) | with_reducible apply gives_own | with_reducible apply Exists.intro | with_reducible apply And.intro | (show (_ : Option Ob) = _; simp only [go_sem, ↓reduceIte, Nat.reduceAdd, Nat.reduceSub, Nat.reduceMul, Nat.reduceLT, Nat.reduceLeDiff, Nat.reduceEqDiff, Int.reduceLT, Int.reduceLE, Int.reduceEq, Nat.reduceBEq, reduceCtorEq, reduceCtorEq, true_and]))

theorem specIsMt_m (m : Mt) : Meets Try.prog 45 [(true, encMt m)] [(false, [.sc (.bool (mtB m))], true)] := by
  obtain ⟨r, c, l⟩ := m
  refine meets_of Try.func45 rfl (by kernel_rfl) (by simp) Try.ntmps45 (congrArg Array.toList Try.results45) ?_
  simp only [go_sem, ↓reduceIte, Nat.reduceAdd, Nat.reduceSub, Nat.reduceMul, Nat.reduceLT, Nat.reduceLeDiff, Nat.reduceEqDiff, Int.reduceLT, Int.reduceLE, Int.reduceEq, Nat.reduceBEq, reduceCtorEq, reduceCtorEq, encMt, encIts]
  refine astep_call rfl (mIn r 0 12) rfl rfl (by simp only [go_sem, ↓reduceIte, Nat.reduceAdd, Nat.reduceSub, Nat.reduceMul, Nat.reduceLT, Nat.reduceLeDiff, Nat.reduceEqDiff, Int.reduceLT, Int.reduceLE, Int.reduceEq, Nat.reduceBEq, reduceCtorEq, reduceCtorEq, true_and]) ?_
  by_cases c1 : 0 ≤ r ∧ r ≤ 12
  · have d1 := decide_eq_true c1
    simp only [go_sem, ↓reduceIte, Nat.reduceAdd, Nat.reduceSub, Nat.reduceMul, Nat.reduceLT, Nat.reduceLeDiff, Nat.reduceEqDiff, Int.reduceLT, Int.reduceLE, Int.reduceEq, Nat.reduceBEq, reduceCtorEq, reduceCtorEq, d1]
    refine astep_call rfl (mIn c 0 12) rfl rfl (by simp only [go_sem, ↓reduceIte, Nat.reduceAdd, Nat.reduceSub, Nat.reduceMul, Nat.reduceLT, Nat.reduceLeDiff, Nat.reduceEqDiff, Int.reduceLT, Int.reduceLE, Int.reduceEq, Nat.reduceBEq, reduceCtorEq, reduceCtorEq, true_and]) ?_
    by_cases c2 : 0 ≤ c ∧ c ≤ 12
    · have d2 := decide_eq_true c2
      have hm := mul12 (a := r) (b := c) (by omega) (by omega)
      have hw := wrapI (r * c) (by omega)
      by_cases c5 : (l.length : Int) = r * c
      · have hb : mtB ⟨r, c, l⟩ = allN l := mtB_true (m := ⟨r, c, l⟩) ⟨by simp; omega, by simp; omega, by simp; omega, by simp; omega, c5⟩
        simp only [go_sem, ↓reduceIte, Nat.reduceAdd, Nat.reduceSub, Nat.reduceMul, Nat.reduceLT, Nat.reduceLeDiff, Nat.reduceEqDiff, Int.reduceLT, Int.reduceLE, Int.reduceEq, Nat.reduceBEq, reduceCtorEq, reduceCtorEq, d2, List.length_map, hw, decide_eq_true c5]
        refine astep_call rfl (l14Known_m r c l (by omega)) rfl rfl (by simp only [go_sem, ↓reduceIte, Nat.reduceAdd, Nat.reduceSub, Nat.reduceMul, Nat.reduceLT, Nat.reduceLeDiff, Nat.reduceEqDiff, Int.reduceLT, Int.reduceLE, Int.reduceEq, Nat.reduceBEq, reduceCtorEq, reduceCtorEq, encMt, encIts]) ?_
        simp only [go_sem, ↓reduceIte, Nat.reduceAdd, Nat.reduceSub, Nat.reduceMul, Nat.reduceLT, Nat.reduceLeDiff, Nat.reduceEqDiff, Int.reduceLT, Int.reduceLE, Int.reduceEq, Nat.reduceBEq, reduceCtorEq, reduceCtorEq, hb]
        refine Or.inl ?_; repeat' (first | exact gives_nil | exact trivial | with_reducible apply gives_sc | with_reducible apply gives_nilS (by decide) | with_reducible apply gives_own | with_reducible apply Exists.intro | with_reducible apply And.intro | (show (_ : Option Ob) = _; simp only [go_sem, ↓reduceIte, Nat.reduceAdd, Nat.reduceSub, Nat.reduceMul, Nat.reduceLT, Nat.reduceLeDiff, Nat.reduceEqDiff, Int.reduceLT, Int.reduceLE, Int.reduceEq, Nat.reduceBEq, reduceCtorEq, reduceCtorEq, true_and]))
      · have hb : mtB ⟨r, c, l⟩ = false := mtB_false (by simp; omega)
        simp only [go_sem, ↓reduceIte, Nat.reduceAdd, Nat.reduceSub, Nat.reduceMul, Nat.reduceLT, Nat.reduceLeDiff, Nat.reduceEqDiff, Int.reduceLT, Int.reduceLE, Int.reduceEq, Nat.reduceBEq, reduceCtorEq, reduceCtorEq, d2, List.length_map, hw, decide_eq_false c5, hb]
        refine Or.inl ?_; repeat' (first | exact gives_nil | exact trivial | with_reducible apply gives_sc | with_reducible apply gives_nilS (by decide) | with_reducible apply gives_own | with_reducible apply Exists.intro | with_reducible apply And.intro | (show (_ : Option Ob) = _; simp only [go_sem, ↓reduceIte, Nat.reduceAdd, Nat.reduceSub, Nat.reduceMul, Nat.reduceLT, Nat.reduceLeDiff, Nat.reduceEqDiff, Int.reduceLT, Int.reduceLE, Int.reduceEq, Nat.reduceBEq, reduceCtorEq, reduceCtorEq, true_and]))
    · have hb : mtB ⟨r, c, l⟩ = false := mtB_false (by simp; omega)
      simp only [go_sem, ↓reduceIte, Nat.reduceAdd, Nat.reduceSub, Nat.reduceMul, Nat.reduceLT, Nat.reduceLeDiff, Nat.reduceEqDiff, Int.reduceLT, Int.reduceLE, Int.reduceEq, Nat.reduceBEq, reduceCtorEq, reduceCtorEq, decide_eq_false c2, hb]
      refine Or.inl ?_; repeat' (first | exact gives_nil | exact trivial | with_reducible apply gives_sc | with_reducible apply gives_nilS (by decide) | with_reducible apply gives_own | with_reducible apply Exists.intro | with_reducible apply And.intro | (show (_ : Option Ob) = _; simp only [go_sem, ↓reduceIte, Nat.reduceAdd, Nat.reduceSub, Nat.reduceMul, Nat.reduceLT, Nat.reduceLeDiff, Nat.reduceEqDiff, Int.reduceLT, Int.reduceLE, Int.reduceEq, Nat.reduceBEq, reduceCtorEq, reduceCtorEq, true_and]))
  · have hb : mtB ⟨r, c, l⟩ = false := mtB_false (by simp; omega)
    simp only [go_sem, ↓reduceIte, Nat.reduceAdd, Nat.reduceSub, Nat.reduceMul, Nat.reduceLT, Nat.reduceLeDiff, Nat.reduceEqDiff, Int.reduceLT, Int.reduceLE, Int.reduceEq, Nat.reduceBEq, reduceCtorEq, reduceCtorEq, decide_eq_false c1, hb]
    refine Or.inl ?_; repeat' (first | exact gives_nil | exact trivial | with_reducible apply gives_sc | with_reducible apply gives_nilS (by decide) | with_reducible apply gives_own | with_reducible apply Exists.intro | with_reducible apply And.intro | (show (_ : Option Ob) = _; simp only [go_sem, ↓reduceIte, Nat.reduceAdd, Nat.reduceSub, Nat.reduceMul, Nat.reduceLT, Nat.reduceLeDiff, Nat.reduceEqDiff, Int.reduceLT, Int.reduceLE, Int.reduceEq, Nat.reduceBEq, reduceCtorEq, reduceCtorEq, true_and]))

theorem specTurn_m (m : Mt) : Meets Try.prog 17 [(true, encMt m)] [(true, encMt (turnM m), true), (false, [.sc (.bool (mtB m))], true)] := by
  obtain ⟨r, c, l⟩ := m
  refine meets_of Try.func17 rfl (by kernel_rfl) (by simp) Try.ntmps17 (congrArg Array.toList Try.results17) ?_
  simp only [go_sem, ↓reduceIte, Nat.reduceAdd, Nat.reduceSub, Nat.reduceMul, Nat.reduceLT, Nat.reduceLeDiff, Nat.reduceEqDiff, Int.reduceLT, Int.reduceLE, Int.reduceEq, Nat.reduceBEq, reduceCtorEq, reduceCtorEq, encMt, encIts]
  refine astep_call rfl (specIsMt_m ⟨r, c, l⟩) rfl rfl (by simp only [go_sem, ↓reduceIte, Nat.reduceAdd, Nat.reduceSub, Nat.reduceMul, Nat.reduceLT, Nat.reduceLeDiff, Nat.reduceEqDiff, Int.reduceLT, Int.reduceLE, Int.reduceEq, Nat.reduceBEq, reduceCtorEq, reduceCtorEq, encMt, encIts]) ?_
  cases hb : mtB ⟨r, c, l⟩
  · have ht : turnM ⟨r, c, l⟩ = ⟨0, 0, []⟩ := by unfold turnM; rw [if_neg (by simp [hb])]
    simp only [go_sem, ↓reduceIte, Nat.reduceAdd, Nat.reduceSub, Nat.reduceMul, Nat.reduceLT, Nat.reduceLeDiff, Nat.reduceEqDiff, Int.reduceLT, Int.reduceLE, Int.reduceEq, Nat.reduceBEq, reduceCtorEq, reduceCtorEq, hb, ht, encMt, encIts]
    refine Or.inl ?_; repeat' (first | exact gives_nil | exact trivial | with_reducible apply gives_sc | with_reducible apply gives_nilS (by decide) | with_reducible apply gives_own | with_reducible apply Exists.intro | with_reducible apply And.intro | (show (_ : Option Ob) = _; simp only [go_sem, ↓reduceIte, Nat.reduceAdd, Nat.reduceSub, Nat.reduceMul, Nat.reduceLT, Nat.reduceLeDiff, Nat.reduceEqDiff, Int.reduceLT, Int.reduceLE, Int.reduceEq, Nat.reduceBEq, reduceCtorEq, reduceCtorEq, true_and]))
  · obtain ⟨h1, h2, h3, h4, hq5⟩ := mtB_dims hb
    simp only at h1 h2 h3 h4 hq5
    obtain ⟨R, rfl⟩ := Int.eq_ofNat_of_zero_le h1
    obtain ⟨C, rfl⟩ := Int.eq_ofNat_of_zero_le h3
    have ht : turnM ⟨R, C, l⟩ = ⟨C, R, turnL R C l (C * R)⟩ := by unfold turnM; rw [if_pos hb]; simp
    simp only [go_sem, ↓reduceIte, Nat.reduceAdd, Nat.reduceSub, Nat.reduceMul, Nat.reduceLT, Nat.reduceLeDiff, Nat.reduceEqDiff, Int.reduceLT, Int.reduceLE, Int.reduceEq, Nat.reduceBEq, reduceCtorEq, reduceCtorEq, hb, ht, encMt, encIts]
    refine astep_call rfl (l14Turn_m R C l (by exact_mod_cast hq5) (by omega) (by omega)) rfl rfl (by simp only [go_sem, ↓reduceIte, Nat.reduceAdd, Nat.reduceSub, Nat.reduceMul, Nat.reduceLT, Nat.reduceLeDiff, Nat.reduceEqDiff, Int.reduceLT, Int.reduceLE, Int.reduceEq, Nat.reduceBEq, reduceCtorEq, reduceCtorEq, encMt, encIts]) ?_
    simp only [go_sem, ↓reduceIte, Nat.reduceAdd, Nat.reduceSub, Nat.reduceMul, Nat.reduceLT, Nat.reduceLeDiff, Nat.reduceEqDiff, Int.reduceLT, Int.reduceLE, Int.reduceEq, Nat.reduceBEq, reduceCtorEq, reduceCtorEq, encMt, encIts]
    refine Or.inl ?_; repeat' (first | exact gives_nil | exact trivial | with_reducible apply gives_sc | with_reducible apply gives_nilS (by decide) | with_reducible apply gives_own | with_reducible apply Exists.intro | with_reducible apply And.intro | (show (_ : Option Ob) = _; simp only [go_sem, ↓reduceIte, Nat.reduceAdd, Nat.reduceSub, Nat.reduceMul, Nat.reduceLT, Nat.reduceLeDiff, Nat.reduceEqDiff, Int.reduceLT, Int.reduceLE, Int.reduceEq, Nat.reduceBEq, reduceCtorEq, reduceCtorEq, true_and]))
end Go.Proofs.Ytolkglnkdfcceaa
