/- Matrices: impl.cellAt, allNumbers, IsMatrix, TransposeMatrix and their fellows. -/
import Derived.Test.YtolkglnkdfcceaaLawIt
namespace Go.Proofs.Ytolkglnkdfcceaa
open Go.RowKit
set_option linter.unusedVariables false
set_option linter.unusedSimpArgs false
set_option maxRecDepth 100000

structure Mt where
  rows : Int
  cols : Int
  cells : List It
  deriving DecidableEq
def allN (l : List It) : Bool := l.all numB
def mtB (m : Mt) : Bool := decide (0 ≤ m.rows ∧ m.rows ≤ 12 ∧ 0 ≤ m.cols ∧ m.cols ≤ 12 ∧ (m.cells.length : Int) = m.rows * m.cols) && allN m.cells
def encMt (m : Mt) : List DV := [.sc (.int .i64 m.rows), .sc (.int .i64 m.cols), encIts m.cells]

theorem cellAt_m (r : Int) (C i j : Nat) (l : List It) (x : It) (h : l[i * C + j]? = some x) (hb : i * C + j ≤ 1000000) :
    Meets Try.prog 44 [(true, encMt ⟨r, C, l⟩), (false, [.sc (.int .i64 i)]), (false, [.sc (.int .i64 j)])] [(true, encIt x, true)] := by
  have h1 : IntKind.i64.wrap ((i : Int) * C) = (i * C : Nat) := by rw [← Int.natCast_mul, wrapN _ (by omega)]
  have h2 : IntKind.i64.wrap (((i * C : Nat) : Int) + j) = (i * C + j : Nat) := by rw [← Int.natCast_add, wrapN _ (by omega)]
  refine meets_of Try.func44 rfl (by kernel_rfl) (by simp) Try.ntmps44 (congrArg Array.toList Try.results44) ?_
  simp only [go_sem, ↓reduceIte, Nat.reduceAdd, Nat.reduceSub, Nat.reduceMul, Nat.reduceLT, Nat.reduceLeDiff, Nat.reduceEqDiff, Int.reduceLT, Int.reduceLE, Int.reduceEq, Nat.reduceBEq, reduceCtorEq, reduceCtorEq, encMt, encIts, h1, h2, List.getElem?_map, h, Option.map_some, encIt]
  refine Or.inl ?_; repeat' (first | exact gives_nil | exact trivial | with_reducible apply gives_sc | with_reducible apply gives_nilS (by decide) | with_reducible apply gives_own | with_reducible apply Exists.intro | with_reducible apply And.intro | (show (_ : Option Ob) = _; simp only [go_sem, ↓reduceIte, Nat.reduceAdd, Nat.reduceSub, Nat.reduceMul, Nat.reduceLT, Nat.reduceLeDiff, Nat.reduceEqDiff, Int.reduceLT, Int.reduceLE, Int.reduceEq, Nat.reduceBEq, reduceCtorEq, reduceCtorEq, true_and]))

theorem allN_succ {l : List It} {k : Nat} {x : It} (h : l[k]? = some x) : allN (l.take (k + 1)) = (allN (l.take k) && numB x) := by
  obtain ⟨hk, rfl⟩ := List.getElem?_eq_some_iff.1 h
  unfold allN
  rw [List.take_succ_eq_append_getElem hk, List.all_append]; simp
theorem allN_get {l : List It} {k : Nat} {x : It} (h : l[k]? = some x) (hx : numB x = false) : allN l = false := by
  unfold allN
  rw [List.all_eq_false]
  exact ⟨x, List.mem_of_getElem? h, by simp [hx]⟩

theorem allNumbers_m (l : List It) (hl : l.length ≤ 1000000) : Meets Try.prog 62 [(false, [encIts l])] [(false, [.sc (.bool (allN l))], true)] := by
  refine meets_of Try.func62 rfl (by kernel_rfl) (by simp) Try.ntmps62 (congrArg Array.toList Try.results62) ?_
  simp only [go_sem, ↓reduceIte, Nat.reduceAdd, Nat.reduceSub, Nat.reduceMul, Nat.reduceLT, Nat.reduceLeDiff, Nat.reduceEqDiff, Int.reduceLT, Int.reduceLE, Int.reduceEq, Nat.reduceBEq, reduceCtorEq, reduceCtorEq, encIts, List.length_map]
  refine awp_loop (fun s m => ∃ k : Nat, k ≤ l.length ∧ m = l.length - k ∧ allN (l.take k) = true ∧ s.n = 0 ∧ s.sl 5 = .p false [.d (encIts l)] ∧ s.sl 6 = .p false [.d (.sc (.int .i64 l.length))] ∧ s.sl 7 = .p false [.d (.sc (.int .i64 k))]) l.length ?_ ?_
  · exact ⟨0, Nat.zero_le _, rfl, rfl, rfl, rfl, rfl, rfl⟩
  · rintro s m ⟨k, hk, rfl, ha, hn, h5, h6, h7⟩
    by_cases hlt : k < l.length
    · have hx := List.getElem?_eq_getElem hlt
      generalize l[k] = x at hx
      have hd : decide ((k : Int) < (l.length : Int)) = true := by simpa using hlt
      have hw : IntKind.i64.wrap ((k : Int) + 1) = (k + 1 : Nat) := wrapN (k + 1) (by omega)
      simp only [go_sem, ↓reduceIte, Nat.reduceAdd, Nat.reduceSub, Nat.reduceMul, Nat.reduceLT, Nat.reduceLeDiff, Nat.reduceEqDiff, Int.reduceLT, Int.reduceLE, Int.reduceEq, Nat.reduceBEq, reduceCtorEq, reduceCtorEq, h5, h6, h7, hn, encIts, hd, List.getElem?_map, hx, Option.map_some, encIt]
      refine astep_call rfl (mImplIsNum x) rfl rfl (by simp only [go_sem, ↓reduceIte, Nat.reduceAdd, Nat.reduceSub, Nat.reduceMul, Nat.reduceLT, Nat.reduceLeDiff, Nat.reduceEqDiff, Int.reduceLT, Int.reduceLE, Int.reduceEq, Nat.reduceBEq, reduceCtorEq, reduceCtorEq, encIt]) ?_
      cases hb : numB x
      · simp only [go_sem, ↓reduceIte, Nat.reduceAdd, Nat.reduceSub, Nat.reduceMul, Nat.reduceLT, Nat.reduceLeDiff, Nat.reduceEqDiff, Int.reduceLT, Int.reduceLE, Int.reduceEq, Nat.reduceBEq, reduceCtorEq, reduceCtorEq, hb, allN_get hx hb]
        refine Or.inl ?_; repeat' (first | exact gives_nil | exact trivial | with_reducible apply gives_sc | with_reducible apply gives_nilS (by decide) | with_reducible apply gives_own | with_reducible apply Exists.intro | with_reducible apply And.intro | (show (_ : Option Ob) = _; simp only [go_sem, ↓reduceIte, Nat.reduceAdd, Nat.reduceSub, Nat.reduceMul, Nat.reduceLT, Nat.reduceLeDiff, Nat.reduceEqDiff, Int.reduceLT, Int.reduceLE, Int.reduceEq, Nat.reduceBEq, reduceCtorEq, reduceCtorEq, true_and]))
      · simp only [go_sem, ↓reduceIte, Nat.reduceAdd, Nat.reduceSub, Nat.reduceMul, Nat.reduceLT, Nat.reduceLeDiff, Nat.reduceEqDiff, Int.reduceLT, Int.reduceLE, Int.reduceEq, Nat.reduceBEq, reduceCtorEq, reduceCtorEq, hb, h7, hn, hw]
        exact ⟨0, l.length - (k + 1), by omega, by omega, k + 1, by omega, rfl, by rw [allN_succ hx, ha, hb]; rfl, rfl, h5, h6, rfl⟩
    · have hd : decide ((k : Int) < (l.length : Int)) = false := by simpa using hlt
      rw [List.take_of_length_le (by omega)] at ha
      simp only [go_sem, ↓reduceIte, Nat.reduceAdd, Nat.reduceSub, Nat.reduceMul, Nat.reduceLT, Nat.reduceLeDiff, Nat.reduceEqDiff, Int.reduceLT, Int.reduceLE, Int.reduceEq, Nat.reduceBEq, reduceCtorEq, reduceCtorEq, h5, h6, h7, hn, encIts, hd, ha]
      refine Or.inl ?_; repeat' (first | exact gives_nil | exact trivial | with_reducible apply gives_sc | with_reducible apply gives_nilS (by decide) | with_reducible apply gives_own | with_reducible apply Exists.intro | with_reducible apply And.intro | (show (_ : Option Ob) = _; simp only [go_sem, ↓reduceIte, Nat.reduceAdd, Nat.reduceSub, Nat.reduceMul, Nat.reduceLT, Nat.reduceLeDiff, Nat.reduceEqDiff, Int.reduceLT, Int.reduceLE, Int.reduceEq, Nat.reduceBEq, reduceCtorEq, reduceCtorEq, true_and]))

theorem mtB_false {m : Mt} (h : ¬ (0 ≤ m.rows ∧ m.rows ≤ 12 ∧ 0 ≤ m.cols ∧ m.cols ≤ 12 ∧ (m.cells.length : Int) = m.rows * m.cols)) : mtB m = false := by unfold mtB; rw [decide_eq_false h]; rfl
theorem mtB_true {m : Mt} (h : 0 ≤ m.rows ∧ m.rows ≤ 12 ∧ 0 ≤ m.cols ∧ m.cols ≤ 12 ∧ (m.cells.length : Int) = m.rows * m.cols) : mtB m = allN m.cells := by unfold mtB; rw [decide_eq_true h]; rfl
theorem mul12 {a b : Int} (h1 : 0 ≤ a ∧ a ≤ 12) (h2 : 0 ≤ b ∧ b ≤ 12) : 0 ≤ a * b ∧ a * b ≤ 144 := by
  refine ⟨Int.mul_nonneg h1.1 h2.1, ?_⟩
  have : a * b ≤ 12 * 12 := Int.mul_le_mul h1.2 h2.2 h2.1 (by omega)
  omega

theorem isMt_m (m : Mt) : Meets Try.prog 41 [(true, encMt m)] [(false, [.sc (.bool (mtB m))], true)] := by
  obtain ⟨r, c, l⟩ := m
  by_cases c1 : r < 0
  · have hb : mtB ⟨r, c, l⟩ = false := mtB_false (by simp; omega)
    refine meets_of Try.func41 rfl (by kernel_rfl) (by simp) Try.ntmps41 (congrArg Array.toList Try.results41) ?_
    simp only [go_sem, ↓reduceIte, Nat.reduceAdd, Nat.reduceSub, Nat.reduceMul, Nat.reduceLT, Nat.reduceLeDiff, Nat.reduceEqDiff, Int.reduceLT, Int.reduceLE, Int.reduceEq, Nat.reduceBEq, reduceCtorEq, reduceCtorEq, encMt, encIts, decide_eq_true c1, hb]
    refine Or.inl ?_; repeat' (first | exact gives_nil | exact trivial | with_reducible apply gives_sc | with_reducible apply gives_nilS (by decide) | with_reducible apply gives_own | with_reducible apply Exists.intro | with_reducible apply And.intro | (show (_ : Option Ob) = _; simp only [go_sem, ↓reduceIte, Nat.reduceAdd, Nat.reduceSub, Nat.reduceMul, Nat.reduceLT, Nat.reduceLeDiff, Nat.reduceEqDiff, Int.reduceLT, Int.reduceLE, Int.reduceEq, Nat.reduceBEq, reduceCtorEq, reduceCtorEq, true_and]))
  have d1 := decide_eq_false c1
  by_cases c2 : 12 < r
  · have hb : mtB ⟨r, c, l⟩ = false := mtB_false (by simp; omega)
    refine meets_of Try.func41 rfl (by kernel_rfl) (by simp) Try.ntmps41 (congrArg Array.toList Try.results41) ?_
    simp only [go_sem, ↓reduceIte, Nat.reduceAdd, Nat.reduceSub, Nat.reduceMul, Nat.reduceLT, Nat.reduceLeDiff, Nat.reduceEqDiff, Int.reduceLT, Int.reduceLE, Int.reduceEq, Nat.reduceBEq, reduceCtorEq, reduceCtorEq, encMt, encIts, d1, decide_eq_true c2, hb]
    refine Or.inl ?_; repeat' (first | exact gives_nil | exact trivial | with_reducible apply gives_sc | with_reducible apply gives_nilS (by decide) | with_reducible apply gives_own | with_reducible apply Exists.intro | with_reducible apply And.intro | (show (_ : Option Ob) = _; simp only [go_sem, ↓reduceIte, Nat.reduceAdd, Nat.reduceSub, Nat.reduceMul, Nat.reduceLT, Nat.reduceLeDiff, Nat.reduceEqDiff, Int.reduceLT, Int.reduceLE, Int.reduceEq, Nat.reduceBEq, reduceCtorEq, reduceCtorEq, true_and]))
  have d2 := decide_eq_false c2
  by_cases c3 : c < 0
  · have hb : mtB ⟨r, c, l⟩ = false := mtB_false (by simp; omega)
    refine meets_of Try.func41 rfl (by kernel_rfl) (by simp) Try.ntmps41 (congrArg Array.toList Try.results41) ?_
    simp only [go_sem, ↓reduceIte, Nat.reduceAdd, Nat.reduceSub, Nat.reduceMul, Nat.reduceLT, Nat.reduceLeDiff, Nat.reduceEqDiff, Int.reduceLT, Int.reduceLE, Int.reduceEq, Nat.reduceBEq, reduceCtorEq, reduceCtorEq, encMt, encIts, d1, d2, decide_eq_true c3, hb]
    refine Or.inl ?_; repeat' (first | exact gives_nil | exact trivial | with_reducible apply gives_sc | with_reducible apply gives_nilS (by decide) | with_reducible apply gives_own | with_reducible apply Exists.intro | with_reducible apply And.intro | (show (_ : Option Ob) = _; simp only [go_sem, ↓reduceIte, Nat.reduceAdd, Nat.reduceSub, Nat.reduceMul, Nat.reduceLT, Nat.reduceLeDiff, Nat.reduceEqDiff, Int.reduceLT, Int.reduceLE, Int.reduceEq, Nat.reduceBEq, reduceCtorEq, reduceCtorEq, true_and]))
  have d3 := decide_eq_false c3
  by_cases c4 : 12 < c
  · have hb : mtB ⟨r, c, l⟩ = false := mtB_false (by simp; omega)
    refine meets_of Try.func41 rfl (by kernel_rfl) (by simp) Try.ntmps41 (congrArg Array.toList Try.results41) ?_
    simp only [go_sem, ↓reduceIte, Nat.reduceAdd, Nat.reduceSub, Nat.reduceMul, Nat.reduceLT, Nat.reduceLeDiff, Nat.reduceEqDiff, Int.reduceLT, Int.reduceLE, Int.reduceEq, Nat.reduceBEq, reduceCtorEq, reduceCtorEq, encMt, encIts, d1, d2, d3, decide_eq_true c4, hb]
    refine Or.inl ?_; repeat' (first | exact gives_nil | exact trivial | with_reducible apply gives_sc | with_reducible apply gives_nilS (by decide) | with_reducible apply gives_own | with_reducible apply Exists.intro | with_reducible apply And.intro | (show (_ : Option Ob) = _; simp only [go_sem, ↓reduceIte, Nat.reduceAdd, Nat.reduceSub, Nat.reduceMul, Nat.reduceLT, Nat.reduceLeDiff, Nat.reduceEqDiff, Int.reduceLT, Int.reduceLE, Int.reduceEq, Nat.reduceBEq, reduceCtorEq, reduceCtorEq, true_and]))
  have d4 := decide_eq_false c4
  have hm := mul12 (a := r) (b := c) (by omega) (by omega)
  have hw := wrapI (r * c) (by omega)
  by_cases c5 : (l.length : Int) = r * c
  · have hb : mtB ⟨r, c, l⟩ = allN l := mtB_true (m := ⟨r, c, l⟩) ⟨by simp; omega, by simp; omega, by simp; omega, by simp; omega, c5⟩
    refine meets_of Try.func41 rfl (by kernel_rfl) (by simp) Try.ntmps41 (congrArg Array.toList Try.results41) ?_
    simp only [go_sem, ↓reduceIte, Nat.reduceAdd, Nat.reduceSub, Nat.reduceMul, Nat.reduceLT, Nat.reduceLeDiff, Nat.reduceEqDiff, Int.reduceLT, Int.reduceLE, Int.reduceEq, Nat.reduceBEq, reduceCtorEq, reduceCtorEq, encMt, encIts, d1, d2, d3, d4, List.length_map, hw, decide_eq_true c5]
    refine astep_call rfl (allNumbers_m l (by omega)) rfl rfl (by simp only [go_sem, ↓reduceIte, Nat.reduceAdd, Nat.reduceSub, Nat.reduceMul, Nat.reduceLT, Nat.reduceLeDiff, Nat.reduceEqDiff, Int.reduceLT, Int.reduceLE, Int.reduceEq, Nat.reduceBEq, reduceCtorEq, reduceCtorEq, encIts]) ?_
    simp only [go_sem, ↓reduceIte, Nat.reduceAdd, Nat.reduceSub, Nat.reduceMul, Nat.reduceLT, Nat.reduceLeDiff, Nat.reduceEqDiff, Int.reduceLT, Int.reduceLE, Int.reduceEq, Nat.reduceBEq, reduceCtorEq, reduceCtorEq, hb]
    refine Or.inl ?_; repeat' (first | exact gives_nil | exact trivial | with_reducible apply gives_sc | with_reducible apply gives_nilS (by decide) | with_reducible apply gives_own | with_reducible apply Exists.intro | with_reducible apply And.intro | (show (_ : Option Ob) = _; simp only [go_sem, ↓reduceIte, Nat.reduceAdd, Nat.reduceSub, Nat.reduceMul, Nat.reduceLT, Nat.reduceLeDiff, Nat.reduceEqDiff, Int.reduceLT, Int.reduceLE, Int.reduceEq, Nat.reduceBEq, reduceCtorEq, reduceCtorEq, true_and]))
  · have hb : mtB ⟨r, c, l⟩ = false := mtB_false (by simp; omega)
    refine meets_of Try.func41 rfl (by kernel_rfl) (by simp) Try.ntmps41 (congrArg Array.toList Try.results41) ?_
    simp only [go_sem, ↓reduceIte, Nat.reduceAdd, Nat.reduceSub, Nat.reduceMul, Nat.reduceLT, Nat.reduceLeDiff, Nat.reduceEqDiff, Int.reduceLT, Int.reduceLE, Int.reduceEq, Nat.reduceBEq, reduceCtorEq, reduceCtorEq, encMt, encIts, d1, d2, d3, d4, List.length_map, hw, decide_eq_false c5, hb]
    refine Or.inl ?_; repeat' (first | exact gives_nil | exact trivial | with_reducible apply gives_sc | with_reducible apply gives_nilS (by decide) | with_reducible apply gives_own | with_reducible apply Exists.intro | with_reducible apply And.intro | (show (_ : Option Ob) = _; simp only [go_sem, ↓reduceIte, Nat.reduceAdd, Nat.reduceSub, Nat.reduceMul, Nat.reduceLT, Nat.reduceLeDiff, Nat.reduceEqDiff, Int.reduceLT, Int.reduceLE, Int.reduceEq, Nat.reduceBEq, reduceCtorEq, reduceCtorEq, true_and]))
end Go.Proofs.Ytolkglnkdfcceaa
