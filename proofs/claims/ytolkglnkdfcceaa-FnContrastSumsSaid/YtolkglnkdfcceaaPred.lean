/- copyItems, columns, PredictWith. -/
import Derived.Test.YtolkglnkdfcceaaUPred
import Derived.Test.YtolkglnkdfcceaaBes
import Derived.Test.YtolkglnkdfcceaaMul2
namespace Go.Proofs.Ytolkglnkdfcceaa
open Go.RowKit
set_option linter.unusedVariables false
set_option linter.unusedSimpArgs false
set_option maxRecDepth 100000

theorem copyItems_m (l : List It) (hl : l.length ≤ 100000000000) : Meets Try.prog 66 [(false, [encIts l])] [(false, [encIts l], true)] := by
  refine meets_upf Try.func66 u_impl_copyItems_g rfl ?_; simp only [u_impl_copyItems_u]
  simp (disch := first | omega | (simp only [List.length_take, List.length_drop, List.length_append, List.map_cons, List.map_nil, List.length_map, List.length_cons, List.length_nil, List.length_set, List.length_replicate]; omega) | (simp only [List.length_cons, List.length_nil, Nat.zero_add, Nat.reduceAdd])) only [go_sem, ↓reduceIte, Nat.reduceAdd, Int.reduceNeg, Int.reduceAdd, Int.reduceSub, Int.reduceMul, Int.reduceLT, Int.reduceLE, Int.reduceEq, Int.reduceToNat, Nat.reduceBEq, encIts, fl_it]
  rfl
theorem eq_it (x y : It) : eqKD [.i, .i, .s] (encIt x) (encIt y) = some (decide (x = y)) := by
  obtain ⟨a, b, c⟩ := x
  obtain ⟨a', b', c'⟩ := y
  simp only [encIt, eqKD, eqK, if_true, It.mk.injEq, Bool.and_true]
  congr 1
  rw [← Bool.decide_and, ← Bool.decide_and]
theorem eq0_it (x : It) : eEqS false [.i, .i, .s] (some [.sc (.int .i64 x.num), .sc (.int .i64 x.den), .sc (.string x.text)]) (some [.sc (.int .i64 0), .sc (.int .i64 0), .sc (.string ⟨#[]⟩)]) = some [.sc (.bool (decide (x = it0)))] := e_eqS (eq_it x it0)
def fixIt (x : It) : It := if x = it0 then intN 0 else x
def prB (x : Mt) (b : List It) : Bool := mtB x && decide ((b.length : Int) = x.cols) && mulB x ⟨b.length, 1, b.map fixIt⟩
def prL (x : Mt) (b : List It) : List It := if prB x b = true then (mulM x ⟨b.length, 1, b.map fixIt⟩).cells else []

def fixUp (b : List It) (i : Nat) : List It := (b.take i).map fixIt ++ b.drop i
theorem fixUp_len (b : List It) (i : Nat) (h : i ≤ b.length) : (fixUp b i).length = b.length := by simp [fixUp]; omega
theorem fixUp_get (b : List It) (i : Nat) (h : i < b.length) : (fixUp b i).getD i default = b.getD i default := by
  simp only [fixUp, List.getD_eq_getElem?_getD]
  rw [List.getElem?_append_right (by simp; omega)]
  simp [Nat.min_eq_left (Nat.le_of_lt h)]
theorem fixUp_succ (b : List It) (i : Nat) (h : i < b.length) : fixUp b (i + 1) = (fixUp b i).set i (fixIt (b.getD i default)) := by
  apply List.ext_getElem?
  intro j
  simp only [fixUp, List.getD_eq_getElem?_getD, List.getElem?_eq_getElem h, Option.getD_some, List.getElem?_set]
  rcases Nat.lt_trichotomy j i with h1 | h1 | h1
  · rw [if_neg (by omega), List.getElem?_append_left (by simp; omega), List.getElem?_append_left (by simp; omega)]
    simp [List.getElem?_take, h1, Nat.lt_succ_of_lt h1]
  · subst h1
    rw [if_pos rfl, if_pos (by simp; omega), List.getElem?_append_left (by simp; omega)]
    simp [List.getElem?_take, List.getElem?_eq_getElem h]
  · rw [if_neg (by omega), List.getElem?_append_right (by simp; omega), List.getElem?_append_right (by simp; omega)]
    simp [Nat.min_eq_left (Nat.le_of_lt h), Nat.min_eq_left (show i + 1 ≤ b.length from h)]
    congr 1; omega

def fixL (b : List It) (i : Nat) : List It := (b.take i).map fixIt
theorem fixL_succ (b : List It) (i : Nat) (h : i < b.length) : fixL b (i + 1) = fixL b i ++ [fixIt (b.getD i default)] := by
  unfold fixL
  rw [List.take_succ_eq_append_getElem h, List.map_append, List.getD_eq_getElem?_getD, List.getElem?_eq_getElem h]; rfl
end Go.Proofs.Ytolkglnkdfcceaa
