/- The law FnExactIsFormula. -/
import Derived.Test.YtbddjkbbnflnkaaFml
namespace Go.Proofs.Ytbddjkbbnflnkaa
open Go.RowKit
set_option linter.unusedVariables false
set_option linter.unusedSimpArgs false
set_option maxRecDepth 100000

theorem okFml_of {x : Fml} (h : wtFml x ≤ 1048576) (ok : OkFml x) : FmlOk x := by
  obtain ⟨a, b, c, d⟩ := x
  obtain ⟨k1, k2, k3, k4⟩ := ok
  simp only [wtFml] at h
  simp only at k4
  refine ⟨?_, ?_, fun x hx => ?_, ?_, fun n hn => ?_⟩
  · simp only; omega
  · have := wtSs_len (n := 1048576) (l := c) (by omega); simp only; omega
  · have := wtSs_size (n := 1048576) (l := c) (by omega) x hx; omega
  · simp only; omega
  · have := k4.2 n hn; unfold In64 at this; omega

theorem lawFml_m (a : Fml) (ok : OkFml a) : Meets Try.prog 4 [(true, encFml a)] [(false, [.sc (.bool true)], true)] := by
  have hz := szFml_m a 1048576 ok (by decide) (by decide)
  by_cases hc : ((wtFml a : Nat) : Int) ≤ 1048576
  rotate_left
  · rw [szF_gt (by omega)] at hz
    obtain ⟨x0, x1, x2, x3⟩ := a
    refine meets_upf Try.func4 u_laws_FnExactIsFormula_g rfl ?_; simp only [u_laws_FnExactIsFormula_u]
    simp only [encFml] at hz ⊢
    repeat' (first | (with_reducible refine jn_in ?_) | (with_reducible refine cl_ok (by assumption) rfl ?_) | (with_reducible refine br_if (fun hbr => ?_) (fun hbr => ?_)) | (with_reducible refine br_ifn (fun hbr => ?_) (fun hbr => ?_)) | (with_reducible refine br_nb (fun hbr => ?_) (fun hbr => ?_)) | (with_reducible refine br_b (fun hbr => ?_) (fun hbr => ?_)) | simp (disch := first | omega | (simp only [List.length_take, List.length_drop, List.length_append, List.map_cons, List.map_nil, List.length_map, List.length_cons, List.length_nil, List.length_set, List.length_replicate]; omega) | (simp only [List.length_cons, List.length_nil, Nat.zero_add, Nat.reduceAdd])) only [go_sem, ↓reduceIte, Nat.reduceAdd, Int.reduceNeg, Int.reduceAdd, Int.reduceSub, Int.reduceMul, Int.reduceLT, Int.reduceLE, Int.reduceEq, Int.reduceToNat, Nat.reduceBEq, true_and])
    rfl
  rw [szF_le hc] at hz
  have hd : decide ((1048576 : Int) - ((wtFml a : Nat) : Int) < 0) = false := decide_eq_false (by omega)
  have ht := toFml_m a (by omega)
  have hq := eqFml_m a (by omega)
  have h1 := implFml_m a (okFml_of (by omega) ok)
  have h2 := specFml_m a (okFml_of (by omega) ok)
  obtain ⟨x0, x1, x2, x3⟩ := a
  refine meets_upf Try.func4 u_laws_FnExactIsFormula_g rfl ?_; simp only [u_laws_FnExactIsFormula_u]
  simp only [encFml] at hz ht hq h1 h2 ⊢
  repeat' (first | (with_reducible refine jn_in ?_) | (with_reducible refine cl_ok (by assumption) rfl ?_) | (with_reducible refine br_if (fun hbr => ?_) (fun hbr => ?_)) | (with_reducible refine br_ifn (fun hbr => ?_) (fun hbr => ?_)) | (with_reducible refine br_nb (fun hbr => ?_) (fun hbr => ?_)) | (with_reducible refine br_b (fun hbr => ?_) (fun hbr => ?_)) | simp (disch := first | omega | (simp only [List.length_take, List.length_drop, List.length_append, List.map_cons, List.map_nil, List.length_map, List.length_cons, List.length_nil, List.length_set, List.length_replicate]; omega) | (simp only [List.length_cons, List.length_nil, Nat.zero_add, Nat.reduceAdd])) only [go_sem, ↓reduceIte, Nat.reduceAdd, Int.reduceNeg, Int.reduceAdd, Int.reduceSub, Int.reduceMul, Int.reduceLT, Int.reduceLE, Int.reduceEq, Int.reduceToNat, Nat.reduceBEq, hd, eq_self])
  all_goals rfl
end Go.Proofs.Ytbddjkbbnflnkaa
