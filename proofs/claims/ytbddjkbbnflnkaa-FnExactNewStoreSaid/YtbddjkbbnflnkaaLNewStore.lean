/- The law FnExactNewStore. -/
import Derived.Test.YtbddjkbbnflnkaaULNewStore
import Derived.Test.YtbddjkbbnflnkaaNewM
namespace Go.Proofs.Ytbddjkbbnflnkaa
open Go.RowKit
set_option linter.unusedVariables false
set_option linter.unusedSimpArgs false
set_option maxRecDepth 100000

theorem lawNewStore_m : Meets Try.prog 7 [] [(false, [.sc (.bool true)], true)] := by
  have h1 := specNew_m
  have h2 := implNew_m
  have h3 := eqStore1_m
  have h4 := markStore_k
  have h5 := heldStore1_m
  refine meets_upf Try.func7 u_laws_FnExactNewStore_g rfl ?_; simp only [u_laws_FnExactNewStore_u]
  simp only [stoR, envR] at h1 h2 h3 h4 h5 ⊢
  repeat' (first | (with_reducible refine cl_ok (by assumption) rfl ?_) | (refine mk_ok (by assumption) ?_ ?_; (· first | exact ⟨⟨_, rfl, rfl⟩, ⟨_, rfl, rfl⟩, trivial⟩ | exact trivial | exact ⟨⟨_, rfl, rfl⟩, trivial⟩)) | simp (disch := first | omega | (simp only [List.length_take, List.length_drop, List.length_append, List.map_cons, List.map_nil, List.length_map, List.length_cons, List.length_nil, List.length_set, List.length_replicate]; omega) | (simp only [List.length_cons, List.length_nil, Nat.zero_add, Nat.reduceAdd])) only [go_sem, ↓reduceIte, Nat.reduceAdd, Int.reduceNeg, Int.reduceAdd, Int.reduceSub, Int.reduceMul, Int.reduceLT, Int.reduceLE, Int.reduceEq, Int.reduceToNat, Nat.reduceBEq, true_and])
  all_goals rfl
end Go.Proofs.Ytbddjkbbnflnkaa
