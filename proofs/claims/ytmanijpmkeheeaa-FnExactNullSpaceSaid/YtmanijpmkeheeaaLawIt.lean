/- laws.szItem, szItemS, toItem, toItemS, eqItem, eqItemS, heldItemS. -/
import Derived.Test.YtmanijpmkeheeaaNumM
import Derived.Test.YtmanijpmkeheeaaTy
import Derived.Test.YtmanijpmkeheeaaMark
namespace Go.Proofs.Ytmanijpmkeheeaa
open Go.RowKit
set_option linter.unusedVariables false
set_option linter.unusedSimpArgs false
set_option maxRecDepth 100000

def encIts (l : List It) : DV := .sl 41 3 (l.map encIt)
/-- what is left, or -1 -/
def szF (left : Int) (wt : Nat) : Int := if (wt : Int) ≤ left then left - wt else -1
theorem szF_le {left : Int} {wt : Nat} (h : (wt : Int) ≤ left) : szF left wt = left - wt := if_pos h
theorem szF_gt {left : Int} {wt : Nat} (h : left < wt) : szF left wt = -1 := if_neg (by omega)

theorem szItem_m (x : It) (left : Int) (ht : x.text.size ≤ 9223372036854775807) (h0 : 0 ≤ left) (h1 : left ≤ 1048576) : Meets Try.prog 84 [(true, encIt x), (false, [.sc (.int .i64 left)])] [(false, [.sc (.int .i64 (szF left (wtItem x)))], true)] := by
  have hw : IntKind.i64.wrap (left - (x.text.size : Int)) = left - x.text.size := wrapI _ (by omega)
  refine meets_of Try.func84 rfl (by kernel_rfl) (by simp) Try.ntmps84 (congrArg Array.toList Try.results84) ?_
  by_cases hc : left - (x.text.size : Int) < 0
  · have hs : szF left (wtItem x) = -1 := szF_gt (by unfold wtItem; omega)
    simp only [go_sem, ↓reduceIte, Nat.reduceAdd, Nat.reduceSub, Nat.reduceMul, Nat.reduceLT, Nat.reduceLeDiff, Nat.reduceEqDiff, Int.reduceLT, Int.reduceLE, Int.reduceEq, Nat.reduceBEq, reduceCtorEq, reduceCtorEq, encIt, hw, decide_eq_true hc, hs]
    refine Or.inl ?_; repeat' (first | exact gives_nil | exact trivial | with_reducible apply gives_sc | with_reducible apply gives_nilS (by decide) | with_reducible apply gives_own | with_reducible apply Exists.intro | with_reducible apply And.intro | (show (_ : Option Ob) = _; simp only [go_sem, ↓reduceIte, Nat.reduceAdd, Nat.reduceSub, Nat.reduceMul, Nat.reduceLT, Nat.reduceLeDiff, Nat.reduceEqDiff, Int.reduceLT, Int.reduceLE, Int.reduceEq, Nat.reduceBEq, reduceCtorEq, reduceCtorEq, true_and]))
  · have hs : szF left (wtItem x) = left - x.text.size := szF_le (by unfold wtItem; omega)
    simp only [go_sem, ↓reduceIte, Nat.reduceAdd, Nat.reduceSub, Nat.reduceMul, Nat.reduceLT, Nat.reduceLeDiff, Nat.reduceEqDiff, Int.reduceLT, Int.reduceLE, Int.reduceEq, Nat.reduceBEq, reduceCtorEq, reduceCtorEq, encIt, hw, decide_eq_false hc, hs]
    refine Or.inl ?_; repeat' (first | exact gives_nil | exact trivial | with_reducible apply gives_sc | with_reducible apply gives_nilS (by decide) | with_reducible apply gives_own | with_reducible apply Exists.intro | with_reducible apply And.intro | (show (_ : Option Ob) = _; simp only [go_sem, ↓reduceIte, Nat.reduceAdd, Nat.reduceSub, Nat.reduceMul, Nat.reduceLT, Nat.reduceLeDiff, Nat.reduceEqDiff, Int.reduceLT, Int.reduceLE, Int.reduceEq, Nat.reduceBEq, reduceCtorEq, reduceCtorEq, true_and]))

theorem szItemS_m (t : Nat) (l : List It) (left : Int) (hn : l.length ≤ 9223372036854775807) (ht : ∀ x ∈ l, x.text.size ≤ 9223372036854775807) (h0 : 0 ≤ left) (h1 : left ≤ 1048576) :
    Meets Try.prog 36 [(false, [.sl t 3 (l.map encIt)]), (false, [.sc (.int .i64 left)])] [(false, [.sc (.int .i64 (szF left (wtItems l)))], true)] := by
  have hw : IntKind.i64.wrap (left - (l.length : Int)) = left - l.length := wrapI _ (by omega)
  refine meets_of Try.func36 rfl (by kernel_rfl) (by simp) Try.ntmps36 (congrArg Array.toList Try.results36) ?_
  by_cases hc : left - (l.length : Int) < 0
  · have hs : szF left (wtItems l) = -1 := szF_gt (by unfold wtItems; omega)
    simp only [go_sem, ↓reduceIte, Nat.reduceAdd, Nat.reduceSub, Nat.reduceMul, Nat.reduceLT, Nat.reduceLeDiff, Nat.reduceEqDiff, Int.reduceLT, Int.reduceLE, Int.reduceEq, Nat.reduceBEq, reduceCtorEq, reduceCtorEq, List.length_map, hw, decide_eq_true hc, hs]
    refine Or.inl ?_; repeat' (first | exact gives_nil | exact trivial | with_reducible apply gives_sc | with_reducible apply gives_nilS (by decide) | with_reducible apply gives_own | with_reducible apply Exists.intro | with_reducible apply And.intro | (show (_ : Option Ob) = _; simp only [go_sem, ↓reduceIte, Nat.reduceAdd, Nat.reduceSub, Nat.reduceMul, Nat.reduceLT, Nat.reduceLeDiff, Nat.reduceEqDiff, Int.reduceLT, Int.reduceLE, Int.reduceEq, Nat.reduceBEq, reduceCtorEq, reduceCtorEq, true_and]))
  · simp only [go_sem, ↓reduceIte, Nat.reduceAdd, Nat.reduceSub, Nat.reduceMul, Nat.reduceLT, Nat.reduceLeDiff, Nat.reduceEqDiff, Int.reduceLT, Int.reduceLE, Int.reduceEq, Nat.reduceBEq, reduceCtorEq, reduceCtorEq, List.length_map, hw, decide_eq_false hc]
    refine awp_loop (fun s m => ∃ (k : Nat) (r : Int), k ≤ l.length ∧ m = l.length - k ∧ 0 ≤ r ∧ r = left - l.length - (sumBy wtItem (l.take k) : Nat) ∧ s.n = 0 ∧ s.sl 0 = .p false [.d (.sl t 3 (l.map encIt))] ∧ s.sl 1 = .p false [.d (.sc (.int .i64 r))] ∧ s.sl 5 = .p false [.d (.sc (.int .i64 k))]) l.length ?_ ?_
    · exact ⟨0, _, Nat.zero_le _, rfl, by omega, by simp [sumBy], rfl, rfl, rfl, rfl⟩
    · rintro s m ⟨k, r, hk, rfl, hr0, hr, hn0, g0, g1, g5⟩
      by_cases hlt : k < l.length
      · have hx := List.getElem?_eq_getElem hlt
        generalize l[k] = x at hx
        have hd : decide ((k : Int) < (l.length : Int)) = true := by simpa using hlt
        have hw2 : IntKind.i64.wrap ((k : Int) + 1) = (k + 1 : Nat) := wrapN (k + 1) (by omega)
        have hsu := sumBy_take wtItem l hx
        simp only [go_sem, ↓reduceIte, Nat.reduceAdd, Nat.reduceSub, Nat.reduceMul, Nat.reduceLT, Nat.reduceLeDiff, Nat.reduceEqDiff, Int.reduceLT, Int.reduceLE, Int.reduceEq, Nat.reduceBEq, reduceCtorEq, reduceCtorEq, g0, g1, g5, hn0, List.length_map, hd, List.getElem?_map, hx, Option.map_some, encIt]
        refine astep_call rfl (szItem_m x r (ht x (List.mem_of_getElem? hx)) hr0 (by omega)) rfl rfl (by simp only [go_sem, ↓reduceIte, Nat.reduceAdd, Nat.reduceSub, Nat.reduceMul, Nat.reduceLT, Nat.reduceLeDiff, Nat.reduceEqDiff, Int.reduceLT, Int.reduceLE, Int.reduceEq, Nat.reduceBEq, reduceCtorEq, reduceCtorEq, encIt]) ?_
        by_cases hc2 : r < wtItem x
        · have hs := szF_gt hc2
          have hs2 : szF left (wtItems l) = -1 := szF_gt (by
            have h3 : sumBy wtItem (l.take (k + 1)) ≤ sumBy wtItem l := by
              have : sumBy wtItem l = sumBy wtItem (l.take (k + 1)) + sumBy wtItem (l.drop (k + 1)) := by
                unfold sumBy; rw [← List.sum_append, ← List.map_append, List.take_append_drop]
              omega
            unfold wtItems; omega)
          simp only [go_sem, ↓reduceIte, Nat.reduceAdd, Nat.reduceSub, Nat.reduceMul, Nat.reduceLT, Nat.reduceLeDiff, Nat.reduceEqDiff, Int.reduceLT, Int.reduceLE, Int.reduceEq, Nat.reduceBEq, reduceCtorEq, reduceCtorEq, hs, hs2]
          refine Or.inl ?_; repeat' (first | exact gives_nil | exact trivial | with_reducible apply gives_sc | with_reducible apply gives_nilS (by decide) | with_reducible apply gives_own | with_reducible apply Exists.intro | with_reducible apply And.intro | (show (_ : Option Ob) = _; simp only [go_sem, ↓reduceIte, Nat.reduceAdd, Nat.reduceSub, Nat.reduceMul, Nat.reduceLT, Nat.reduceLeDiff, Nat.reduceEqDiff, Int.reduceLT, Int.reduceLE, Int.reduceEq, Nat.reduceBEq, reduceCtorEq, reduceCtorEq, true_and]))
        · have hs := szF_le (left := r) (wt := wtItem x) (by omega)
          have hd2 : decide (r - (wtItem x : Int) < 0) = false := decide_eq_false (by omega)
          simp only [go_sem, ↓reduceIte, Nat.reduceAdd, Nat.reduceSub, Nat.reduceMul, Nat.reduceLT, Nat.reduceLeDiff, Nat.reduceEqDiff, Int.reduceLT, Int.reduceLE, Int.reduceEq, Nat.reduceBEq, reduceCtorEq, reduceCtorEq, hs, hd2, g5, hw2, hn0]
          exact ⟨0, l.length - (k + 1), by omega, by omega, k + 1, r - wtItem x, by omega, rfl, by omega, by omega, rfl, g0, rfl, rfl⟩
      · have hd : decide ((k : Int) < (l.length : Int)) = false := by simpa using hlt
        have hs : szF left (wtItems l) = r := by
          rw [sumBy_all _ _ (by omega)] at hr
          rw [szF_le (by unfold wtItems; omega)]
          unfold wtItems; omega
        simp only [go_sem, ↓reduceIte, Nat.reduceAdd, Nat.reduceSub, Nat.reduceMul, Nat.reduceLT, Nat.reduceLeDiff, Nat.reduceEqDiff, Int.reduceLT, Int.reduceLE, Int.reduceEq, Nat.reduceBEq, reduceCtorEq, reduceCtorEq, g0, g1, g5, hn0, List.length_map, hd, hs]
        refine Or.inl ?_; repeat' (first | exact gives_nil | exact trivial | with_reducible apply gives_sc | with_reducible apply gives_nilS (by decide) | with_reducible apply gives_own | with_reducible apply Exists.intro | with_reducible apply And.intro | (show (_ : Option Ob) = _; simp only [go_sem, ↓reduceIte, Nat.reduceAdd, Nat.reduceSub, Nat.reduceMul, Nat.reduceLT, Nat.reduceLeDiff, Nat.reduceEqDiff, Int.reduceLT, Int.reduceLE, Int.reduceEq, Nat.reduceBEq, reduceCtorEq, reduceCtorEq, true_and]))

theorem toItem_m (x : It) : Meets Try.prog 87 [(true, encIt x)] [(true, encIt x, true)] := by
  refine meets_of Try.func87 rfl (by kernel_rfl) (by simp) Try.ntmps87 (congrArg Array.toList Try.results87) ?_
  simp only [go_sem, ↓reduceIte, Nat.reduceAdd, Nat.reduceSub, Nat.reduceMul, Nat.reduceLT, Nat.reduceLeDiff, Nat.reduceEqDiff, Int.reduceLT, Int.reduceLE, Int.reduceEq, Nat.reduceBEq, reduceCtorEq, reduceCtorEq, encIt]
  refine Or.inl ?_; repeat' (first | exact gives_nil | exact trivial | with_reducible apply gives_sc | with_reducible apply gives_nilS (by decide) | with_reducible apply gives_own | with_reducible apply Exists.intro | with_reducible apply And.intro | (show (_ : Option Ob) = _; simp only [go_sem, ↓reduceIte, Nat.reduceAdd, Nat.reduceSub, Nat.reduceMul, Nat.reduceLT, Nat.reduceLeDiff, Nat.reduceEqDiff, Int.reduceLT, Int.reduceLE, Int.reduceEq, Nat.reduceBEq, reduceCtorEq, reduceCtorEq, true_and]))

def it0c : List DV := [.sc (.int .i64 0), .sc (.int .i64 0), .sc (.string ByteArray.empty)]
theorem toItemS_m (t : Nat) (l : List It) (hn : l.length ≤ 1048576) : Meets Try.prog 38 [(false, [.sl t 3 (l.map encIt)])] [(false, [encIts l], true)] := by
  refine meets_of Try.func38 rfl (by kernel_rfl) (by simp) Try.ntmps38 (congrArg Array.toList Try.results38) ?_
  simp only [go_sem, ↓reduceIte, Nat.reduceAdd, Nat.reduceSub, Nat.reduceMul, Nat.reduceLT, Nat.reduceLeDiff, Nat.reduceEqDiff, Int.reduceLT, Int.reduceLE, Int.reduceEq, Nat.reduceBEq, reduceCtorEq, reduceCtorEq, List.length_map]
  refine astep_make (n := l.length) (zs := [.int .i64 0, .int .i64 0, .string ByteArray.empty]) (ds := it0c) rfl rfl rfl tel_26 (by decide) tzero_41 rfl rfl tby_41 (by omega) (by omega) rfl ?_
  simp only [go_sem, ↓reduceIte, Nat.reduceAdd, Nat.reduceSub, Nat.reduceMul, Nat.reduceLT, Nat.reduceLeDiff, Nat.reduceEqDiff, Int.reduceLT, Int.reduceLE, Int.reduceEq, Nat.reduceBEq, reduceCtorEq, reduceCtorEq, true_and]
  refine awp_loop (fun s m => ∃ k : Nat, k ≤ l.length ∧ m = l.length - k ∧ s.n = 1 ∧ s.sl 0 = .p false [.d (.sl t 3 (l.map encIt))] ∧ s.sl 4 = .p false [.d (.sc (.int .i64 k))] ∧ s.sl 3 = .p false [.own 0 0] ∧ s.ob 0 = .row 0 41 3 (fillL (l.map encIt) k it0c) true) l.length ?_ ?_
  · exact ⟨0, Nat.zero_le _, rfl, rfl, rfl, rfl, rfl, by rw [fillL_zero, List.length_map]; rfl⟩
  · rintro s m ⟨k, hk, rfl, hn0, g0, g4, g3, o0⟩
    by_cases hlt : k < l.length
    · have hx := List.getElem?_eq_getElem hlt
      generalize l[k] = x at hx
      have hd : decide ((k : Int) < (l.length : Int)) = true := by simpa using hlt
      have hw2 : IntKind.i64.wrap ((k : Int) + 1) = (k + 1 : Nat) := wrapN (k + 1) (by omega)
      have hst := fillL_set (z := it0c) (show (l.map encIt)[k]? = some (encIt x) from by rw [List.getElem?_map, hx]; rfl)
      have hlen : (fillL (l.map encIt) k it0c).length = l.length := by rw [fillL_len (by simpa using hk), List.length_map]
      have hget : (fillL (l.map encIt) k it0c)[k]? = some it0c := fillL_get (by simpa using hlt)
      simp only [go_sem, ↓reduceIte, Nat.reduceAdd, Nat.reduceSub, Nat.reduceMul, Nat.reduceLT, Nat.reduceLeDiff, Nat.reduceEqDiff, Int.reduceLT, Int.reduceLE, Int.reduceEq, Nat.reduceBEq, reduceCtorEq, reduceCtorEq, g0, g4, g3, hn0, List.length_map, hd, List.getElem?_map, hx, Option.map_some, encIt]
      refine astep_call rfl (toItem_m x) rfl rfl (by simp only [go_sem, ↓reduceIte, Nat.reduceAdd, Nat.reduceSub, Nat.reduceMul, Nat.reduceLT, Nat.reduceLeDiff, Nat.reduceEqDiff, Int.reduceLT, Int.reduceLE, Int.reduceEq, Nat.reduceBEq, reduceCtorEq, reduceCtorEq, encIt]) ?_
      simp only [go_sem, ↓reduceIte, Nat.reduceAdd, Nat.reduceSub, Nat.reduceMul, Nat.reduceLT, Nat.reduceLeDiff, Nat.reduceEqDiff, Int.reduceLT, Int.reduceLE, Int.reduceEq, Nat.reduceBEq, reduceCtorEq, reduceCtorEq, encIt, o0, g4, hlen, hlt]
      refine astep_row (i := 0) (st := 0) (k := 3) (j := k) (off := 0) (es := fillL (l.map encIt) k it0c) (e := it0c) (ds := encIt x) (t' := 41) (xs := (encIt x).map .d) rfl rfl rfl (by simp only [go_sem, ↓reduceIte, Nat.reduceAdd, Nat.reduceSub, Nat.reduceMul, Nat.reduceLT, Nat.reduceLeDiff, Nat.reduceEqDiff, Int.reduceLT, Int.reduceLE, Int.reduceEq, Nat.reduceBEq, reduceCtorEq, reduceCtorEq, o0]) hget (by simp only [go_sem, ↓reduceIte, Nat.reduceAdd, Nat.reduceSub, Nat.reduceMul, Nat.reduceLT, Nat.reduceLeDiff, Nat.reduceEqDiff, Int.reduceLT, Int.reduceLE, Int.reduceEq, Nat.reduceBEq, reduceCtorEq, reduceCtorEq, encIt]) tsz_41 (Nat.le_refl _) (Gives.ofFlat rfl (encIt_flat x)) (by simp only [go_sem, ↓reduceIte, Nat.reduceAdd, Nat.reduceSub, Nat.reduceMul, Nat.reduceLT, Nat.reduceLeDiff, Nat.reduceEqDiff, Int.reduceLT, Int.reduceLE, Int.reduceEq, Nat.reduceBEq, reduceCtorEq, reduceCtorEq, o0]) ?_
      rw [show plug 0 (encIt x) it0c = encIt x from rfl, hst]
      simp only [go_sem, ↓reduceIte, Nat.reduceAdd, Nat.reduceSub, Nat.reduceMul, Nat.reduceLT, Nat.reduceLeDiff, Nat.reduceEqDiff, Int.reduceLT, Int.reduceLE, Int.reduceEq, Nat.reduceBEq, reduceCtorEq, reduceCtorEq, g4, hw2]
      exact ⟨1, l.length - (k + 1), by omega, by omega, k + 1, by omega, rfl, rfl, g0, rfl, g3, rfl⟩
    · have hd : decide ((k : Int) < (l.length : Int)) = false := by simpa using hlt
      obtain rfl : k = l.length := by omega
      rw [show fillL (l.map encIt) l.length it0c = l.map encIt from by have := fillL_end (l.map encIt) it0c; rwa [List.length_map] at this] at o0
      simp only [go_sem, ↓reduceIte, Nat.reduceAdd, Nat.reduceSub, Nat.reduceMul, Nat.reduceLT, Nat.reduceLeDiff, Nat.reduceEqDiff, Int.reduceLT, Int.reduceLE, Int.reduceEq, Nat.reduceBEq, reduceCtorEq, reduceCtorEq, g0, g4, g3, hn0, List.length_map, hd, encIts]
      refine Or.inl ?_; repeat' (first | exact gives_nil | exact trivial | with_reducible apply gives_sc | with_reducible apply gives_nilS (by decide) | with_reducible apply gives_own | with_reducible apply Exists.intro | with_reducible apply And.intro | (show (_ : Option Ob) = _; simp only [go_sem, ↓reduceIte, Nat.reduceAdd, Nat.reduceSub, Nat.reduceMul, Nat.reduceLT, Nat.reduceLeDiff, Nat.reduceEqDiff, Int.reduceLT, Int.reduceLE, Int.reduceEq, Nat.reduceBEq, reduceCtorEq, reduceCtorEq, o0]))

theorem eqItem_m (x : It) : Meets Try.prog 29 [(true, encIt x), (true, encIt x)] [(false, [.sc (.bool true)], true)] := by
  refine meets_of Try.func29 rfl (by kernel_rfl) (by simp) Try.ntmps29 (congrArg Array.toList Try.results29) ?_
  simp only [go_sem, ↓reduceIte, Nat.reduceAdd, Nat.reduceSub, Nat.reduceMul, Nat.reduceLT, Nat.reduceLeDiff, Nat.reduceEqDiff, Int.reduceLT, Int.reduceLE, Int.reduceEq, Nat.reduceBEq, reduceCtorEq, reduceCtorEq, encIt]
  refine Or.inl ?_; repeat' (first | exact gives_nil | exact trivial | with_reducible apply gives_sc | with_reducible apply gives_nilS (by decide) | with_reducible apply gives_own | with_reducible apply Exists.intro | with_reducible apply And.intro | (show (_ : Option Ob) = _; simp only [go_sem, ↓reduceIte, Nat.reduceAdd, Nat.reduceSub, Nat.reduceMul, Nat.reduceLT, Nat.reduceLeDiff, Nat.reduceEqDiff, Int.reduceLT, Int.reduceLE, Int.reduceEq, Nat.reduceBEq, reduceCtorEq, reduceCtorEq, true_and]))

theorem eqItemS_m (l : List It) (hn : l.length ≤ 4611686018427387903) : Meets Try.prog 40 [(false, [encIts l]), (false, [encIts l])] [(false, [.sc (.bool true)], true)] := by
  refine meets_of Try.func40 rfl (by kernel_rfl) (by simp) Try.ntmps40 (congrArg Array.toList Try.results40) ?_
  simp only [go_sem, ↓reduceIte, Nat.reduceAdd, Nat.reduceSub, Nat.reduceMul, Nat.reduceLT, Nat.reduceLeDiff, Nat.reduceEqDiff, Int.reduceLT, Int.reduceLE, Int.reduceEq, Nat.reduceBEq, reduceCtorEq, reduceCtorEq, encIts, List.length_map]
  refine awp_loop (fun s m => ∃ k : Nat, k ≤ l.length ∧ m = l.length - k ∧ s.n = 0 ∧ s.sl 0 = .p false [.d (encIts l)] ∧ s.sl 1 = .p false [.d (encIts l)] ∧ s.sl 5 = .p false [.d (.sc (.int .i64 k))]) l.length ?_ ?_
  · exact ⟨0, Nat.zero_le _, rfl, rfl, rfl, rfl, rfl⟩
  · rintro s m ⟨k, hk, rfl, hn0, g0, g1, g5⟩
    by_cases hlt : k < l.length
    · have hx := List.getElem?_eq_getElem hlt
      generalize l[k] = x at hx
      have hd : decide ((k : Int) < (l.length : Int)) = true := by simpa using hlt
      have hw2 : IntKind.i64.wrap ((k : Int) + 1) = (k + 1 : Nat) := wrapN (k + 1) (by omega)
      simp only [go_sem, ↓reduceIte, Nat.reduceAdd, Nat.reduceSub, Nat.reduceMul, Nat.reduceLT, Nat.reduceLeDiff, Nat.reduceEqDiff, Int.reduceLT, Int.reduceLE, Int.reduceEq, Nat.reduceBEq, reduceCtorEq, reduceCtorEq, g0, g1, g5, hn0, encIts, List.length_map, hd]
      refine awp_drawn (n := 10) true (by kernel_rfl) (by kernel_rfl) ?_
      simp only [go_sem, ↓reduceIte, Nat.reduceAdd, Nat.reduceSub, Nat.reduceMul, Nat.reduceLT, Nat.reduceLeDiff, Nat.reduceEqDiff, Int.reduceLT, Int.reduceLE, Int.reduceEq, Nat.reduceBEq, reduceCtorEq, reduceCtorEq, g0, g1, g5, hn0, encIts, List.getElem?_map, hx, Option.map_some, encIt]
      refine hcall rfl (eqItem_m x) rfl (by simp only [go_sem, ↓reduceIte, Nat.reduceAdd, Nat.reduceSub, Nat.reduceMul, Nat.reduceLT, Nat.reduceLeDiff, Nat.reduceEqDiff, Int.reduceLT, Int.reduceLE, Int.reduceEq, Nat.reduceBEq, reduceCtorEq, reduceCtorEq, encIt]) (fun _ => rfl) ?_
      simp only [go_sem, ↓reduceIte, Nat.reduceAdd, Nat.reduceSub, Nat.reduceMul, Nat.reduceLT, Nat.reduceLeDiff, Nat.reduceEqDiff, Int.reduceLT, Int.reduceLE, Int.reduceEq, Nat.reduceBEq, reduceCtorEq, reduceCtorEq, g5, hw2, hn0]
      exact ⟨0, l.length - (k + 1), by omega, by omega, k + 1, by omega, rfl, rfl, g0, g1, rfl⟩
    · have hd : decide ((k : Int) < (l.length : Int)) = false := by simpa using hlt
      simp only [go_sem, ↓reduceIte, Nat.reduceAdd, Nat.reduceSub, Nat.reduceMul, Nat.reduceLT, Nat.reduceLeDiff, Nat.reduceEqDiff, Int.reduceLT, Int.reduceLE, Int.reduceEq, Nat.reduceBEq, reduceCtorEq, reduceCtorEq, g0, g1, g5, hn0, encIts, List.length_map, hd]
      refine Or.inl ?_; repeat' (first | exact gives_nil | exact trivial | with_reducible apply gives_sc | with_reducible apply gives_nilS (by decide) | with_reducible apply gives_own | with_reducible apply Exists.intro | with_reducible apply And.intro | (show (_ : Option Ob) = _; simp only [go_sem, ↓reduceIte, Nat.reduceAdd, Nat.reduceSub, Nat.reduceMul, Nat.reduceLT, Nat.reduceLeDiff, Nat.reduceEqDiff, Int.reduceLT, Int.reduceLE, Int.reduceEq, Nat.reduceBEq, reduceCtorEq, reduceCtorEq, true_and]))

theorem markText_m (k : Nat) (h0 : 0 < k) (h1 : k ≤ 4611686018427387904) : Meets Try.prog 90 [(false, [.sc (.int .i64 k)])] [(false, [.sc (.string (markT k))], true)] :=
  meets_sc [(false, [.int .i64 k])] (false, [.string (markT k)]) (by kernel_rfl) (by simp) (by simp [Sc]) (by simp) (fun w => markText_any k w h0 h1)

theorem heldItemS_m (k0 n : Nat) (h0 : 0 < k0) (h1 : k0 + 3 * n ≤ 4611686018427387904) : Meets Try.prog 42 [(false, [encIts (marksIt k0 n)]), (false, [.sc (.int .i64 k0)])] [(false, [.sc (.int .i64 ((k0 + 3 * n : Nat) : Int))], true)] := by
  have hl := marksIt_len k0 n
  refine meets_of Try.func42 rfl (by kernel_rfl) (by simp) Try.ntmps42 (congrArg Array.toList Try.results42) ?_
  simp only [go_sem, ↓reduceIte, Nat.reduceAdd, Nat.reduceSub, Nat.reduceMul, Nat.reduceLT, Nat.reduceLeDiff, Nat.reduceEqDiff, Int.reduceLT, Int.reduceLE, Int.reduceEq, Nat.reduceBEq, reduceCtorEq, reduceCtorEq, encIts, List.length_map]
  refine awp_loop (fun s m => ∃ k : Nat, k ≤ n ∧ m = n - k ∧ s.n = 0 ∧ s.sl 0 = .p false [.d (encIts (marksIt k0 n))] ∧ s.sl 1 = .p false [.d (.sc (.int .i64 ((k0 + 3 * k : Nat) : Int)))] ∧ s.sl 5 = .p false [.d (.sc (.int .i64 k))]) n ?_ ?_
  · exact ⟨0, Nat.zero_le _, rfl, rfl, rfl, rfl, rfl⟩
  · rintro s m ⟨k, hk, rfl, hn0, g0, g1, g5⟩
    by_cases hlt : k < n
    · have hx := marksIt_get (k := k0) hlt
      have hd : decide ((k : Int) < (n : Int)) = true := by simpa using hlt
      have hw2 : IntKind.i64.wrap ((k : Int) + 1) = (k + 1 : Nat) := wrapN (k + 1) (by omega)
      have hK : k0 + 3 * (k + 1) = k0 + 3 * k + 3 := by omega
      have hK2 : k0 + 3 * k + 3 ≤ 4611686018427387904 := by omega
      have hK1 : 0 < k0 + 3 * k + 2 := by omega
      generalize k0 + 3 * k = K at *
      have a1 : ((K : Int) + 1) = ((K + 1 : Nat) : Int) := rfl
      have a2 : (((K + 1 : Nat) : Int) + 1) = ((K + 2 : Nat) : Int) := rfl
      have a3 : (((K + 2 : Nat) : Int) + 1) = ((K + 3 : Nat) : Int) := rfl
      have e1 := wrapN (K + 1) (by omega)
      have e2 := wrapN (K + 2) (by omega)
      have e3 := wrapN (K + 3) (by omega)
      simp only [go_sem, ↓reduceIte, Nat.reduceAdd, Nat.reduceSub, Nat.reduceMul, Nat.reduceLT, Nat.reduceLeDiff, Nat.reduceEqDiff, Int.reduceLT, Int.reduceLE, Int.reduceEq, Nat.reduceBEq, reduceCtorEq, reduceCtorEq, g0, g1, g5, hn0, encIts, List.length_map, hl, hd, List.getElem?_map, hx, Option.map_some, encIt, markIt, a1, a2, e1, e2]
      refine awp_drawn (n := 8) true (by kernel_rfl) (by kernel_rfl) ?_
      simp only [go_sem, ↓reduceIte, Nat.reduceAdd, Nat.reduceSub, Nat.reduceMul, Nat.reduceLT, Nat.reduceLeDiff, Nat.reduceEqDiff, Int.reduceLT, Int.reduceLE, Int.reduceEq, Nat.reduceBEq, reduceCtorEq, reduceCtorEq, g0, g5, encIts, List.getElem?_map, hx, Option.map_some, encIt, markIt]
      refine hcall rfl (markText_m (K + 2) (by omega) (by omega)) rfl (by simp only [go_sem, ↓reduceIte, Nat.reduceAdd, Nat.reduceSub, Nat.reduceMul, Nat.reduceLT, Nat.reduceLeDiff, Nat.reduceEqDiff, Int.reduceLT, Int.reduceLE, Int.reduceEq, Nat.reduceBEq, reduceCtorEq, reduceCtorEq, true_and]) (fun _ => rfl) ?_
      simp only [go_sem, ↓reduceIte, Nat.reduceAdd, Nat.reduceSub, Nat.reduceMul, Nat.reduceLT, Nat.reduceLeDiff, Nat.reduceEqDiff, Int.reduceLT, Int.reduceLE, Int.reduceEq, Nat.reduceBEq, reduceCtorEq, reduceCtorEq, g5, hw2, a3, e3, hn0]
      exact ⟨0, n - (k + 1), by omega, by omega, k + 1, by omega, rfl, rfl, g0, by rw [hK], rfl⟩
    · have hd : decide ((k : Int) < (n : Int)) = false := by simpa using hlt
      obtain rfl : k = n := by omega
      simp only [go_sem, ↓reduceIte, Nat.reduceAdd, Nat.reduceSub, Nat.reduceMul, Nat.reduceLT, Nat.reduceLeDiff, Nat.reduceEqDiff, Int.reduceLT, Int.reduceLE, Int.reduceEq, Nat.reduceBEq, reduceCtorEq, reduceCtorEq, g0, g1, g5, hn0, encIts, List.length_map, hl, hd]
      refine Or.inl ?_; repeat' (first | exact gives_nil | exact trivial | with_reducible apply gives_sc | with_reducible apply gives_nilS (by decide) | with_reducible apply gives_own | with_reducible apply Exists.intro | with_reducible apply And.intro | (show (_ : Option Ob) = _; simp only [go_sem, ↓reduceIte, Nat.reduceAdd, Nat.reduceSub, Nat.reduceMul, Nat.reduceLT, Nat.reduceLeDiff, Nat.reduceEqDiff, Int.reduceLT, Int.reduceLE, Int.reduceEq, Nat.reduceBEq, reduceCtorEq, reduceCtorEq, true_and]))
end Go.Proofs.Ytmanijpmkeheeaa
