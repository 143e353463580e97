/- laws.szMatrix, toMatrix, eqMatrix, heldMatrix, markItemS, markMatrix; arguments of type laws.Matrix. -/
import Derived.Test.YtmanijpmkeheeaaMatC
import Derived.Test.YtmanijpmkeheeaaGB
import Derived.Test.YtmanijpmkeheeaaItemOpen
namespace Go.Proofs.Ytmanijpmkeheeaa
open Go.RowKit Go.ChangeShapes Go.WideShapes Go.Deep
set_option linter.unusedVariables false
set_option linter.unusedSimpArgs false
set_option maxRecDepth 100000

def encMtL (m : Mt) : List DV := [.sc (.int .i64 m.rows), .sc (.int .i64 m.cols), .sl 89 3 (m.cells.map encIt)]

theorem szMatrix_m (m : Mt) (left : Int) (hn : m.cells.length ≤ 9223372036854775807) (ht : ∀ x ∈ m.cells, x.text.size ≤ 9223372036854775807) (h0 : 0 ≤ left) (h1 : left ≤ 1048576) :
    Meets Try.prog 15 [(true, encMtL m), (false, [.sc (.int .i64 left)])] [(false, [.sc (.int .i64 (szF left (wtItems m.cells)))], true)] := by
  obtain ⟨r, c, l⟩ := m
  refine meets_of Try.func15 rfl (by kernel_rfl) (by simp) Try.ntmps15 (congrArg Array.toList Try.results15) ?_
  simp only [go_sem, ↓reduceIte, Nat.reduceAdd, Nat.reduceSub, Nat.reduceMul, Nat.reduceLT, Nat.reduceLeDiff, Nat.reduceEqDiff, Int.reduceLT, Int.reduceLE, Int.reduceEq, Nat.reduceBEq, reduceCtorEq, reduceCtorEq, encMtL]
  refine astep_call rfl (szItemS_m 89 l left hn ht h0 h1) rfl rfl (by simp only [go_sem, ↓reduceIte, Nat.reduceAdd, Nat.reduceSub, Nat.reduceMul, Nat.reduceLT, Nat.reduceLeDiff, Nat.reduceEqDiff, Int.reduceLT, Int.reduceLE, Int.reduceEq, Nat.reduceBEq, reduceCtorEq, reduceCtorEq, true_and]) ?_
  by_cases hc : (wtItems l : Int) ≤ left
  · have hs := szF_le hc
    have hd : decide (left - (wtItems l : Int) < 0) = false := decide_eq_false (by omega)
    simp only [go_sem, ↓reduceIte, Nat.reduceAdd, Nat.reduceSub, Nat.reduceMul, Nat.reduceLT, Nat.reduceLeDiff, Nat.reduceEqDiff, Int.reduceLT, Int.reduceLE, Int.reduceEq, Nat.reduceBEq, reduceCtorEq, reduceCtorEq, hs, hd]
    refine Or.inl ?_; repeat' (first | exact gives_nil | exact trivial | with_reducible apply gives_sc | with_reducible apply gives_nilS (by decide) | with_reducible apply gives_own | with_reducible apply Exists.intro | with_reducible apply And.intro | (show (_ : Option Ob) = _; simp only [go_sem, ↓reduceIte, Nat.reduceAdd, Nat.reduceSub, Nat.reduceMul, Nat.reduceLT, Nat.reduceLeDiff, Nat.reduceEqDiff, Int.reduceLT, Int.reduceLE, Int.reduceEq, Nat.reduceBEq, reduceCtorEq, reduceCtorEq, true_and]))
  · have hs := szF_gt (left := left) (wt := wtItems l) (by omega)
    simp only [go_sem, ↓reduceIte, Nat.reduceAdd, Nat.reduceSub, Nat.reduceMul, Nat.reduceLT, Nat.reduceLeDiff, Nat.reduceEqDiff, Int.reduceLT, Int.reduceLE, Int.reduceEq, Nat.reduceBEq, reduceCtorEq, reduceCtorEq, hs]
    refine Or.inl ?_; repeat' (first | exact gives_nil | exact trivial | with_reducible apply gives_sc | with_reducible apply gives_nilS (by decide) | with_reducible apply gives_own | with_reducible apply Exists.intro | with_reducible apply And.intro | (show (_ : Option Ob) = _; simp only [go_sem, ↓reduceIte, Nat.reduceAdd, Nat.reduceSub, Nat.reduceMul, Nat.reduceLT, Nat.reduceLeDiff, Nat.reduceEqDiff, Int.reduceLT, Int.reduceLE, Int.reduceEq, Nat.reduceBEq, reduceCtorEq, reduceCtorEq, true_and]))
theorem toMatrix_m (m : Mt) (hn : m.cells.length ≤ 1048576) : Meets Try.prog 17 [(true, encMtL m)] [(true, encMt m, true)] := by
  obtain ⟨r, c, l⟩ := m
  refine meets_of Try.func17 rfl (by kernel_rfl) (by simp) Try.ntmps17 (congrArg Array.toList Try.results17) ?_
  simp only [go_sem, ↓reduceIte, Nat.reduceAdd, Nat.reduceSub, Nat.reduceMul, Nat.reduceLT, Nat.reduceLeDiff, Nat.reduceEqDiff, Int.reduceLT, Int.reduceLE, Int.reduceEq, Nat.reduceBEq, reduceCtorEq, reduceCtorEq, encMtL]
  refine astep_call rfl (toItemS_m 89 l hn) rfl rfl (by simp only [go_sem, ↓reduceIte, Nat.reduceAdd, Nat.reduceSub, Nat.reduceMul, Nat.reduceLT, Nat.reduceLeDiff, Nat.reduceEqDiff, Int.reduceLT, Int.reduceLE, Int.reduceEq, Nat.reduceBEq, reduceCtorEq, reduceCtorEq, true_and]) ?_
  simp only [go_sem, ↓reduceIte, Nat.reduceAdd, Nat.reduceSub, Nat.reduceMul, Nat.reduceLT, Nat.reduceLeDiff, Nat.reduceEqDiff, Int.reduceLT, Int.reduceLE, Int.reduceEq, Nat.reduceBEq, reduceCtorEq, reduceCtorEq, encIts, encMt]
  refine Or.inl ?_; repeat' (first | exact gives_nil | exact trivial | with_reducible apply gives_sc | with_reducible apply gives_nilS (by decide) | with_reducible apply gives_own | with_reducible apply Exists.intro | with_reducible apply And.intro | (show (_ : Option Ob) = _; simp only [go_sem, ↓reduceIte, Nat.reduceAdd, Nat.reduceSub, Nat.reduceMul, Nat.reduceLT, Nat.reduceLeDiff, Nat.reduceEqDiff, Int.reduceLT, Int.reduceLE, Int.reduceEq, Nat.reduceBEq, reduceCtorEq, reduceCtorEq, true_and]))
theorem eqMatrix_m (m : Mt) (hn : m.cells.length ≤ 4611686018427387903) : Meets Try.prog 19 [(true, encMt m), (true, encMt m)] [(false, [.sc (.bool true)], true)] := by
  obtain ⟨r, c, l⟩ := m
  refine meets_of Try.func19 rfl (by kernel_rfl) (by simp) Try.ntmps19 (congrArg Array.toList Try.results19) ?_
  simp only [go_sem, ↓reduceIte, Nat.reduceAdd, Nat.reduceSub, Nat.reduceMul, Nat.reduceLT, Nat.reduceLeDiff, Nat.reduceEqDiff, Int.reduceLT, Int.reduceLE, Int.reduceEq, Nat.reduceBEq, reduceCtorEq, reduceCtorEq, encMt, encIts]
  refine astep_call rfl (eqItemS_m l hn) rfl rfl (by simp only [go_sem, ↓reduceIte, Nat.reduceAdd, Nat.reduceSub, Nat.reduceMul, Nat.reduceLT, Nat.reduceLeDiff, Nat.reduceEqDiff, Int.reduceLT, Int.reduceLE, Int.reduceEq, Nat.reduceBEq, reduceCtorEq, reduceCtorEq, encIts]) ?_
  simp only [go_sem, ↓reduceIte, Nat.reduceAdd, Nat.reduceSub, Nat.reduceMul, Nat.reduceLT, Nat.reduceLeDiff, Nat.reduceEqDiff, Int.reduceLT, Int.reduceLE, Int.reduceEq, Nat.reduceBEq, reduceCtorEq, reduceCtorEq, true_and]
  refine Or.inl ?_; repeat' (first | exact gives_nil | exact trivial | with_reducible apply gives_sc | with_reducible apply gives_nilS (by decide) | with_reducible apply gives_own | with_reducible apply Exists.intro | with_reducible apply And.intro | (show (_ : Option Ob) = _; simp only [go_sem, ↓reduceIte, Nat.reduceAdd, Nat.reduceSub, Nat.reduceMul, Nat.reduceLT, Nat.reduceLeDiff, Nat.reduceEqDiff, Int.reduceLT, Int.reduceLE, Int.reduceEq, Nat.reduceBEq, reduceCtorEq, reduceCtorEq, true_and]))
theorem heldMatrix_m (r c : Int) (k0 n : Nat) (h0 : 0 < k0) (h1 : k0 + 3 * n ≤ 4611686018427387904) : Meets Try.prog 23 [(true, encMt ⟨r, c, marksIt k0 n⟩), (false, [.sc (.int .i64 k0)])] [(false, [.sc (.int .i64 ((k0 + 3 * n : Nat) : Int))], true)] := by
  have hd : decide (((k0 + 3 * n : Nat) : Int) < 0) = false := decide_eq_false (by omega)
  refine meets_of Try.func23 rfl (by kernel_rfl) (by simp) Try.ntmps23 (congrArg Array.toList Try.results23) ?_
  simp only [go_sem, ↓reduceIte, Nat.reduceAdd, Nat.reduceSub, Nat.reduceMul, Nat.reduceLT, Nat.reduceLeDiff, Nat.reduceEqDiff, Int.reduceLT, Int.reduceLE, Int.reduceEq, Nat.reduceBEq, reduceCtorEq, reduceCtorEq, encMt, encIts]
  refine astep_call rfl (heldItemS_m k0 n h0 h1) rfl rfl (by simp only [go_sem, ↓reduceIte, Nat.reduceAdd, Nat.reduceSub, Nat.reduceMul, Nat.reduceLT, Nat.reduceLeDiff, Nat.reduceEqDiff, Int.reduceLT, Int.reduceLE, Int.reduceEq, Nat.reduceBEq, reduceCtorEq, reduceCtorEq, encIts]) ?_
  simp only [go_sem, ↓reduceIte, Nat.reduceAdd, Nat.reduceSub, Nat.reduceMul, Nat.reduceLT, Nat.reduceLeDiff, Nat.reduceEqDiff, Int.reduceLT, Int.reduceLE, Int.reduceEq, Nat.reduceBEq, reduceCtorEq, reduceCtorEq, hd]
  refine Or.inl ?_; repeat' (first | exact gives_nil | exact trivial | with_reducible apply gives_sc | with_reducible apply gives_nilS (by decide) | with_reducible apply gives_own | with_reducible apply Exists.intro | with_reducible apply And.intro | (show (_ : Option Ob) = _; simp only [go_sem, ↓reduceIte, Nat.reduceAdd, Nat.reduceSub, Nat.reduceMul, Nat.reduceLT, Nat.reduceLeDiff, Nat.reduceEqDiff, Int.reduceLT, Int.reduceLE, Int.reduceEq, Nat.reduceBEq, reduceCtorEq, reduceCtorEq, true_and]))

/-! ### marks -/
theorem encIts_scs (l : List It) : (l.map encIt).flatten = scs (itFlat l) := by
  induction l with
  | nil => rfl
  | cons x l ih => rw [List.map_cons, List.flatten_cons, ih]; simp [itFlat, scs, encIt, itCells]
theorem own_flat_nil {w : World} {base : Nat} {vals : List Value} {ds : List DV} {g : List Nat} (h : OwnL w base vals ds g) (hf : Flat ds) : g = [] := by
  induction h with
  | nil => rfl
  | sc _ _ ih => exact ih (fun d hd => hf d (List.mem_cons_of_mem _ hd))
  | sl => obtain ⟨v, hv⟩ := hf _ (List.mem_cons_self ..); cases hv
theorem own_its {w : World} {base : Nat} {v : Value} {l : List It} {f : List Nat} (h : OwnL w base [v] [encIts l] f) : w.ownsRow base 41 3 v l.length (itFlat l) ∧ f = v.ownBlock.toList := by
  cases h with
  | @sl _ _ _ _ cells g vs ds f' h1 h2 h3 h4 h5 h6 =>
    cases h5
    have hg := own_flat_nil h4 (encIts_flat l)
    subst hg
    have hc := h4.rep
    rw [encIts_scs] at hc
    have := rep_scs hc
    subst this
    rw [List.length_map] at h1
    exact ⟨h1, by simp⟩
theorem its_own {w : World} {base : Nat} {v : Value} {l : List It} (h : w.ownsRow base 41 3 v l.length (itFlat l)) : OwnL w base [v] [encIts l] v.ownBlock.toList := by
  have hf : OwnL w base (itFlat l) (l.map encIt).flatten [] := by
    rw [encIts_scs]
    refine own_scs fun u hu => ?_
    obtain ⟨x, _, hx⟩ := List.mem_flatMap.1 hu
    simp [itCells] at hx
    rcases hx with rfl | rfl | rfl <;> trivial
  have := OwnL.sl (t := 41) (k := 3) (es := l.map encIt) (vs := []) (ds := []) (f := []) (by rw [List.length_map]; exact h) (by decide) (by simp [encIt]) hf .nil (by cases v.ownBlock <;> simp)
  simpa [encIts] using this

theorem wrote_grown {w w' : World} {v : Value} (h : w.grownBy w' v.ownBlock) : Wrote w w' ([v.ownBlock.toList] : List (List Nat)).flatten :=
  ⟨h.os, h.tape, h.output, h.size, fun b hb hn => h.block b hb (fun e => hn (by simp [← e]))⟩

theorem markItemS_k (l : List It) (k0 : Nat) (h0 : 0 < k0) (h1 : k0 + 3 * l.length ≤ 4611686018427387904) : Marks Try.prog 41 false [encIts l] k0 [encIts (marksIt k0 l.length)] ((k0 + 3 * l.length : Nat) : Int) := by
  refine ⟨by kernel_rfl, fun w base v vals fs hv ho hnd => ?_⟩
  have hv : vals = [v] := hv
  subst hv
  obtain ⟨_, _, f, _, e, rfl, o0, ho⟩ := ownP_cons ho
  injection e with e1 e2
  subst e1 e2
  obtain ⟨-, rfl⟩ := ownP_nil ho
  obtain ⟨h2, rfl⟩ := own_its o0
  obtain ⟨A, c, rfl, -, -⟩ := own_shape h2
  refine (markItemS_any A l.length c base k0 l w h2 rfl h0 h1).mono ?_
  rintro e w' ⟨rfl, h3, h4⟩
  exact ⟨rfl, ⟨its_own (by rw [marksIt_len]; exact h3), trivial⟩, wrote_grown h4⟩

theorem markMatrix_k (r c : Int) (l : List It) (k0 : Nat) (h0 : 0 < k0) (h1 : k0 + 3 * l.length ≤ 4611686018427387904) : Marks Try.prog 21 true (encMt ⟨r, c, l⟩) k0 (encMt ⟨r, c, marksIt k0 l.length⟩) ((k0 + 3 * l.length : Nat) : Int) := by
  refine ⟨by kernel_rfl, fun w base v vals fs hv ho hnd => ?_⟩
  have hv : v = .agg vals.toArray := hv
  subst hv
  obtain ⟨v0, _, f0, _, rfl, rfl, o0, ho⟩ := ownP_cons ho
  obtain ⟨v1, _, f1, _, rfl, rfl, o1, ho⟩ := ownP_cons ho
  obtain ⟨v2, _, f2, _, rfl, rfl, o2, ho⟩ := ownP_cons ho
  obtain ⟨rfl, rfl⟩ := ownP_nil ho
  obtain ⟨rfl, -⟩ := RepL.scOf o0.rep
  obtain ⟨rfl, -⟩ := RepL.scOf o1.rep
  have e0 := own_flat_nil o0 (by intro d hd; simp at hd; exact ⟨_, hd⟩)
  have e1 := own_flat_nil o1 (by intro d hd; simp at hd; exact ⟨_, hd⟩)
  subst e0 e1
  obtain ⟨h2, rfl⟩ := own_its o2
  obtain ⟨A, cp, rfl, -, -⟩ := own_shape h2
  have HO := Lib.hid h2
  have O0 := Lib.hid o0
  have O1 := Lib.hid o1
  clear h2 o2 hnd ho o0 o1
  go_enter Try.func21, Try.ntmps21
  go_wp2_with fail
  refine (markItemS_any A l.length cp base k0 l _ (HO.out.alloc _) rfl h0 h1).mono ?_
  rintro e w1 ⟨rfl, hown, hg⟩
  have hg2 : w.grownBy w1 (Value.slice A l.length cp).ownBlock := (World.grownBy_alloc w _ _).trans hg
  clear hg
  go_wp2
  go_ret
  refine ⟨ret_i rfl, ⟨O0.out.keep (by simp), O1.out.keep (by simp), its_own (by rw [marksIt_len]; exact hown), trivial⟩, ?_⟩
  have := wrote_grown hg2
  simpa using this
end Go.Proofs.Ytmanijpmkeheeaa
