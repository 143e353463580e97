/- spec.MultiplyMatrices. -/
import Derived.Test.YtolkglnkdfcceaaMul
namespace Go.Proofs.Ytolkglnkdfcceaa
open Go.RowKit
set_option linter.unusedVariables false
set_option linter.unusedSimpArgs false
set_option maxRecDepth 100000

def MS (a b : Mt) (es : List (List DV)) (s : AS) : Prop :=
  s.n = 5 ∧ s.sl 2 = .p false [.ptr 0 0 0] ∧ s.sl 3 = .p false [.ptr 1 1 0] ∧ s.sl 4 = .p false [.ptr 2 2 0] ∧ s.sl 6 = .p false [.ptr 4 4 0] ∧
  s.ob 0 = .var 0 28 ((encMt a).map .d) ∧ s.ob 1 = .var 1 28 ((encMt b).map .d) ∧ s.ob 2 = .var 2 28 [.d (.sc (.int .i64 0)), .d (.sc (.int .i64 0)), .nil] ∧
  s.ob 4 = .var 4 28 [.d (.sc (.int .i64 a.rows)), .d (.sc (.int .i64 b.cols)), .own 3 3] ∧ s.ob 3 = .row 3 33 3 es true

theorem set_same {α : Type} {l : List α} {i : Nat} {x : α} (h : l[i]? = some x) : l.set i x = l := by
  obtain ⟨hi, rfl⟩ := List.getElem?_eq_some_iff.1 h
  exact List.set_getElem_self hi

set_option maxHeartbeats 4000000 in
theorem specMul_m (a b : Mt) : Meets Try.prog 16 [(true, encMt a), (true, encMt b)] [(true, encMt (mulM a b), true), (false, [.sc (.bool (mulB a b))], true)] := by
  obtain ⟨r, c, la⟩ := a
  obtain ⟨r2, c2, lb⟩ := b
  refine meets_of Try.func16 rfl (by kernel_rfl) (by simp) Try.ntmps16 (congrArg Array.toList Try.results16) ?_
  simp only [go_sem, ↓reduceIte, Nat.reduceAdd, Nat.reduceSub, Nat.reduceMul, Nat.reduceLT, Nat.reduceLeDiff, Nat.reduceEqDiff, Int.reduceLT, Int.reduceLE, Int.reduceEq, Nat.reduceBEq, reduceCtorEq, reduceCtorEq, encMt, encIts]
  refine astep_call rfl (specIsMt_m ⟨r, c, la⟩) rfl rfl (by simp only [go_sem, ↓reduceIte, Nat.reduceAdd, Nat.reduceSub, Nat.reduceMul, Nat.reduceLT, Nat.reduceLeDiff, Nat.reduceEqDiff, Int.reduceLT, Int.reduceLE, Int.reduceEq, Nat.reduceBEq, reduceCtorEq, reduceCtorEq, encMt, encIts]) ?_
  cases hb1 : mtB ⟨r, c, la⟩
  · have hb : mulB ⟨r, c, la⟩ ⟨r2, c2, lb⟩ = false := by unfold mulB; rw [hb1]; rfl
    simp only [go_sem, ↓reduceIte, Nat.reduceAdd, Nat.reduceSub, Nat.reduceMul, Nat.reduceLT, Nat.reduceLeDiff, Nat.reduceEqDiff, Int.reduceLT, Int.reduceLE, Int.reduceEq, Nat.reduceBEq, reduceCtorEq, reduceCtorEq, hb, mulM_false hb, encMt, encIts]
    refine Or.inl ?_; repeat' (first | exact gives_nil | exact trivial | with_reducible apply gives_sc | with_reducible apply gives_nilS (by decide) | with_reducible apply gives_own | with_reducible apply Exists.intro | with_reducible apply And.intro | (show (_ : Option Ob) = _; simp only [go_sem, ↓reduceIte, Nat.reduceAdd, Nat.reduceSub, Nat.reduceMul, Nat.reduceLT, Nat.reduceLeDiff, Nat.reduceEqDiff, Int.reduceLT, Int.reduceLE, Int.reduceEq, Nat.reduceBEq, reduceCtorEq, reduceCtorEq, true_and]))
  simp only [go_sem, ↓reduceIte, Nat.reduceAdd, Nat.reduceSub, Nat.reduceMul, Nat.reduceLT, Nat.reduceLeDiff, Nat.reduceEqDiff, Int.reduceLT, Int.reduceLE, Int.reduceEq, Nat.reduceBEq, reduceCtorEq, reduceCtorEq, encMt, encIts]
  refine astep_call rfl (specIsMt_m ⟨r2, c2, lb⟩) rfl rfl (by simp only [go_sem, ↓reduceIte, Nat.reduceAdd, Nat.reduceSub, Nat.reduceMul, Nat.reduceLT, Nat.reduceLeDiff, Nat.reduceEqDiff, Int.reduceLT, Int.reduceLE, Int.reduceEq, Nat.reduceBEq, reduceCtorEq, reduceCtorEq, encMt, encIts]) ?_
  cases hb2 : mtB ⟨r2, c2, lb⟩
  · have hb : mulB ⟨r, c, la⟩ ⟨r2, c2, lb⟩ = false := by unfold mulB; rw [hb2, Bool.and_false]; rfl
    simp only [go_sem, ↓reduceIte, Nat.reduceAdd, Nat.reduceSub, Nat.reduceMul, Nat.reduceLT, Nat.reduceLeDiff, Nat.reduceEqDiff, Int.reduceLT, Int.reduceLE, Int.reduceEq, Nat.reduceBEq, reduceCtorEq, reduceCtorEq, hb, mulM_false hb, encMt, encIts]
    refine Or.inl ?_; repeat' (first | exact gives_nil | exact trivial | with_reducible apply gives_sc | with_reducible apply gives_nilS (by decide) | with_reducible apply gives_own | with_reducible apply Exists.intro | with_reducible apply And.intro | (show (_ : Option Ob) = _; simp only [go_sem, ↓reduceIte, Nat.reduceAdd, Nat.reduceSub, Nat.reduceMul, Nat.reduceLT, Nat.reduceLeDiff, Nat.reduceEqDiff, Int.reduceLT, Int.reduceLE, Int.reduceEq, Nat.reduceBEq, reduceCtorEq, reduceCtorEq, true_and]))
  by_cases hcr : c = r2
  rotate_left
  · have hb : mulB ⟨r, c, la⟩ ⟨r2, c2, lb⟩ = false := by unfold mulB; rw [decide_eq_false hcr, Bool.and_false]; rfl
    simp only [go_sem, ↓reduceIte, Nat.reduceAdd, Nat.reduceSub, Nat.reduceMul, Nat.reduceLT, Nat.reduceLeDiff, Nat.reduceEqDiff, Int.reduceLT, Int.reduceLE, Int.reduceEq, Nat.reduceBEq, reduceCtorEq, reduceCtorEq, hb, mulM_false hb, encMt, encIts, decide_eq_false hcr]
    refine Or.inl ?_; repeat' (first | exact gives_nil | exact trivial | with_reducible apply gives_sc | with_reducible apply gives_nilS (by decide) | with_reducible apply gives_own | with_reducible apply Exists.intro | with_reducible apply And.intro | (show (_ : Option Ob) = _; simp only [go_sem, ↓reduceIte, Nat.reduceAdd, Nat.reduceSub, Nat.reduceMul, Nat.reduceLT, Nat.reduceLeDiff, Nat.reduceEqDiff, Int.reduceLT, Int.reduceLE, Int.reduceEq, Nat.reduceBEq, reduceCtorEq, reduceCtorEq, true_and]))
  subst hcr
  obtain ⟨h1, h2, h3, h4, hq5⟩ := mtB_dims hb1
  obtain ⟨-, -, k3, k4, kq5⟩ := mtB_dims hb2
  simp only at h1 h2 h3 h4 hq5 k3 k4 kq5
  obtain ⟨R, rfl⟩ := Int.eq_ofNat_of_zero_le h1
  obtain ⟨C, rfl⟩ := Int.eq_ofNat_of_zero_le h3
  obtain ⟨K, rfl⟩ := Int.eq_ofNat_of_zero_le k3
  have hla : la.length = R * C := by exact_mod_cast hq5
  have hlb : lb.length = C * K := by exact_mod_cast kq5
  have hR : R ≤ 12 := by omega
  have hC : C ≤ 12 := by omega
  have hK : K ≤ 12 := by omega
  have hRK : R * K ≤ 12 * 12 := Nat.mul_le_mul hR hK
  have hRC : R * C ≤ 12 * 12 := Nat.mul_le_mul hR hC
  have hCK : C * K ≤ 12 * 12 := Nat.mul_le_mul hC hK
  have hbt : mulB ⟨R, C, la⟩ ⟨C, K, lb⟩ = allN (gridL K (fun i k => mulS C K la lb i k C) (R * K)) := by
    unfold mulB; rw [hb1, hb2, decide_eq_true rfl]; simp [mulL]
  have hmt : mulL ⟨R, C, la⟩ ⟨C, K, lb⟩ (R * K) = gridL K (fun i k => mulS C K la lb i k C) (R * K) := rfl
  generalize hf : (fun i k => mulS C K la lb i k C) = f at *
  generalize hgr : gridL K f (R * K) = gr at *
  have hgl : gr.length = R * K := by rw [← hgr, gridL_len]
  have hGg : ∀ (i k : Nat), i < R → k < K → (gr.map encIt)[i * K + k]? = some (encIt (mulS C K la lb i k C)) := fun i k hi hk => by
    rw [List.getElem?_map, ← hgr, gridL_get f hk (grid_lt hi hk), ← hf]; rfl
  clear hgr hf
  simp only [go_sem, ↓reduceIte, Nat.reduceAdd, Nat.reduceSub, Nat.reduceMul, Nat.reduceLT, Nat.reduceLeDiff, Nat.reduceEqDiff, Int.reduceLT, Int.reduceLE, Int.reduceEq, Nat.reduceBEq, reduceCtorEq, reduceCtorEq, encMt, encIts]
  refine astep_call rfl (l14Zero_m R K (by omega) (by omega)) rfl rfl (by simp only [go_sem, ↓reduceIte, Nat.reduceAdd, Nat.reduceSub, Nat.reduceMul, Nat.reduceLT, Nat.reduceLeDiff, Nat.reduceEqDiff, Int.reduceLT, Int.reduceLE, Int.reduceEq, Nat.reduceBEq, reduceCtorEq, reduceCtorEq, true_and]) ?_
  simp only [go_sem, ↓reduceIte, Nat.reduceAdd, Nat.reduceSub, Nat.reduceMul, Nat.reduceLT, Nat.reduceLeDiff, Nat.reduceEqDiff, Int.reduceLT, Int.reduceLE, Int.reduceEq, Nat.reduceBEq, reduceCtorEq, reduceCtorEq, encMt, encIts]
  have hGl : (gr.map encIt).length = R * K := by rw [List.length_map, hgl]
  rw [show (List.replicate (R * K) (l2N 0)).map encIt = fillL (gr.map encIt) 0 (encIt (l2N 0)) from by rw [fillL_zero, hGl, List.map_replicate]]
  generalize hGd : gr.map encIt = G at *
  generalize hz : encIt (l2N 0) = z
  have hz0 : ∀ i k, encIt (mulS C K la lb i k 0) = z := fun i k => hz
  clear hz
  refine awp_loop (fun s m => ∃ i : Nat, i ≤ R ∧ m = R - i ∧ s.sl 7 = .p false [.d (.sc (.int .i64 i))] ∧ MS ⟨R, C, la⟩ ⟨C, K, lb⟩ (fillL G (i * K) z) s) R ?_ ?_
  · exact ⟨0, Nat.zero_le _, rfl, rfl, rfl, rfl, rfl, rfl, rfl, rfl, rfl, rfl, rfl, by rw [Nat.zero_mul]; rfl⟩
  · rintro s m ⟨i, hi, rfl, g7, hn, g2, g3, g4, g6, o0, o1, o2, o4, o3⟩
    by_cases hlt : i < R
    · have hd : decide ((i : Int) < (R : Int)) = true := decide_eq_true (by omega)
      have hw : IntKind.i64.wrap ((i : Int) + 1) = (i + 1 : Nat) := wrapN (i + 1) (by omega)
      simp only [go_sem, ↓reduceIte, Nat.reduceAdd, Nat.reduceSub, Nat.reduceMul, Nat.reduceLT, Nat.reduceLeDiff, Nat.reduceEqDiff, Int.reduceLT, Int.reduceLE, Int.reduceEq, Nat.reduceBEq, reduceCtorEq, reduceCtorEq, g2, g7, hn, o0, encMt, encIts, hd]
      refine awp_loop (fun s m => ∃ k : Nat, k ≤ K ∧ m = K - k ∧ s.sl 8 = .p false [.d (.sc (.int .i64 k))] ∧ s.sl 7 = .p false [.d (.sc (.int .i64 i))] ∧ MS ⟨R, C, la⟩ ⟨C, K, lb⟩ (fillL G (i * K + k) z) s) K ?_ ?_
      · exact ⟨0, Nat.zero_le _, rfl, rfl, g7, rfl, g2, g3, g4, g6, o0, o1, o2, o4, o3⟩
      · clear g7 hn g2 g3 g4 g6 o0 o1 o2 o3 o4
        rintro s m ⟨k, hk, rfl, g8, g7, hn, g2, g3, g4, g6, o0, o1, o2, o4, o3⟩
        by_cases hkt : k < K
        · have hd : decide ((k : Int) < (K : Int)) = true := by simpa using hkt
          have hw : IntKind.i64.wrap ((k : Int) + 1) = (k + 1 : Nat) := wrapN (k + 1) (by omega)
          have hbd := grid_lt hlt hkt
          have hwp : IntKind.i64.wrap ((i : Int) * (K : Int)) = (i * K : Nat) := by rw [show (i : Int) * (K : Int) = (i * K : Nat) by push_cast; rfl]; exact wrapN _ (by omega)
          have hwq : IntKind.i64.wrap (((i * K : Nat) : Int) + (k : Int)) = (i * K + k : Nat) := by rw [show ((i * K : Nat) : Int) + (k : Int) = (i * K + k : Nat) by push_cast; rfl]; exact wrapN _ (by omega)
          have hst := fillL_set (z := z) (hGg i k hlt hkt)
          have hlen : (fillL G (i * K + k) z).length = R * K := by rw [fillL_len (by omega), hGl]
          have hget : (fillL G (i * K + k) z)[i * K + k]? = some z := fillL_get (by omega)
          generalize fillL G (i * K + k) z = E at *
          simp only [go_sem, ↓reduceIte, Nat.reduceAdd, Nat.reduceSub, Nat.reduceMul, Nat.reduceLT, Nat.reduceLeDiff, Nat.reduceEqDiff, Int.reduceLT, Int.reduceLE, Int.reduceEq, Nat.reduceBEq, reduceCtorEq, reduceCtorEq, g3, g8, hn, hd, o1, encMt, encIts]
          refine awp_loop (fun s m => ∃ j : Nat, j ≤ C ∧ m = C - j ∧ s.sl 9 = .p false [.d (.sc (.int .i64 j))] ∧ s.sl 8 = .p false [.d (.sc (.int .i64 k))] ∧ s.sl 7 = .p false [.d (.sc (.int .i64 i))] ∧ MS ⟨R, C, la⟩ ⟨C, K, lb⟩ (E.set (i * K + k) (encIt (mulS C K la lb i k j))) s) C ?_ ?_
          · exact ⟨0, Nat.zero_le _, rfl, rfl, g8, g7, rfl, g2, g3, g4, g6, o0, o1, o2, o4, by rw [hz0, set_same hget]; exact o3⟩
          · clear g8 g7 hn g2 g3 g4 g6 o0 o1 o2 o3 o4
            rintro s m ⟨j, hj, rfl, g9, g8, g7, hn, g2, g3, g4, g6, o0, o1, o2, o4, o3⟩
            by_cases hjt : j < C
            · have hd : decide ((j : Int) < (C : Int)) = true := by simpa using hjt
              have hwj : IntKind.i64.wrap ((j : Int) + 1) = (j + 1 : Nat) := wrapN (j + 1) (by omega)
              have hxa := cel_get hla hlt hjt
              have hxb := cel_get hlb hjt hkt
              have hba := grid_lt hlt hjt
              have hbb := grid_lt hjt hkt
              have hwp2 : IntKind.i64.wrap ((i : Int) * (C : Int)) = (i * C : Nat) := by rw [show (i : Int) * (C : Int) = (i * C : Nat) by push_cast; rfl]; exact wrapN _ (by omega)
              have hwq2 : IntKind.i64.wrap (((i * C : Nat) : Int) + (j : Int)) = (i * C + j : Nat) := by rw [show ((i * C : Nat) : Int) + (j : Int) = (i * C + j : Nat) by push_cast; rfl]; exact wrapN _ (by omega)
              have hwp3 : IntKind.i64.wrap ((j : Int) * (K : Int)) = (j * K : Nat) := by rw [show (j : Int) * (K : Int) = (j * K : Nat) by push_cast; rfl]; exact wrapN _ (by omega)
              have hwq3 : IntKind.i64.wrap (((j * K : Nat) : Int) + (k : Int)) = (j * K + k : Nat) := by rw [show ((j * K : Nat) : Int) + (k : Int) = (j * K + k : Nat) by push_cast; rfl]; exact wrapN _ (by omega)
              have hms : mulS C K la lb i k (j + 1) = addN (mulS C K la lb i k j) (mulN (cel C la i j) (cel K lb j k)) := rfl
              generalize hy1 : mulS C K la lb i k (j + 1) = y' at *
              generalize mulS C K la lb i k j = y at *
              generalize cel C la i j = xa at *
              generalize cel K lb j k = xb at *
              generalize hp : i * K + k = p at *
              have hgE : (E.set p (encIt y))[p]? = some (encIt y) := by rw [List.getElem?_set_self (by omega)]
              have hlE : (E.set p (encIt y)).length = R * K := by rw [List.length_set, hlen]
              have hsE : (E.set p (encIt y)).set p (encIt y') = E.set p (encIt y') := List.set_set ..
              generalize E.set p (encIt y) = E1 at *
              simp only [go_sem, ↓reduceIte, Nat.reduceAdd, Nat.reduceSub, Nat.reduceMul, Nat.reduceLT, Nat.reduceLeDiff, Nat.reduceEqDiff, Int.reduceLT, Int.reduceLE, Int.reduceEq, Nat.reduceBEq, reduceCtorEq, reduceCtorEq, g2, g9, hn, hd, o0, encMt, encIts]
              refine awp_drawn (n := 40) false (by kernel_rfl) (by kernel_rfl) ?_
              simp only [go_sem, ↓reduceIte, Nat.reduceAdd, Nat.reduceSub, Nat.reduceMul, Nat.reduceLT, Nat.reduceLeDiff, Nat.reduceEqDiff, Int.reduceLT, Int.reduceLE, Int.reduceEq, Nat.reduceBEq, reduceCtorEq, reduceCtorEq, g2, g3, g6, g7, g8, g9, hn, o0, o1, o3, o4, encMt, encIts, hwp, hwq, hwp2, hwq2, hwp3, hwq3, hlE, hbd, hgE, List.getElem?_map, hxa, hxb, Option.map_some, encIt]
              refine hcall rfl (mSpecMul xa xb) rfl (by simp only [go_sem, ↓reduceIte, Nat.reduceAdd, Nat.reduceSub, Nat.reduceMul, Nat.reduceLT, Nat.reduceLeDiff, Nat.reduceEqDiff, Int.reduceLT, Int.reduceLE, Int.reduceEq, Nat.reduceBEq, reduceCtorEq, reduceCtorEq, encIt]) (by simp) ?_
              simp only [go_sem, ↓reduceIte, Nat.reduceAdd, Nat.reduceSub, Nat.reduceMul, Nat.reduceLT, Nat.reduceLeDiff, Nat.reduceEqDiff, Int.reduceLT, Int.reduceLE, Int.reduceEq, Nat.reduceBEq, reduceCtorEq, reduceCtorEq, encIt]
              refine hcall rfl (mSpecAdd y (mulN xa xb)) rfl (by simp only [go_sem, ↓reduceIte, Nat.reduceAdd, Nat.reduceSub, Nat.reduceMul, Nat.reduceLT, Nat.reduceLeDiff, Nat.reduceEqDiff, Int.reduceLT, Int.reduceLE, Int.reduceEq, Nat.reduceBEq, reduceCtorEq, reduceCtorEq, encIt]) (by simp) ?_
              rw [← hms]
              simp only [go_sem, ↓reduceIte, Nat.reduceAdd, Nat.reduceSub, Nat.reduceMul, Nat.reduceLT, Nat.reduceLeDiff, Nat.reduceEqDiff, Int.reduceLT, Int.reduceLE, Int.reduceEq, Nat.reduceBEq, reduceCtorEq, reduceCtorEq, encIt, o3, o4, hlE, hbd, hn]
              refine astep_row (i := 3) (st := 3) (k := 3) (j := p) (off := 0) (es := E1) (e := encIt y) (ds := encIt y') (t' := 33) (xs := (encIt y').map .d) rfl rfl rfl (by simp only [go_sem, ↓reduceIte, Nat.reduceAdd, Nat.reduceSub, Nat.reduceMul, Nat.reduceLT, Nat.reduceLeDiff, Nat.reduceEqDiff, Int.reduceLT, Int.reduceLE, Int.reduceEq, Nat.reduceBEq, reduceCtorEq, reduceCtorEq, o3]) hgE (by simp only [go_sem, ↓reduceIte, Nat.reduceAdd, Nat.reduceSub, Nat.reduceMul, Nat.reduceLT, Nat.reduceLeDiff, Nat.reduceEqDiff, Int.reduceLT, Int.reduceLE, Int.reduceEq, Nat.reduceBEq, reduceCtorEq, reduceCtorEq, encIt]) tsz_33 (Nat.le_refl _) (Gives.ofFlat rfl (encIt_flat _)) (by simp only [go_sem, ↓reduceIte, Nat.reduceAdd, Nat.reduceSub, Nat.reduceMul, Nat.reduceLT, Nat.reduceLeDiff, Nat.reduceEqDiff, Int.reduceLT, Int.reduceLE, Int.reduceEq, Nat.reduceBEq, reduceCtorEq, reduceCtorEq, o3]) ?_
              rw [show plug 0 (encIt y') (encIt y) = encIt y' from rfl, hsE]
              simp only [go_sem, ↓reduceIte, Nat.reduceAdd, Nat.reduceSub, Nat.reduceMul, Nat.reduceLT, Nat.reduceLeDiff, Nat.reduceEqDiff, Int.reduceLT, Int.reduceLE, Int.reduceEq, Nat.reduceBEq, reduceCtorEq, reduceCtorEq, g9, hwj]
              exact ⟨5, C - (j + 1), by omega, by omega, j + 1, by omega, rfl, rfl, g8, g7, rfl, g2, g3, g4, g6, o0, o1, o2, o4, by rw [hy1]; rfl⟩
            · obtain rfl : j = C := by omega
              have hd : decide ((j : Int) < (j : Int)) = false := by simp
              rw [hst] at o3
              simp only [go_sem, ↓reduceIte, Nat.reduceAdd, Nat.reduceSub, Nat.reduceMul, Nat.reduceLT, Nat.reduceLeDiff, Nat.reduceEqDiff, Int.reduceLT, Int.reduceLE, Int.reduceEq, Nat.reduceBEq, reduceCtorEq, reduceCtorEq, g2, g9, g8, hn, hd, hw, o0, encMt, encIts, encIt]
              exact ⟨5, K - (k + 1), by omega, by omega, k + 1, by omega, rfl, rfl, g7, rfl, g2, g3, g4, g6, o0, o1, o2, o4, o3⟩
        · obtain rfl : k = K := by omega
          have hd : decide ((k : Int) < (k : Int)) = false := by simp
          simp only [go_sem, ↓reduceIte, Nat.reduceAdd, Nat.reduceSub, Nat.reduceMul, Nat.reduceLT, Nat.reduceLeDiff, Nat.reduceEqDiff, Int.reduceLT, Int.reduceLE, Int.reduceEq, Nat.reduceBEq, reduceCtorEq, reduceCtorEq, g3, g8, g7, hn, hd, o1, encMt, encIts, hw]
          exact ⟨5, R - (i + 1), by omega, by omega, i + 1, by omega, rfl, rfl, rfl, g2, g3, g4, g6, o0, o1, o2, o4, by rw [Nat.add_mul, Nat.one_mul]; exact o3⟩
    · obtain rfl : i = R := by omega
      have hd : decide ((i : Int) < (i : Int)) = false := by simp
      have hG0 : fillL G (i * K) z = G := by rw [← hGl]; exact fillL_end G z
      rw [hG0, ← hGd] at o3
      simp only [go_sem, ↓reduceIte, Nat.reduceAdd, Nat.reduceSub, Nat.reduceMul, Nat.reduceLT, Nat.reduceLeDiff, Nat.reduceEqDiff, Int.reduceLT, Int.reduceLE, Int.reduceEq, Nat.reduceBEq, reduceCtorEq, reduceCtorEq, g2, g7, g4, g6, hn, hd, o0, o4, encMt, encIts]
      refine astep_call rfl (l14Known_m i K gr (by omega)) rfl rfl (by simp only [go_sem, ↓reduceIte, Nat.reduceAdd, Nat.reduceSub, Nat.reduceMul, Nat.reduceLT, Nat.reduceLeDiff, Nat.reduceEqDiff, Int.reduceLT, Int.reduceLE, Int.reduceEq, Nat.reduceBEq, reduceCtorEq, reduceCtorEq, encMt, encIts, o3, o4]) ?_
      cases hbb : allN gr
      · have hb : mulB ⟨i, C, la⟩ ⟨C, K, lb⟩ = false := by rw [hbt, hbb]
        simp only [go_sem, ↓reduceIte, Nat.reduceAdd, Nat.reduceSub, Nat.reduceMul, Nat.reduceLT, Nat.reduceLeDiff, Nat.reduceEqDiff, Int.reduceLT, Int.reduceLE, Int.reduceEq, Nat.reduceBEq, reduceCtorEq, reduceCtorEq, hbb, hb, mulM_false hb, g4, g6, hn, o2, encMt, encIts]
        refine Or.inl ?_; repeat' (first | exact gives_nil | exact trivial | with_reducible apply gives_sc | with_reducible apply gives_nilS (by decide) | with_reducible apply gives_own | with_reducible apply Exists.intro | with_reducible apply And.intro | (show (_ : Option Ob) = _; simp only [go_sem, ↓reduceIte, Nat.reduceAdd, Nat.reduceSub, Nat.reduceMul, Nat.reduceLT, Nat.reduceLeDiff, Nat.reduceEqDiff, Int.reduceLT, Int.reduceLE, Int.reduceEq, Nat.reduceBEq, reduceCtorEq, reduceCtorEq, true_and]))
      · have hb : mulB ⟨i, C, la⟩ ⟨C, K, lb⟩ = true := by rw [hbt, hbb]
        simp only [go_sem, ↓reduceIte, Nat.reduceAdd, Nat.reduceSub, Nat.reduceMul, Nat.reduceLT, Nat.reduceLeDiff, Nat.reduceEqDiff, Int.reduceLT, Int.reduceLE, Int.reduceEq, Nat.reduceBEq, reduceCtorEq, reduceCtorEq, hbb, hb, mulM_true hb, hmt, g4, g6, hn, o2, o3, o4, encMt, encIts]
        refine Or.inl ?_; repeat' (first | exact gives_nil | exact trivial | with_reducible apply gives_sc | with_reducible apply gives_nilS (by decide) | with_reducible apply gives_own | with_reducible apply Exists.intro | with_reducible apply And.intro | (show (_ : Option Ob) = _; simp only [go_sem, ↓reduceIte, Nat.reduceAdd, Nat.reduceSub, Nat.reduceMul, Nat.reduceLT, Nat.reduceLeDiff, Nat.reduceEqDiff, Int.reduceLT, Int.reduceLE, Int.reduceEq, Nat.reduceBEq, reduceCtorEq, reduceCtorEq, o3]))
theorem mulM_len (a b : Mt) : (mulM a b).cells.length ≤ 144 := by
  cases h : mulB a b
  · rw [mulM_false h]; simp
  · rw [mulM_true h]
    unfold mulB at h
    simp only [Bool.and_eq_true] at h
    obtain ⟨h1, h2, h3, h4, -⟩ := mtB_dims h.1.1.1
    obtain ⟨k1, k2, k3, k4, -⟩ := mtB_dims h.1.1.2
    simp only [mulL, gridL_len]
    have : a.rows.toNat * b.cols.toNat ≤ 12 * 12 := Nat.mul_le_mul (by omega) (by omega)
    omega

end Go.Proofs.Ytolkglnkdfcceaa
