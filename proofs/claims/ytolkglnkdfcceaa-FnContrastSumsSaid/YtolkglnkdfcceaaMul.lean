/- MultiplyMatrices of both. -/
import Derived.Test.YtolkglnkdfcceaaCon2
namespace Go.Proofs.Ytolkglnkdfcceaa
open Go.RowKit
set_option linter.unusedVariables false
set_option linter.unusedSimpArgs false
set_option maxRecDepth 100000

def cel (C : Nat) (l : List It) (i j : Nat) : It := (l[i * C + j]?).getD it0
theorem cel_get {R C : Nat} {l : List It} {i j : Nat} (hl : l.length = R * C) (hi : i < R) (hj : j < C) : l[i * C + j]? = some (cel C l i j) := by
  have := grid_lt hi hj
  unfold cel
  rw [List.getElem?_eq_getElem (by omega)]; rfl

/-- a row of a times a column of b, from the left -/
def mulS (C K : Nat) (la lb : List It) (i k : Nat) : Nat → It
  | 0 => l2N 0
  | n + 1 => addN (mulS C K la lb i k n) (mulN (cel C la i n) (cel K lb n k))
def mulL (a b : Mt) (n : Nat) : List It := gridL b.cols.toNat (fun i k => mulS a.cols.toNat b.cols.toNat a.cells b.cells i k a.cols.toNat) n
def mulB (a b : Mt) : Bool := mtB a && mtB b && decide (a.cols = b.rows) && allN (mulL a b (a.rows.toNat * b.cols.toNat))
def mulM (a b : Mt) : Mt := if mulB a b = true then ⟨a.rows, b.cols, mulL a b (a.rows.toNat * b.cols.toNat)⟩ else ⟨0, 0, []⟩
theorem mulM_false {a b : Mt} (h : mulB a b = false) : mulM a b = ⟨0, 0, []⟩ := by unfold mulM; rw [if_neg (by simp [h])]
theorem mulM_true {a b : Mt} (h : mulB a b = true) : mulM a b = ⟨a.rows, b.cols, mulL a b (a.rows.toNat * b.cols.toNat)⟩ := by unfold mulM; rw [if_pos h]

def MI (a b : Mt) (l : List It) (s : AS) : Prop :=
  s.sl 2 = .p false [.ptr 0 0 0] ∧ s.sl 3 = .p false [.ptr 1 1 0] ∧ s.sl 4 = .p false [.ptr 2 2 0] ∧ s.sl 6 = .p false [.ptr 3 3 0] ∧
  s.ob 0 = .var 0 28 ((encMt a).map .d) ∧ s.ob 1 = .var 1 28 ((encMt b).map .d) ∧ s.ob 2 = .var 2 28 [.d (.sc (.int .i64 0)), .d (.sc (.int .i64 0)), .nil] ∧
  ∃ v, s.ob 3 = .var 3 28 [.d (.sc (.int .i64 a.rows)), .d (.sc (.int .i64 b.cols)), .own 4 v] ∧ s.ob 4 = .row v 33 3 (l.map encIt) true

set_option maxHeartbeats 4000000 in
theorem implMul_m (a b : Mt) : Meets Try.prog 15 [(true, encMt a), (true, encMt b)] [(true, encMt (mulM a b), true), (false, [.sc (.bool (mulB a b))], true)] := by
  obtain ⟨r, c, la⟩ := a
  obtain ⟨r2, c2, lb⟩ := b
  refine meets_of Try.func15 rfl (by kernel_rfl) (by simp) Try.ntmps15 (congrArg Array.toList Try.results15) ?_
  simp only [go_sem, ↓reduceIte, Nat.reduceAdd, Nat.reduceSub, Nat.reduceMul, Nat.reduceLT, Nat.reduceLeDiff, Nat.reduceEqDiff, Int.reduceLT, Int.reduceLE, Int.reduceEq, Nat.reduceBEq, reduceCtorEq, reduceCtorEq, encMt, encIts]
  refine astep_call rfl (isMt_m ⟨r, c, la⟩) rfl rfl (by simp only [go_sem, ↓reduceIte, Nat.reduceAdd, Nat.reduceSub, Nat.reduceMul, Nat.reduceLT, Nat.reduceLeDiff, Nat.reduceEqDiff, Int.reduceLT, Int.reduceLE, Int.reduceEq, Nat.reduceBEq, reduceCtorEq, reduceCtorEq, encMt, encIts]) ?_
  cases hb1 : mtB ⟨r, c, la⟩
  · have hb : mulB ⟨r, c, la⟩ ⟨r2, c2, lb⟩ = false := by unfold mulB; rw [hb1]; rfl
    simp only [go_sem, ↓reduceIte, Nat.reduceAdd, Nat.reduceSub, Nat.reduceMul, Nat.reduceLT, Nat.reduceLeDiff, Nat.reduceEqDiff, Int.reduceLT, Int.reduceLE, Int.reduceEq, Nat.reduceBEq, reduceCtorEq, reduceCtorEq, hb, mulM_false hb, encMt, encIts]
    refine Or.inl ?_; repeat' (first | exact gives_nil | exact trivial | with_reducible apply gives_sc | with_reducible apply gives_nilS (by decide) | with_reducible apply gives_own | with_reducible apply Exists.intro | with_reducible apply And.intro | (show (_ : Option Ob) = _; simp only [go_sem, ↓reduceIte, Nat.reduceAdd, Nat.reduceSub, Nat.reduceMul, Nat.reduceLT, Nat.reduceLeDiff, Nat.reduceEqDiff, Int.reduceLT, Int.reduceLE, Int.reduceEq, Nat.reduceBEq, reduceCtorEq, reduceCtorEq, true_and]))
  simp only [go_sem, ↓reduceIte, Nat.reduceAdd, Nat.reduceSub, Nat.reduceMul, Nat.reduceLT, Nat.reduceLeDiff, Nat.reduceEqDiff, Int.reduceLT, Int.reduceLE, Int.reduceEq, Nat.reduceBEq, reduceCtorEq, reduceCtorEq, encMt, encIts]
  refine astep_call rfl (isMt_m ⟨r2, c2, lb⟩) rfl rfl (by simp only [go_sem, ↓reduceIte, Nat.reduceAdd, Nat.reduceSub, Nat.reduceMul, Nat.reduceLT, Nat.reduceLeDiff, Nat.reduceEqDiff, Int.reduceLT, Int.reduceLE, Int.reduceEq, Nat.reduceBEq, reduceCtorEq, reduceCtorEq, encMt, encIts]) ?_
  cases hb2 : mtB ⟨r2, c2, lb⟩
  · have hb : mulB ⟨r, c, la⟩ ⟨r2, c2, lb⟩ = false := by unfold mulB; rw [hb2, Bool.and_false]; rfl
    simp only [go_sem, ↓reduceIte, Nat.reduceAdd, Nat.reduceSub, Nat.reduceMul, Nat.reduceLT, Nat.reduceLeDiff, Nat.reduceEqDiff, Int.reduceLT, Int.reduceLE, Int.reduceEq, Nat.reduceBEq, reduceCtorEq, reduceCtorEq, hb, mulM_false hb, encMt, encIts]
    refine Or.inl ?_; repeat' (first | exact gives_nil | exact trivial | with_reducible apply gives_sc | with_reducible apply gives_nilS (by decide) | with_reducible apply gives_own | with_reducible apply Exists.intro | with_reducible apply And.intro | (show (_ : Option Ob) = _; simp only [go_sem, ↓reduceIte, Nat.reduceAdd, Nat.reduceSub, Nat.reduceMul, Nat.reduceLT, Nat.reduceLeDiff, Nat.reduceEqDiff, Int.reduceLT, Int.reduceLE, Int.reduceEq, Nat.reduceBEq, reduceCtorEq, reduceCtorEq, true_and]))
  by_cases hcr : c = r2
  rotate_left
  · have hb : mulB ⟨r, c, la⟩ ⟨r2, c2, lb⟩ = false := by unfold mulB; rw [decide_eq_false hcr, Bool.and_false]; rfl
    simp only [go_sem, ↓reduceIte, Nat.reduceAdd, Nat.reduceSub, Nat.reduceMul, Nat.reduceLT, Nat.reduceLeDiff, Nat.reduceEqDiff, Int.reduceLT, Int.reduceLE, Int.reduceEq, Nat.reduceBEq, reduceCtorEq, reduceCtorEq, hb, mulM_false hb, encMt, encIts, decide_eq_false hcr]
    refine Or.inl ?_; repeat' (first | exact gives_nil | exact trivial | with_reducible apply gives_sc | with_reducible apply gives_nilS (by decide) | with_reducible apply gives_own | with_reducible apply Exists.intro | with_reducible apply And.intro | (show (_ : Option Ob) = _; simp only [go_sem, ↓reduceIte, Nat.reduceAdd, Nat.reduceSub, Nat.reduceMul, Nat.reduceLT, Nat.reduceLeDiff, Nat.reduceEqDiff, Int.reduceLT, Int.reduceLE, Int.reduceEq, Nat.reduceBEq, reduceCtorEq, reduceCtorEq, true_and]))
  subst hcr
  obtain ⟨h1, h2, h3, h4, hq5⟩ := mtB_dims hb1
  obtain ⟨-, -, k3, k4, kq5⟩ := mtB_dims hb2
  simp only at h1 h2 h3 h4 hq5 k3 k4 kq5
  obtain ⟨R, rfl⟩ := Int.eq_ofNat_of_zero_le h1
  obtain ⟨C, rfl⟩ := Int.eq_ofNat_of_zero_le h3
  obtain ⟨K, rfl⟩ := Int.eq_ofNat_of_zero_le k3
  have hla : la.length = R * C := by exact_mod_cast hq5
  have hlb : lb.length = C * K := by exact_mod_cast kq5
  have hR : R ≤ 12 := by omega
  have hC : C ≤ 12 := by omega
  have hK : K ≤ 12 := by omega
  have hRK : R * K ≤ 12 * 12 := Nat.mul_le_mul hR hK
  have hRC : R * C ≤ 12 * 12 := Nat.mul_le_mul hR hC
  have hCK : C * K ≤ 12 * 12 := Nat.mul_le_mul hC hK
  have hbt : mulB ⟨R, C, la⟩ ⟨C, K, lb⟩ = allN (gridL K (fun i k => mulS C K la lb i k C) (R * K)) := by
    unfold mulB; rw [hb1, hb2, decide_eq_true rfl]; simp [mulL]
  have hmt : mulL ⟨R, C, la⟩ ⟨C, K, lb⟩ (R * K) = gridL K (fun i k => mulS C K la lb i k C) (R * K) := rfl
  generalize hf : (fun i k => mulS C K la lb i k C) = f at *
  have hmo : mtB ⟨R, K, gridL K f (R * K)⟩ = allN (gridL K f (R * K)) := mtB_true (m := ⟨R, K, gridL K f (R * K)⟩) ⟨by simp, by simp; omega, by simp, by simp; omega, by simp [gridL_len]⟩
  simp only [go_sem, ↓reduceIte, Nat.reduceAdd, Nat.reduceSub, Nat.reduceMul, Nat.reduceLT, Nat.reduceLeDiff, Nat.reduceEqDiff, Int.reduceLT, Int.reduceLE, Int.reduceEq, Nat.reduceBEq, reduceCtorEq, reduceCtorEq, encMt, encIts, decide_eq_true]
  refine awp_nilcell (el := 33) (k := 3) (i := 3) (j := 2) (st := 3) (by decide) rfl rfl ?_
  refine awp_loop (fun s m => ∃ i : Nat, i ≤ R ∧ m = R - i ∧ s.n = 5 ∧ s.sl 7 = .p false [.d (.sc (.int .i64 i))] ∧ MI ⟨R, C, la⟩ ⟨C, K, lb⟩ (gridL K f (i * K)) s) R ?_ ?_
  · exact ⟨0, Nat.zero_le _, rfl, rfl, rfl, rfl, rfl, rfl, rfl, rfl, rfl, rfl, 4, rfl, by rw [Nat.zero_mul]; rfl⟩
  · rintro s m ⟨i, hi, rfl, hn, g7, g2, g3, g4, g6, o0, o1, o2, v, o3, o4⟩
    by_cases hlt : i < R
    · have hd : decide ((i : Int) < (R : Int)) = true := decide_eq_true (by omega)
      have hw : IntKind.i64.wrap ((i : Int) + 1) = (i + 1 : Nat) := wrapN (i + 1) (by omega)
      simp only [go_sem, ↓reduceIte, Nat.reduceAdd, Nat.reduceSub, Nat.reduceMul, Nat.reduceLT, Nat.reduceLeDiff, Nat.reduceEqDiff, Int.reduceLT, Int.reduceLE, Int.reduceEq, Nat.reduceBEq, reduceCtorEq, reduceCtorEq, g2, g7, hn, o0, encMt, encIts, hd]
      refine awp_loop (fun s m => ∃ k : Nat, k ≤ K ∧ m = K - k ∧ s.n = 5 ∧ s.sl 8 = .p false [.d (.sc (.int .i64 k))] ∧ s.sl 7 = .p false [.d (.sc (.int .i64 i))] ∧ MI ⟨R, C, la⟩ ⟨C, K, lb⟩ (gridL K f (i * K + k)) s) K ?_ ?_
      · exact ⟨0, Nat.zero_le _, rfl, rfl, rfl, g7, g2, g3, g4, g6, o0, o1, o2, v, o3, o4⟩
      · clear g7 hn g2 g3 g4 g6 o0 o1 o2 o3 o4
        rintro s m ⟨k, hk, rfl, hn, g8, g7, g2, g3, g4, g6, o0, o1, o2, v, o3, o4⟩
        by_cases hkt : k < K
        · have hd : decide ((k : Int) < (K : Int)) = true := by simpa using hkt
          have hw : IntKind.i64.wrap ((k : Int) + 1) = (k + 1 : Nat) := wrapN (k + 1) (by omega)
          have hsu := gridL_succ (i := i) f hkt
          have hLL := gridL_len K f (i * K + k)
          have hbd := grid_lt hlt hkt
          have hfx : f i k = mulS C K la lb i k C := by rw [← hf]
          generalize f i k = x at *
          generalize gridL K f (i * K + k) = L at *
          simp only [go_sem, ↓reduceIte, Nat.reduceAdd, Nat.reduceSub, Nat.reduceMul, Nat.reduceLT, Nat.reduceLeDiff, Nat.reduceEqDiff, Int.reduceLT, Int.reduceLE, Int.reduceEq, Nat.reduceBEq, reduceCtorEq, reduceCtorEq, g3, g8, hn, hd, o1, encMt, encIts]
          refine astep_call rfl (mIntItem 0) rfl rfl (by simp only [go_sem, ↓reduceIte, Nat.reduceAdd, Nat.reduceSub, Nat.reduceMul, Nat.reduceLT, Nat.reduceLeDiff, Nat.reduceEqDiff, Int.reduceLT, Int.reduceLE, Int.reduceEq, Nat.reduceBEq, reduceCtorEq, reduceCtorEq, true_and]) ?_
          rw [intN_eq (by omega)]
          simp only [go_sem, ↓reduceIte, Nat.reduceAdd, Nat.reduceSub, Nat.reduceMul, Nat.reduceLT, Nat.reduceLeDiff, Nat.reduceEqDiff, Int.reduceLT, Int.reduceLE, Int.reduceEq, Nat.reduceBEq, reduceCtorEq, reduceCtorEq, encIt, hn]
          refine awp_loop (fun s m => ∃ j : Nat, j ≤ C ∧ m = C - j ∧ s.n = 6 ∧ s.sl 10 = .p false [.d (.sc (.int .i64 j))] ∧ (∃ u, s.sl 9 = .p false [.ptr 5 u 0] ∧ s.ob 5 = .var u 33 ((encIt (mulS C K la lb i k j)).map .d)) ∧ s.sl 8 = .p false [.d (.sc (.int .i64 k))] ∧ s.sl 7 = .p false [.d (.sc (.int .i64 i))] ∧ MI ⟨R, C, la⟩ ⟨C, K, lb⟩ L s) C ?_ ?_
          · exact ⟨0, Nat.zero_le _, rfl, rfl, rfl, ⟨_, rfl, rfl⟩, g8, g7, g2, g3, g4, g6, o0, o1, o2, v, o3, o4⟩
          · clear g8 g7 hn g2 g3 g4 g6 o0 o1 o2 o3 o4
            rintro s m ⟨j, hj, rfl, hn, g10, ⟨u, g9, o5⟩, g8, g7, g2, g3, g4, g6, o0, o1, o2, v, o3, o4⟩
            by_cases hjt : j < C
            · have hd : decide ((j : Int) < (C : Int)) = true := by simpa using hjt
              have hwj : IntKind.i64.wrap ((j : Int) + 1) = (j + 1 : Nat) := wrapN (j + 1) (by omega)
              have hxa := cel_get hla hlt hjt
              have hxb := cel_get hlb hjt hkt
              have hba := grid_lt hlt hjt
              have hbb := grid_lt hjt hkt
              have hms : mulS C K la lb i k (j + 1) = addN (mulS C K la lb i k j) (mulN (cel C la i j) (cel K lb j k)) := rfl
              generalize hy1 : mulS C K la lb i k (j + 1) = y' at *
              generalize mulS C K la lb i k j = y at *
              generalize cel C la i j = xa at *
              generalize cel K lb j k = xb at *
              simp only [go_sem, ↓reduceIte, Nat.reduceAdd, Nat.reduceSub, Nat.reduceMul, Nat.reduceLT, Nat.reduceLeDiff, Nat.reduceEqDiff, Int.reduceLT, Int.reduceLE, Int.reduceEq, Nat.reduceBEq, reduceCtorEq, reduceCtorEq, g2, g10, hn, hd, o0, encMt, encIts]
              refine awp_drawn (n := 11) false (by kernel_rfl) (by kernel_rfl) ?_
              simp only [go_sem, ↓reduceIte, Nat.reduceAdd, Nat.reduceSub, Nat.reduceMul, Nat.reduceLT, Nat.reduceLeDiff, Nat.reduceEqDiff, Int.reduceLT, Int.reduceLE, Int.reduceEq, Nat.reduceBEq, reduceCtorEq, reduceCtorEq, g2, g3, g7, g8, g9, g10, hn, o0, o1, o5, encMt, encIts, encIt]
              refine hcall rfl (cellAt_m R C i j la xa hxa (by omega)) rfl (by simp only [go_sem, ↓reduceIte, Nat.reduceAdd, Nat.reduceSub, Nat.reduceMul, Nat.reduceLT, Nat.reduceLeDiff, Nat.reduceEqDiff, Int.reduceLT, Int.reduceLE, Int.reduceEq, Nat.reduceBEq, reduceCtorEq, reduceCtorEq, encMt, encIts]) (by simp) ?_
              simp only [go_sem, ↓reduceIte, Nat.reduceAdd, Nat.reduceSub, Nat.reduceMul, Nat.reduceLT, Nat.reduceLeDiff, Nat.reduceEqDiff, Int.reduceLT, Int.reduceLE, Int.reduceEq, Nat.reduceBEq, reduceCtorEq, reduceCtorEq, g2, g3, g7, g8, g9, g10, hn, o0, o1, o5, encMt, encIts, encIt]
              refine hcall rfl (cellAt_m C K j k lb xb hxb (by omega)) rfl (by simp only [go_sem, ↓reduceIte, Nat.reduceAdd, Nat.reduceSub, Nat.reduceMul, Nat.reduceLT, Nat.reduceLeDiff, Nat.reduceEqDiff, Int.reduceLT, Int.reduceLE, Int.reduceEq, Nat.reduceBEq, reduceCtorEq, reduceCtorEq, encMt, encIts]) (by simp) ?_
              simp only [go_sem, ↓reduceIte, Nat.reduceAdd, Nat.reduceSub, Nat.reduceMul, Nat.reduceLT, Nat.reduceLeDiff, Nat.reduceEqDiff, Int.reduceLT, Int.reduceLE, Int.reduceEq, Nat.reduceBEq, reduceCtorEq, reduceCtorEq, encIt]
              refine hcall rfl (mImplMul xa xb) rfl (by simp only [go_sem, ↓reduceIte, Nat.reduceAdd, Nat.reduceSub, Nat.reduceMul, Nat.reduceLT, Nat.reduceLeDiff, Nat.reduceEqDiff, Int.reduceLT, Int.reduceLE, Int.reduceEq, Nat.reduceBEq, reduceCtorEq, reduceCtorEq, encIt]) (by simp) ?_
              simp only [go_sem, ↓reduceIte, Nat.reduceAdd, Nat.reduceSub, Nat.reduceMul, Nat.reduceLT, Nat.reduceLeDiff, Nat.reduceEqDiff, Int.reduceLT, Int.reduceLE, Int.reduceEq, Nat.reduceBEq, reduceCtorEq, reduceCtorEq, encIt]
              refine hcall rfl (mImplAdd y (mulN xa xb)) rfl (by simp only [go_sem, ↓reduceIte, Nat.reduceAdd, Nat.reduceSub, Nat.reduceMul, Nat.reduceLT, Nat.reduceLeDiff, Nat.reduceEqDiff, Int.reduceLT, Int.reduceLE, Int.reduceEq, Nat.reduceBEq, reduceCtorEq, reduceCtorEq, encIt]) (by simp) ?_
              rw [← hms]
              simp only [go_sem, ↓reduceIte, Nat.reduceAdd, Nat.reduceSub, Nat.reduceMul, Nat.reduceLT, Nat.reduceLeDiff, Nat.reduceEqDiff, Int.reduceLT, Int.reduceLE, Int.reduceEq, Nat.reduceBEq, reduceCtorEq, reduceCtorEq, encIt, hn, o5, g10, g9, hwj]
              exact ⟨6, C - (j + 1), by omega, by omega, j + 1, by omega, rfl, rfl, rfl, ⟨u, rfl, by rw [hy1]⟩, g8, g7, g2, g3, g4, g6, o0, o1, o2, v, o3, o4⟩
            · obtain rfl : j = C := by omega
              have hd : decide ((j : Int) < (j : Int)) = false := by simp
              rw [← hfx] at o5
              simp only [go_sem, ↓reduceIte, Nat.reduceAdd, Nat.reduceSub, Nat.reduceMul, Nat.reduceLT, Nat.reduceLeDiff, Nat.reduceEqDiff, Int.reduceLT, Int.reduceLE, Int.reduceEq, Nat.reduceBEq, reduceCtorEq, reduceCtorEq, g2, g10, g9, g6, hn, hd, o0, o3, o5, encMt, encIts, encIt]
              refine astep_app (i := 4) (st := v) (es := L.map encIt) (news := [encIt x]) rfl rfl tel_26 tzero_33 rfl tby_33 rfl rfl (src_flat (t := 33) (by simp only [go_sem, ↓reduceIte, Nat.reduceAdd, Nat.reduceSub, Nat.reduceMul, Nat.reduceLT, Nat.reduceLeDiff, Nat.reduceEqDiff, Int.reduceLT, Int.reduceLE, Int.reduceEq, Nat.reduceBEq, reduceCtorEq, reduceCtorEq, encIt]) (encIts_flat [x])) (by simp only [go_sem, ↓reduceIte, Nat.reduceAdd, Nat.reduceSub, Nat.reduceMul, Nat.reduceLT, Nat.reduceLeDiff, Nat.reduceEqDiff, Int.reduceLT, Int.reduceLE, Int.reduceEq, Nat.reduceBEq, reduceCtorEq, reduceCtorEq, o4]) ?_ ?_ ?_
              · simp [hLL]; omega
              · simp [hLL]; omega
              simp only [go_sem, ↓reduceIte, Nat.reduceAdd, Nat.reduceSub, Nat.reduceMul, Nat.reduceLT, Nat.reduceLeDiff, Nat.reduceEqDiff, Int.reduceLT, Int.reduceLE, Int.reduceEq, Nat.reduceBEq, reduceCtorEq, reduceCtorEq, g6, g8, hw, o3]
              exact ⟨5, K - (k + 1), by omega, by omega, k + 1, by omega, rfl, rfl, rfl, g7, g2, g3, g4, g6, o0, o1, o2, _, rfl, by rw [← Nat.add_assoc, hsu, List.map_append]; rfl⟩
        · obtain rfl : k = K := by omega
          have hd : decide ((k : Int) < (k : Int)) = false := by simp
          simp only [go_sem, ↓reduceIte, Nat.reduceAdd, Nat.reduceSub, Nat.reduceMul, Nat.reduceLT, Nat.reduceLeDiff, Nat.reduceEqDiff, Int.reduceLT, Int.reduceLE, Int.reduceEq, Nat.reduceBEq, reduceCtorEq, reduceCtorEq, g3, g8, g7, hn, hd, o1, encMt, encIts, hw]
          exact ⟨5, R - (i + 1), by omega, by omega, i + 1, by omega, rfl, rfl, rfl, g2, g3, g4, g6, o0, o1, o2, v, o3, by rw [Nat.add_mul, Nat.one_mul]; exact o4⟩
    · obtain rfl : i = R := by omega
      have hd : decide ((i : Int) < (i : Int)) = false := by simp
      simp only [go_sem, ↓reduceIte, Nat.reduceAdd, Nat.reduceSub, Nat.reduceMul, Nat.reduceLT, Nat.reduceLeDiff, Nat.reduceEqDiff, Int.reduceLT, Int.reduceLE, Int.reduceEq, Nat.reduceBEq, reduceCtorEq, reduceCtorEq, g2, g7, g4, g6, hn, hd, o0, o3, encMt, encIts]
      generalize gridL K f (i * K) = L at *
      refine astep_call rfl (isMt_m ⟨i, K, L⟩) rfl rfl (by simp only [go_sem, ↓reduceIte, Nat.reduceAdd, Nat.reduceSub, Nat.reduceMul, Nat.reduceLT, Nat.reduceLeDiff, Nat.reduceEqDiff, Int.reduceLT, Int.reduceLE, Int.reduceEq, Nat.reduceBEq, reduceCtorEq, reduceCtorEq, encMt, encIts, o3, o4]) ?_
      cases hbb : allN L
      · have hb : mulB ⟨i, C, la⟩ ⟨C, K, lb⟩ = false := by rw [hbt, hbb]
        simp only [go_sem, ↓reduceIte, Nat.reduceAdd, Nat.reduceSub, Nat.reduceMul, Nat.reduceLT, Nat.reduceLeDiff, Nat.reduceEqDiff, Int.reduceLT, Int.reduceLE, Int.reduceEq, Nat.reduceBEq, reduceCtorEq, reduceCtorEq, hmo, hbb, hb, mulM_false hb, g4, g6, hn, o2, encMt, encIts]
        refine Or.inl ?_; repeat' (first | exact gives_nil | exact trivial | with_reducible apply gives_sc | with_reducible apply gives_nilS (by decide) | with_reducible apply gives_own | with_reducible apply Exists.intro | with_reducible apply And.intro | (show (_ : Option Ob) = _; simp only [go_sem, ↓reduceIte, Nat.reduceAdd, Nat.reduceSub, Nat.reduceMul, Nat.reduceLT, Nat.reduceLeDiff, Nat.reduceEqDiff, Int.reduceLT, Int.reduceLE, Int.reduceEq, Nat.reduceBEq, reduceCtorEq, reduceCtorEq, true_and]))
      · have hb : mulB ⟨i, C, la⟩ ⟨C, K, lb⟩ = true := by rw [hbt, hbb]
        simp only [go_sem, ↓reduceIte, Nat.reduceAdd, Nat.reduceSub, Nat.reduceMul, Nat.reduceLT, Nat.reduceLeDiff, Nat.reduceEqDiff, Int.reduceLT, Int.reduceLE, Int.reduceEq, Nat.reduceBEq, reduceCtorEq, reduceCtorEq, hmo, hbb, hb, mulM_true hb, hmt, g4, g6, hn, o2, o3, o4, encMt, encIts]
        refine Or.inl ?_; repeat' (first | exact gives_nil | exact trivial | with_reducible apply gives_sc | with_reducible apply gives_nilS (by decide) | with_reducible apply gives_own | with_reducible apply Exists.intro | with_reducible apply And.intro | (show (_ : Option Ob) = _; simp only [go_sem, ↓reduceIte, Nat.reduceAdd, Nat.reduceSub, Nat.reduceMul, Nat.reduceLT, Nat.reduceLeDiff, Nat.reduceEqDiff, Int.reduceLT, Int.reduceLE, Int.reduceEq, Nat.reduceBEq, reduceCtorEq, reduceCtorEq, o4]))
end Go.Proofs.Ytolkglnkdfcceaa
