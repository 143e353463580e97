/- contrastCell, ContrastMatrix of both, l14Zero. -/
import Derived.Test.YtolkglnkdfcceaaMatC
namespace Go.Proofs.Ytolkglnkdfcceaa
open Go.RowKit
set_option linter.unusedVariables false
set_option linter.unusedSimpArgs false
set_option maxRecDepth 100000

/-! ### cells row by row -/
def gridL {α : Type} (W : Nat) (f : Nat → Nat → α) (n : Nat) : List α := (List.range n).map fun t => f (t / W) (t % W)
theorem gridL_len {α : Type} (W : Nat) (f : Nat → Nat → α) (n : Nat) : (gridL W f n).length = n := by simp [gridL]
theorem grid_ix {W i k : Nat} (hk : k < W) : (i * W + k) / W = i ∧ (i * W + k) % W = k := by
  constructor
  · rw [Nat.add_comm, Nat.add_mul_div_right _ _ (by omega), Nat.div_eq_of_lt hk]; omega
  · rw [Nat.add_comm, Nat.add_mul_mod_self_right, Nat.mod_eq_of_lt hk]
theorem gridL_succ {α : Type} {W i k : Nat} (f : Nat → Nat → α) (hk : k < W) : gridL W f (i * W + k + 1) = gridL W f (i * W + k) ++ [f i k] := by
  obtain ⟨h1, h2⟩ := grid_ix (i := i) hk
  simp [gridL, List.range_succ, h1, h2]
theorem gridL_get {α : Type} {W i k n : Nat} (f : Nat → Nat → α) (hk : k < W) (hn : i * W + k < n) : (gridL W f n)[i * W + k]? = some (f i k) := by
  obtain ⟨h1, h2⟩ := grid_ix (i := i) hk
  simp [gridL, hn, h1, h2]
theorem grid_lt {R W i k : Nat} (hi : i < R) (hk : k < W) : i * W + k < R * W := by
  have : (i + 1) * W ≤ R * W := Nat.mul_le_mul_right _ hi
  rw [Nat.add_mul] at this; omega

def conC (L kind i k : Int) : Int :=
  if kind = 0 then (if i = k + 1 then 1 else 0) else if kind = 1 then (if i = L - 1 then -1 else if i = k then 1 else 0) else (if i ≤ k then -1 else if i = k + 1 then k + 1 else 0)

theorem contrastCell_m (L kind i k : Int) (hL : 0 ≤ L ∧ L ≤ 1000) (hk : 0 ≤ k ∧ k ≤ 1000) (hkd : 0 ≤ kind ∧ kind ≤ 2) :
    Meets Try.prog 32 [(false, [.sc (.int .i64 L)]), (false, [.sc (.int .i64 kind)]), (false, [.sc (.int .i64 i)]), (false, [.sc (.int .i64 k)])] [(false, [.sc (.int .i64 (conC L kind i k))], true)] := by
  have w1 := wrapI (k + 1) (by omega)
  have w2 := wrapI (L - 1) (by omega)
  refine meets_of Try.func32 rfl (by kernel_rfl) (by simp) Try.ntmps32 (congrArg Array.toList Try.results32) ?_
  rcases (show kind = 0 ∨ kind = 1 ∨ kind = 2 from by omega) with rfl | rfl | rfl
  · by_cases c1 : i = k + 1
    · have hv : conC L 0 i k = 1 := by simp [conC, c1]
      simp only [go_sem, ↓reduceIte, Nat.reduceAdd, Nat.reduceSub, Nat.reduceMul, Nat.reduceLT, Nat.reduceLeDiff, Nat.reduceEqDiff, Int.reduceLT, Int.reduceLE, Int.reduceEq, Nat.reduceBEq, reduceCtorEq, reduceCtorEq, w1, decide_eq_true c1, hv]
      refine Or.inl ?_; repeat' (first | exact gives_nil | exact trivial | with_reducible apply gives_sc | with_reducible apply gives_nilS (by decide) | with_reducible apply gives_own | with_reducible apply Exists.intro | with_reducible apply And.intro | (show (_ : Option Ob) = _; simp only [go_sem, ↓reduceIte, Nat.reduceAdd, Nat.reduceSub, Nat.reduceMul, Nat.reduceLT, Nat.reduceLeDiff, Nat.reduceEqDiff, Int.reduceLT, Int.reduceLE, Int.reduceEq, Nat.reduceBEq, reduceCtorEq, reduceCtorEq, true_and]))
    · have hv : conC L 0 i k = 0 := by simp [conC, c1]
      simp only [go_sem, ↓reduceIte, Nat.reduceAdd, Nat.reduceSub, Nat.reduceMul, Nat.reduceLT, Nat.reduceLeDiff, Nat.reduceEqDiff, Int.reduceLT, Int.reduceLE, Int.reduceEq, Nat.reduceBEq, reduceCtorEq, reduceCtorEq, w1, decide_eq_false c1, hv]
      refine Or.inl ?_; repeat' (first | exact gives_nil | exact trivial | with_reducible apply gives_sc | with_reducible apply gives_nilS (by decide) | with_reducible apply gives_own | with_reducible apply Exists.intro | with_reducible apply And.intro | (show (_ : Option Ob) = _; simp only [go_sem, ↓reduceIte, Nat.reduceAdd, Nat.reduceSub, Nat.reduceMul, Nat.reduceLT, Nat.reduceLeDiff, Nat.reduceEqDiff, Int.reduceLT, Int.reduceLE, Int.reduceEq, Nat.reduceBEq, reduceCtorEq, reduceCtorEq, true_and]))
  · by_cases c1 : i = L - 1
    · have hv : conC L 1 i k = -1 := by simp [conC, c1]
      simp only [go_sem, ↓reduceIte, Nat.reduceAdd, Nat.reduceSub, Nat.reduceMul, Nat.reduceLT, Nat.reduceLeDiff, Nat.reduceEqDiff, Int.reduceLT, Int.reduceLE, Int.reduceEq, Nat.reduceBEq, reduceCtorEq, reduceCtorEq, w2, decide_eq_true c1, hv]
      refine Or.inl ?_; repeat' (first | exact gives_nil | exact trivial | with_reducible apply gives_sc | with_reducible apply gives_nilS (by decide) | with_reducible apply gives_own | with_reducible apply Exists.intro | with_reducible apply And.intro | (show (_ : Option Ob) = _; simp only [go_sem, ↓reduceIte, Nat.reduceAdd, Nat.reduceSub, Nat.reduceMul, Nat.reduceLT, Nat.reduceLeDiff, Nat.reduceEqDiff, Int.reduceLT, Int.reduceLE, Int.reduceEq, Nat.reduceBEq, reduceCtorEq, reduceCtorEq, true_and]))
    · by_cases c2 : i = k
      · have hv : conC L 1 i k = 1 := by simp [conC, c1]; omega
        simp only [go_sem, ↓reduceIte, Nat.reduceAdd, Nat.reduceSub, Nat.reduceMul, Nat.reduceLT, Nat.reduceLeDiff, Nat.reduceEqDiff, Int.reduceLT, Int.reduceLE, Int.reduceEq, Nat.reduceBEq, reduceCtorEq, reduceCtorEq, w2, decide_eq_false c1, decide_eq_true c2, hv]
        refine Or.inl ?_; repeat' (first | exact gives_nil | exact trivial | with_reducible apply gives_sc | with_reducible apply gives_nilS (by decide) | with_reducible apply gives_own | with_reducible apply Exists.intro | with_reducible apply And.intro | (show (_ : Option Ob) = _; simp only [go_sem, ↓reduceIte, Nat.reduceAdd, Nat.reduceSub, Nat.reduceMul, Nat.reduceLT, Nat.reduceLeDiff, Nat.reduceEqDiff, Int.reduceLT, Int.reduceLE, Int.reduceEq, Nat.reduceBEq, reduceCtorEq, reduceCtorEq, true_and]))
      · have hv : conC L 1 i k = 0 := by simp [conC, c1, c2]
        simp only [go_sem, ↓reduceIte, Nat.reduceAdd, Nat.reduceSub, Nat.reduceMul, Nat.reduceLT, Nat.reduceLeDiff, Nat.reduceEqDiff, Int.reduceLT, Int.reduceLE, Int.reduceEq, Nat.reduceBEq, reduceCtorEq, reduceCtorEq, w2, decide_eq_false c1, decide_eq_false c2, hv]
        refine Or.inl ?_; repeat' (first | exact gives_nil | exact trivial | with_reducible apply gives_sc | with_reducible apply gives_nilS (by decide) | with_reducible apply gives_own | with_reducible apply Exists.intro | with_reducible apply And.intro | (show (_ : Option Ob) = _; simp only [go_sem, ↓reduceIte, Nat.reduceAdd, Nat.reduceSub, Nat.reduceMul, Nat.reduceLT, Nat.reduceLeDiff, Nat.reduceEqDiff, Int.reduceLT, Int.reduceLE, Int.reduceEq, Nat.reduceBEq, reduceCtorEq, reduceCtorEq, true_and]))
  · by_cases c1 : i ≤ k
    · have hv : conC L 2 i k = -1 := by simp [conC, c1]
      simp only [go_sem, ↓reduceIte, Nat.reduceAdd, Nat.reduceSub, Nat.reduceMul, Nat.reduceLT, Nat.reduceLeDiff, Nat.reduceEqDiff, Int.reduceLT, Int.reduceLE, Int.reduceEq, Nat.reduceBEq, reduceCtorEq, reduceCtorEq, w1, decide_eq_true c1, hv]
      refine Or.inl ?_; repeat' (first | exact gives_nil | exact trivial | with_reducible apply gives_sc | with_reducible apply gives_nilS (by decide) | with_reducible apply gives_own | with_reducible apply Exists.intro | with_reducible apply And.intro | (show (_ : Option Ob) = _; simp only [go_sem, ↓reduceIte, Nat.reduceAdd, Nat.reduceSub, Nat.reduceMul, Nat.reduceLT, Nat.reduceLeDiff, Nat.reduceEqDiff, Int.reduceLT, Int.reduceLE, Int.reduceEq, Nat.reduceBEq, reduceCtorEq, reduceCtorEq, true_and]))
    · by_cases c2 : i = k + 1
      · have hv : conC L 2 i k = k + 1 := by simp [conC, c1]; omega
        simp only [go_sem, ↓reduceIte, Nat.reduceAdd, Nat.reduceSub, Nat.reduceMul, Nat.reduceLT, Nat.reduceLeDiff, Nat.reduceEqDiff, Int.reduceLT, Int.reduceLE, Int.reduceEq, Nat.reduceBEq, reduceCtorEq, reduceCtorEq, w1, decide_eq_false c1, decide_eq_true c2, hv]
        refine Or.inl ?_; repeat' (first | exact gives_nil | exact trivial | with_reducible apply gives_sc | with_reducible apply gives_nilS (by decide) | with_reducible apply gives_own | with_reducible apply Exists.intro | with_reducible apply And.intro | (show (_ : Option Ob) = _; simp only [go_sem, ↓reduceIte, Nat.reduceAdd, Nat.reduceSub, Nat.reduceMul, Nat.reduceLT, Nat.reduceLeDiff, Nat.reduceEqDiff, Int.reduceLT, Int.reduceLE, Int.reduceEq, Nat.reduceBEq, reduceCtorEq, reduceCtorEq, true_and]))
      · have hv : conC L 2 i k = 0 := by simp [conC, c1, c2]
        simp only [go_sem, ↓reduceIte, Nat.reduceAdd, Nat.reduceSub, Nat.reduceMul, Nat.reduceLT, Nat.reduceLeDiff, Nat.reduceEqDiff, Int.reduceLT, Int.reduceLE, Int.reduceEq, Nat.reduceBEq, reduceCtorEq, reduceCtorEq, w1, decide_eq_false c1, decide_eq_false c2, hv]
        refine Or.inl ?_; repeat' (first | exact gives_nil | exact trivial | with_reducible apply gives_sc | with_reducible apply gives_nilS (by decide) | with_reducible apply gives_own | with_reducible apply Exists.intro | with_reducible apply And.intro | (show (_ : Option Ob) = _; simp only [go_sem, ↓reduceIte, Nat.reduceAdd, Nat.reduceSub, Nat.reduceMul, Nat.reduceLT, Nat.reduceLeDiff, Nat.reduceEqDiff, Int.reduceLT, Int.reduceLE, Int.reduceEq, Nat.reduceBEq, reduceCtorEq, reduceCtorEq, true_and]))

def conL (L kind : Int) (n : Nat) : List It := gridL (L - 1).toNat (fun i k => intN (conC L kind i k)) n
def conB (L kind : Int) : Bool := decide (1 ≤ L ∧ L ≤ 12 ∧ 0 ≤ kind ∧ kind ≤ 2)
def conM (L kind : Int) : Mt := if conB L kind = true then ⟨L, L - 1, conL L kind (L.toNat * (L - 1).toNat)⟩ else ⟨0, 0, []⟩

/-- a matrix variable (object 1) whose cells (object 2) grow; object 0 is the result's variable -/
def GI (q : Nat) (r c : Int) (l : List It) (s : AS) : Prop :=
  s.n = 3 ∧ s.sl 4 = .p false [.ptr 0 0 0] ∧ s.sl q = .p false [.ptr 1 1 0] ∧ s.ob 0 = .var 0 28 [.d (.sc (.int .i64 0)), .d (.sc (.int .i64 0)), .nil] ∧
  ∃ v, s.ob 1 = .var 1 28 [.d (.sc (.int .i64 r)), .d (.sc (.int .i64 c)), .own 2 v] ∧ s.ob 2 = .row v 33 3 (l.map encIt) true

theorem implCon_m (L kind : Int) : Meets Try.prog 9 [(false, [.sc (.int .i64 L)]), (false, [.sc (.int .i64 kind)])] [(true, encMt (conM L kind), true), (false, [.sc (.bool (conB L kind))], true)] := by
  refine meets_of Try.func9 rfl (by kernel_rfl) (by simp) Try.ntmps9 (congrArg Array.toList Try.results9) ?_
  by_cases c1 : L < 1
  · have hb : conB L kind = false := decide_eq_false (by omega)
    have hm : conM L kind = ⟨0, 0, []⟩ := by unfold conM; rw [if_neg (by simp [hb])]
    simp only [go_sem, ↓reduceIte, Nat.reduceAdd, Nat.reduceSub, Nat.reduceMul, Nat.reduceLT, Nat.reduceLeDiff, Nat.reduceEqDiff, Int.reduceLT, Int.reduceLE, Int.reduceEq, Nat.reduceBEq, reduceCtorEq, reduceCtorEq, decide_eq_true c1, hb, hm, encMt, encIts]
    refine Or.inl ?_; repeat' (first | exact gives_nil | exact trivial | with_reducible apply gives_sc | with_reducible apply gives_nilS (by decide) | with_reducible apply gives_own | with_reducible apply Exists.intro | with_reducible apply And.intro | (show (_ : Option Ob) = _; simp only [go_sem, ↓reduceIte, Nat.reduceAdd, Nat.reduceSub, Nat.reduceMul, Nat.reduceLT, Nat.reduceLeDiff, Nat.reduceEqDiff, Int.reduceLT, Int.reduceLE, Int.reduceEq, Nat.reduceBEq, reduceCtorEq, reduceCtorEq, true_and]))
  by_cases c2 : 12 < L
  · have hb : conB L kind = false := decide_eq_false (by omega)
    have hm : conM L kind = ⟨0, 0, []⟩ := by unfold conM; rw [if_neg (by simp [hb])]
    simp only [go_sem, ↓reduceIte, Nat.reduceAdd, Nat.reduceSub, Nat.reduceMul, Nat.reduceLT, Nat.reduceLeDiff, Nat.reduceEqDiff, Int.reduceLT, Int.reduceLE, Int.reduceEq, Nat.reduceBEq, reduceCtorEq, reduceCtorEq, decide_eq_false c1, decide_eq_true c2, hb, hm, encMt, encIts]
    refine Or.inl ?_; repeat' (first | exact gives_nil | exact trivial | with_reducible apply gives_sc | with_reducible apply gives_nilS (by decide) | with_reducible apply gives_own | with_reducible apply Exists.intro | with_reducible apply And.intro | (show (_ : Option Ob) = _; simp only [go_sem, ↓reduceIte, Nat.reduceAdd, Nat.reduceSub, Nat.reduceMul, Nat.reduceLT, Nat.reduceLeDiff, Nat.reduceEqDiff, Int.reduceLT, Int.reduceLE, Int.reduceEq, Nat.reduceBEq, reduceCtorEq, reduceCtorEq, true_and]))
  by_cases c3 : kind < 0
  · have hb : conB L kind = false := decide_eq_false (by omega)
    have hm : conM L kind = ⟨0, 0, []⟩ := by unfold conM; rw [if_neg (by simp [hb])]
    simp only [go_sem, ↓reduceIte, Nat.reduceAdd, Nat.reduceSub, Nat.reduceMul, Nat.reduceLT, Nat.reduceLeDiff, Nat.reduceEqDiff, Int.reduceLT, Int.reduceLE, Int.reduceEq, Nat.reduceBEq, reduceCtorEq, reduceCtorEq, decide_eq_false c1, decide_eq_false c2, decide_eq_true c3, hb, hm, encMt, encIts]
    refine Or.inl ?_; repeat' (first | exact gives_nil | exact trivial | with_reducible apply gives_sc | with_reducible apply gives_nilS (by decide) | with_reducible apply gives_own | with_reducible apply Exists.intro | with_reducible apply And.intro | (show (_ : Option Ob) = _; simp only [go_sem, ↓reduceIte, Nat.reduceAdd, Nat.reduceSub, Nat.reduceMul, Nat.reduceLT, Nat.reduceLeDiff, Nat.reduceEqDiff, Int.reduceLT, Int.reduceLE, Int.reduceEq, Nat.reduceBEq, reduceCtorEq, reduceCtorEq, true_and]))
  by_cases c4 : 2 < kind
  · have hb : conB L kind = false := decide_eq_false (by omega)
    have hm : conM L kind = ⟨0, 0, []⟩ := by unfold conM; rw [if_neg (by simp [hb])]
    simp only [go_sem, ↓reduceIte, Nat.reduceAdd, Nat.reduceSub, Nat.reduceMul, Nat.reduceLT, Nat.reduceLeDiff, Nat.reduceEqDiff, Int.reduceLT, Int.reduceLE, Int.reduceEq, Nat.reduceBEq, reduceCtorEq, reduceCtorEq, decide_eq_false c1, decide_eq_false c2, decide_eq_false c3, decide_eq_true c4, hb, hm, encMt, encIts]
    refine Or.inl ?_; repeat' (first | exact gives_nil | exact trivial | with_reducible apply gives_sc | with_reducible apply gives_nilS (by decide) | with_reducible apply gives_own | with_reducible apply Exists.intro | with_reducible apply And.intro | (show (_ : Option Ob) = _; simp only [go_sem, ↓reduceIte, Nat.reduceAdd, Nat.reduceSub, Nat.reduceMul, Nat.reduceLT, Nat.reduceLeDiff, Nat.reduceEqDiff, Int.reduceLT, Int.reduceLE, Int.reduceEq, Nat.reduceBEq, reduceCtorEq, reduceCtorEq, true_and]))
  have hb : conB L kind = true := decide_eq_true (by omega)
  have hm : conM L kind = ⟨L, L - 1, conL L kind (L.toNat * (L - 1).toNat)⟩ := by unfold conM; rw [if_pos hb]
  obtain ⟨W, hW⟩ := Int.eq_ofNat_of_zero_le (show 0 ≤ L - 1 by omega)
  obtain rfl : L = (W + 1 : Nat) := by omega
  have w1 : IntKind.i64.wrap (((W + 1 : Nat) : Int) - 1) = (W : Int) := by rw [wrapI _ (by omega)]; omega
  have hcl : conL (W + 1 : Nat) kind = gridL W (fun i k => intN (conC (W + 1 : Nat) kind i k)) := by
    funext n; unfold conL; rw [hW]; rfl
  have hm2 : conM (W + 1 : Nat) kind = ⟨(W + 1 : Nat), W, gridL W (fun i k => intN (conC (W + 1 : Nat) kind i k)) ((W + 1) * W)⟩ := by
    rw [hm, hcl, hW]; rfl
  generalize hf : (fun (i k : Nat) => intN (conC (W + 1 : Nat) kind i k)) = f at *
  simp only [go_sem, ↓reduceIte, Nat.reduceAdd, Nat.reduceSub, Nat.reduceMul, Nat.reduceLT, Nat.reduceLeDiff, Nat.reduceEqDiff, Int.reduceLT, Int.reduceLE, Int.reduceEq, Nat.reduceBEq, reduceCtorEq, reduceCtorEq, decide_eq_false c1, decide_eq_false c2, decide_eq_false c3, decide_eq_false c4, w1]
  refine awp_nilcell (el := 33) (k := 3) (i := 1) (j := 2) (st := 1) (by decide) rfl rfl ?_
  refine awp_loop (fun s m => ∃ i : Nat, i ≤ W + 1 ∧ m = W + 1 - i ∧ s.sl 0 = .p false [.d (.sc (.int .i64 (W + 1 : Nat)))] ∧ s.sl 1 = .p false [.d (.sc (.int .i64 kind))] ∧ s.sl 7 = .p false [.d (.sc (.int .i64 i))] ∧ GI 6 (W + 1 : Nat) W (gridL W f (i * W)) s) (W + 1) ?_ ?_
  · exact ⟨0, Nat.zero_le _, rfl, rfl, rfl, rfl, rfl, rfl, rfl, rfl, 2, rfl, by rw [Nat.zero_mul]; rfl⟩
  · rintro s m ⟨i, hi, rfl, g0, g1, g7, hn, g4, g6, o0, v, o1, o2⟩
    by_cases hlt : i < W + 1
    · have hd : decide ((i : Int) < ((W + 1 : Nat) : Int)) = true := decide_eq_true (by omega)
      have hw : IntKind.i64.wrap ((i : Int) + 1) = (i + 1 : Nat) := wrapN (i + 1) (by omega)
      simp only [go_sem, ↓reduceIte, Nat.reduceAdd, Nat.reduceSub, Nat.reduceMul, Nat.reduceLT, Nat.reduceLeDiff, Nat.reduceEqDiff, Int.reduceLT, Int.reduceLE, Int.reduceEq, Nat.reduceBEq, reduceCtorEq, reduceCtorEq, g0, g7, hn, hd]
      refine awp_loop (fun s m => ∃ k : Nat, k ≤ W ∧ m = W - k ∧ s.sl 8 = .p false [.d (.sc (.int .i64 k))] ∧ s.sl 0 = .p false [.d (.sc (.int .i64 (W + 1 : Nat)))] ∧ s.sl 1 = .p false [.d (.sc (.int .i64 kind))] ∧ s.sl 7 = .p false [.d (.sc (.int .i64 i))] ∧ GI 6 (W + 1 : Nat) W (gridL W f (i * W + k)) s) W ?_ ?_
      · exact ⟨0, Nat.zero_le _, rfl, rfl, g0, g1, g7, rfl, g4, g6, o0, v, o1, o2⟩
      · clear g0 g1 g7 hn g4 g6 o0 o1 o2
        rintro s m ⟨k, hk, rfl, g8, g0, g1, g7, hn, g4, g6, o0, v, o1, o2⟩
        by_cases hkt : k < W
        · have hd : decide ((k : Int) < (W : Int)) = true := by simpa using hkt
          have hw : IntKind.i64.wrap ((k : Int) + 1) = (k + 1 : Nat) := wrapN (k + 1) (by omega)
          have hsu := gridL_succ (i := i) f hkt
          have hLL := gridL_len W f (i * W + k)
          have hbd := grid_lt hlt hkt
          have hb2 : (W + 1) * W ≤ 12 * 12 := Nat.mul_le_mul (by omega) (by omega)
          have hfx : f i k = intN (conC (W + 1 : Nat) kind i k) := by rw [← hf]
          generalize f i k = x at *
          generalize gridL W f (i * W + k) = L at *
          simp only [go_sem, ↓reduceIte, Nat.reduceAdd, Nat.reduceSub, Nat.reduceMul, Nat.reduceLT, Nat.reduceLeDiff, Nat.reduceEqDiff, Int.reduceLT, Int.reduceLE, Int.reduceEq, Nat.reduceBEq, reduceCtorEq, reduceCtorEq, g0, g8, hn, hd, w1]
          refine awp_drawn (n := 9) false (by kernel_rfl) (by kernel_rfl) ?_
          simp only [go_sem, ↓reduceIte, Nat.reduceAdd, Nat.reduceSub, Nat.reduceMul, Nat.reduceLT, Nat.reduceLeDiff, Nat.reduceEqDiff, Int.reduceLT, Int.reduceLE, Int.reduceEq, Nat.reduceBEq, reduceCtorEq, reduceCtorEq, g6, g0, g1, g7, g8, hn, o1]
          refine hcall rfl (contrastCell_m (W + 1 : Nat) kind i k (by omega) (by omega) (by omega)) rfl (by simp only [go_sem, ↓reduceIte, Nat.reduceAdd, Nat.reduceSub, Nat.reduceMul, Nat.reduceLT, Nat.reduceLeDiff, Nat.reduceEqDiff, Int.reduceLT, Int.reduceLE, Int.reduceEq, Nat.reduceBEq, reduceCtorEq, reduceCtorEq, true_and]) (by simp) ?_
          simp only [go_sem, ↓reduceIte, Nat.reduceAdd, Nat.reduceSub, Nat.reduceMul, Nat.reduceLT, Nat.reduceLeDiff, Nat.reduceEqDiff, Int.reduceLT, Int.reduceLE, Int.reduceEq, Nat.reduceBEq, reduceCtorEq, reduceCtorEq, true_and]
          refine hcall rfl (mIntItem (conC (W + 1 : Nat) kind i k)) rfl (by simp only [go_sem, ↓reduceIte, Nat.reduceAdd, Nat.reduceSub, Nat.reduceMul, Nat.reduceLT, Nat.reduceLeDiff, Nat.reduceEqDiff, Int.reduceLT, Int.reduceLE, Int.reduceEq, Nat.reduceBEq, reduceCtorEq, reduceCtorEq, true_and]) (by simp) ?_
          rw [← hfx]
          simp only [go_sem, ↓reduceIte, Nat.reduceAdd, Nat.reduceSub, Nat.reduceMul, Nat.reduceLT, Nat.reduceLeDiff, Nat.reduceEqDiff, Int.reduceLT, Int.reduceLE, Int.reduceEq, Nat.reduceBEq, reduceCtorEq, reduceCtorEq, encIt, hn]
          refine astep_app (i := 2) (st := v) (es := L.map encIt) (news := [encIt x]) rfl rfl tel_26 tzero_33 rfl tby_33 rfl rfl (src_flat (t := 33) (by simp only [go_sem, ↓reduceIte, Nat.reduceAdd, Nat.reduceSub, Nat.reduceMul, Nat.reduceLT, Nat.reduceLeDiff, Nat.reduceEqDiff, Int.reduceLT, Int.reduceLE, Int.reduceEq, Nat.reduceBEq, reduceCtorEq, reduceCtorEq, encIt]) (encIts_flat [x])) (by simp only [go_sem, ↓reduceIte, Nat.reduceAdd, Nat.reduceSub, Nat.reduceMul, Nat.reduceLT, Nat.reduceLeDiff, Nat.reduceEqDiff, Int.reduceLT, Int.reduceLE, Int.reduceEq, Nat.reduceBEq, reduceCtorEq, reduceCtorEq, o2]) ?_ ?_ ?_
          · simp [hLL]; omega
          · simp [hLL]; omega
          simp only [go_sem, ↓reduceIte, Nat.reduceAdd, Nat.reduceSub, Nat.reduceMul, Nat.reduceLT, Nat.reduceLeDiff, Nat.reduceEqDiff, Int.reduceLT, Int.reduceLE, Int.reduceEq, Nat.reduceBEq, reduceCtorEq, reduceCtorEq, g6, g8, hw, o1]
          exact ⟨3, W - (k + 1), by omega, by omega, k + 1, by omega, rfl, rfl, g0, g1, g7, rfl, g4, g6, o0, _, rfl, by rw [← Nat.add_assoc, hsu, List.map_append]; rfl⟩
        · obtain rfl : k = W := by omega
          have hd : decide ((k : Int) < (k : Int)) = false := by simp
          simp only [go_sem, ↓reduceIte, Nat.reduceAdd, Nat.reduceSub, Nat.reduceMul, Nat.reduceLT, Nat.reduceLeDiff, Nat.reduceEqDiff, Int.reduceLT, Int.reduceLE, Int.reduceEq, Nat.reduceBEq, reduceCtorEq, reduceCtorEq, g0, g8, g7, hn, hd, w1, hw]
          exact ⟨3, k + 1 - (i + 1), by omega, by omega, i + 1, by omega, rfl, g1, rfl, rfl, g4, g6, o0, v, o1, by rw [Nat.add_mul, Nat.one_mul]; exact o2⟩
    · obtain rfl : i = W + 1 := by omega
      have hd : decide (((W + 1 : Nat) : Int) < ((W + 1 : Nat) : Int)) = false := by simp
      simp only [go_sem, ↓reduceIte, Nat.reduceAdd, Nat.reduceSub, Nat.reduceMul, Nat.reduceLT, Nat.reduceLeDiff, Nat.reduceEqDiff, Int.reduceLT, Int.reduceLE, Int.reduceEq, Nat.reduceBEq, reduceCtorEq, reduceCtorEq, g0, g7, g4, g6, hn, hd, o0, o1, o2, hm2, hb, encMt, encIts]
      refine Or.inl ?_; repeat' (first | exact gives_nil | exact trivial | with_reducible apply gives_sc | with_reducible apply gives_nilS (by decide) | with_reducible apply gives_own | with_reducible apply Exists.intro | with_reducible apply And.intro | (show (_ : Option Ob) = _; simp only [go_sem, ↓reduceIte, Nat.reduceAdd, Nat.reduceSub, Nat.reduceMul, Nat.reduceLT, Nat.reduceLeDiff, Nat.reduceEqDiff, Int.reduceLT, Int.reduceLE, Int.reduceEq, Nat.reduceBEq, reduceCtorEq, reduceCtorEq, o2]))
end Go.Proofs.Ytolkglnkdfcceaa
