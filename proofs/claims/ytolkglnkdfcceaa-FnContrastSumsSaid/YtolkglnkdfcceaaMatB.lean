/- TransposeMatrix of both. -/
import Derived.Test.YtolkglnkdfcceaaMatA
namespace Go.Proofs.Ytolkglnkdfcceaa
open Go.RowKit
set_option linter.unusedVariables false
set_option linter.unusedSimpArgs false
set_option maxRecDepth 100000

/-- the transposed matrix's cell number t -/
def turnAt (R C : Nat) (l : List It) (t : Nat) : It := l.getD ((t % R) * C + t / R) it0
def turnL (R C : Nat) (l : List It) (k : Nat) : List It := (List.range k).map (turnAt R C l)
theorem turnL_len (R C : Nat) (l : List It) (k : Nat) : (turnL R C l k).length = k := by simp [turnL]
theorem turnL_succ (R C : Nat) (l : List It) (k : Nat) : turnL R C l (k + 1) = turnL R C l k ++ [turnAt R C l k] := by simp [turnL, List.range_succ]
def turnM (m : Mt) : Mt := if mtB m = true then ⟨m.cols, m.rows, turnL m.rows.toNat m.cols.toNat m.cells (m.cols.toNat * m.rows.toNat)⟩ else ⟨0, 0, []⟩
theorem turn_ix {R C i j n : Nat} (hi : i < C) (hj : j < R) (hn : n = R * C) : (i * R + j) % R = j ∧ (i * R + j) / R = i ∧ j * C + i < n := by
  have h1 : (i * R + j) % R = j := by rw [Nat.add_comm, Nat.add_mul_mod_self_right, Nat.mod_eq_of_lt hj]
  have h2 : (i * R + j) / R = i := by rw [Nat.add_comm, Nat.add_mul_div_right _ _ (by omega), Nat.div_eq_of_lt hj]; omega
  refine ⟨h1, h2, ?_⟩
  subst hn
  have : (j + 1) * C ≤ R * C := Nat.mul_le_mul_right _ hj
  rw [Nat.add_mul] at this
  omega
theorem turn_get {R C i j : Nat} {l : List It} (hi : i < C) (hj : j < R) (hn : l.length = R * C) : l[j * C + i]? = some (turnAt R C l (i * R + j)) := by
  obtain ⟨h1, h2, h3⟩ := turn_ix hi hj hn
  unfold turnAt
  rw [h1, h2, List.getD_eq_getElem?_getD, List.getElem?_eq_getElem h3]; rfl
theorem sq_bd {i R C j : Nat} (hi : i < C) (hj : j ≤ R) (hR : R ≤ 12) (hC : C ≤ 12) : i * R + j ≤ 144 := by
  have : (i + 1) * R ≤ 12 * 12 := Nat.mul_le_mul (by omega) hR
  rw [Nat.add_mul] at this; omega
theorem mtB_dims {m : Mt} (h : mtB m = true) : 0 ≤ m.rows ∧ m.rows ≤ 12 ∧ 0 ≤ m.cols ∧ m.cols ≤ 12 ∧ (m.cells.length : Int) = m.rows * m.cols := by
  unfold mtB at h; simp only [Bool.and_eq_true, decide_eq_true_eq] at h; exact h.1

def TI (q R C : Nat) (l : List It) (k : Nat) (s : AS) : Prop :=
  s.n = 4 ∧ s.sl 1 = .p false [.ptr 0 0 0] ∧ s.sl 2 = .p false [.ptr 1 1 0] ∧ s.sl q = .p false [.ptr 2 2 0] ∧ s.ob 0 = .var 0 28 ((encMt ⟨R, C, l⟩).map .d) ∧ s.ob 1 = .var 1 28 [.d (.sc (.int .i64 0)), .d (.sc (.int .i64 0)), .nil] ∧
  ∃ v, s.ob 2 = .var 2 28 [.d (.sc (.int .i64 C)), .d (.sc (.int .i64 R)), .own 3 v] ∧ s.ob 3 = .row v 33 3 ((turnL R C l k).map encIt) true

theorem implTurn_m (m : Mt) : Meets Try.prog 18 [(true, encMt m)] [(true, encMt (turnM m), true), (false, [.sc (.bool (mtB m))], true)] := by
  obtain ⟨r, c, l⟩ := m
  refine meets_of Try.func18 rfl (by kernel_rfl) (by simp) Try.ntmps18 (congrArg Array.toList Try.results18) ?_
  simp only [go_sem, ↓reduceIte, Nat.reduceAdd, Nat.reduceSub, Nat.reduceMul, Nat.reduceLT, Nat.reduceLeDiff, Nat.reduceEqDiff, Int.reduceLT, Int.reduceLE, Int.reduceEq, Nat.reduceBEq, reduceCtorEq, reduceCtorEq, encMt, encIts]
  refine astep_call rfl (isMt_m ⟨r, c, l⟩) rfl rfl (by simp only [go_sem, ↓reduceIte, Nat.reduceAdd, Nat.reduceSub, Nat.reduceMul, Nat.reduceLT, Nat.reduceLeDiff, Nat.reduceEqDiff, Int.reduceLT, Int.reduceLE, Int.reduceEq, Nat.reduceBEq, reduceCtorEq, reduceCtorEq, encMt, encIts]) ?_
  cases hb : mtB ⟨r, c, l⟩
  · have ht : turnM ⟨r, c, l⟩ = ⟨0, 0, []⟩ := by unfold turnM; rw [if_neg (by simp [hb])]
    simp only [go_sem, ↓reduceIte, Nat.reduceAdd, Nat.reduceSub, Nat.reduceMul, Nat.reduceLT, Nat.reduceLeDiff, Nat.reduceEqDiff, Int.reduceLT, Int.reduceLE, Int.reduceEq, Nat.reduceBEq, reduceCtorEq, reduceCtorEq, hb, ht, encMt, encIts]
    refine Or.inl ?_; repeat' (first | exact gives_nil | exact trivial | with_reducible apply gives_sc | with_reducible apply gives_nilS (by decide) | with_reducible apply gives_own | with_reducible apply Exists.intro | with_reducible apply And.intro | (show (_ : Option Ob) = _; simp only [go_sem, ↓reduceIte, Nat.reduceAdd, Nat.reduceSub, Nat.reduceMul, Nat.reduceLT, Nat.reduceLeDiff, Nat.reduceEqDiff, Int.reduceLT, Int.reduceLE, Int.reduceEq, Nat.reduceBEq, reduceCtorEq, reduceCtorEq, true_and]))
  · obtain ⟨h1, h2, h3, h4, hq5⟩ := mtB_dims hb
    simp only at h1 h2 h3 h4 hq5
    obtain ⟨R, rfl⟩ := Int.eq_ofNat_of_zero_le h1
    obtain ⟨C, rfl⟩ := Int.eq_ofNat_of_zero_le h3
    have ht : turnM ⟨R, C, l⟩ = ⟨C, R, turnL R C l (C * R)⟩ := by unfold turnM; rw [if_pos hb]; simp
    have hR : R ≤ 12 := by omega
    have hC : C ≤ 12 := by omega
    have hD : l.length = R * C := by exact_mod_cast hq5
    simp only [go_sem, ↓reduceIte, Nat.reduceAdd, Nat.reduceSub, Nat.reduceMul, Nat.reduceLT, Nat.reduceLeDiff, Nat.reduceEqDiff, Int.reduceLT, Int.reduceLE, Int.reduceEq, Nat.reduceBEq, reduceCtorEq, reduceCtorEq, hb, ht, encMt, encIts]
    refine awp_nilcell (el := 33) (k := 3) (i := 2) (j := 2) (st := 2) (by decide) rfl rfl ?_
    refine awp_loop (fun s m => ∃ i : Nat, i ≤ C ∧ m = C - i ∧ s.sl 5 = .p false [.d (.sc (.int .i64 i))] ∧ TI 4 R C l (i * R) s) C ?_ ?_
    · exact ⟨0, Nat.zero_le _, rfl, rfl, rfl, rfl, rfl, rfl, rfl, rfl, 3, rfl, by rw [Nat.zero_mul]; rfl⟩
    · rintro s m ⟨i, hi, rfl, h5, hn, g1, g2, g4, o0, o1, v, o2, o3⟩
      by_cases hlt : i < C
      · have hd : decide ((i : Int) < (C : Int)) = true := by simpa using hlt
        have hw : IntKind.i64.wrap ((i : Int) + 1) = (i + 1 : Nat) := wrapN (i + 1) (by omega)
        simp only [go_sem, ↓reduceIte, Nat.reduceAdd, Nat.reduceSub, Nat.reduceMul, Nat.reduceLT, Nat.reduceLeDiff, Nat.reduceEqDiff, Int.reduceLT, Int.reduceLE, Int.reduceEq, Nat.reduceBEq, reduceCtorEq, reduceCtorEq, g1, h5, hn, o0, encMt, encIts, hd]
        refine awp_loop (fun s m => ∃ j : Nat, j ≤ R ∧ m = R - j ∧ s.sl 6 = .p false [.d (.sc (.int .i64 j))] ∧ s.sl 5 = .p false [.d (.sc (.int .i64 i))] ∧ TI 4 R C l (i * R + j) s) R ?_ ?_
        · exact ⟨0, Nat.zero_le _, rfl, rfl, h5, rfl, g1, g2, g4, o0, o1, v, o2, o3⟩
        · clear h5 hn g1 g2 g4 o0 o1 o2 o3
          rintro s m ⟨j, hj, rfl, h6, h5, hn, g1, g2, g4, o0, o1, v, o2, o3⟩
          by_cases hjt : j < R
          · have hd : decide ((j : Int) < (R : Int)) = true := by simpa using hjt
            have hw : IntKind.i64.wrap ((j : Int) + 1) = (j + 1 : Nat) := wrapN (j + 1) (by omega)
            have hx := turn_get hlt hjt hD
            have hix := (turn_ix hlt hjt hD).2.2
            have hbd := sq_bd hlt hj hR hC
            have hsu := turnL_succ R C l (i * R + j)
            have hLL := turnL_len R C l (i * R + j)
            generalize turnAt R C l (i * R + j) = x at *
            generalize hL : turnL R C l (i * R + j) = L at *
            simp only [go_sem, ↓reduceIte, Nat.reduceAdd, Nat.reduceSub, Nat.reduceMul, Nat.reduceLT, Nat.reduceLeDiff, Nat.reduceEqDiff, Int.reduceLT, Int.reduceLE, Int.reduceEq, Nat.reduceBEq, reduceCtorEq, reduceCtorEq, g1, h6, h5, hn, o0, encMt, encIts, hd]
            refine awp_drawn (n := 7) false (by kernel_rfl) (by kernel_rfl) ?_
            simp only [go_sem, ↓reduceIte, Nat.reduceAdd, Nat.reduceSub, Nat.reduceMul, Nat.reduceLT, Nat.reduceLeDiff, Nat.reduceEqDiff, Int.reduceLT, Int.reduceLE, Int.reduceEq, Nat.reduceBEq, reduceCtorEq, reduceCtorEq, g1, g4, h6, h5, hn, o0, o2, encMt, encIts]
            refine hcall rfl (cellAt_m R C j i l x hx (by rw [hD] at hix; have := Nat.mul_le_mul hR hC; omega)) rfl (by simp only [go_sem, ↓reduceIte, Nat.reduceAdd, Nat.reduceSub, Nat.reduceMul, Nat.reduceLT, Nat.reduceLeDiff, Nat.reduceEqDiff, Int.reduceLT, Int.reduceLE, Int.reduceEq, Nat.reduceBEq, reduceCtorEq, reduceCtorEq, encMt, encIts]) (by simp) ?_
            simp only [go_sem, ↓reduceIte, Nat.reduceAdd, Nat.reduceSub, Nat.reduceMul, Nat.reduceLT, Nat.reduceLeDiff, Nat.reduceEqDiff, Int.reduceLT, Int.reduceLE, Int.reduceEq, Nat.reduceBEq, reduceCtorEq, reduceCtorEq, encIt, hn]
            refine astep_app (i := 3) (st := v) (es := L.map encIt) (news := [encIt x]) rfl rfl tel_26 tzero_33 rfl tby_33 rfl rfl (src_flat (t := 33) (by simp only [go_sem, ↓reduceIte, Nat.reduceAdd, Nat.reduceSub, Nat.reduceMul, Nat.reduceLT, Nat.reduceLeDiff, Nat.reduceEqDiff, Int.reduceLT, Int.reduceLE, Int.reduceEq, Nat.reduceBEq, reduceCtorEq, reduceCtorEq, encIt]) (encIts_flat [x])) (by simp only [go_sem, ↓reduceIte, Nat.reduceAdd, Nat.reduceSub, Nat.reduceMul, Nat.reduceLT, Nat.reduceLeDiff, Nat.reduceEqDiff, Int.reduceLT, Int.reduceLE, Int.reduceEq, Nat.reduceBEq, reduceCtorEq, reduceCtorEq, o3]) ?_ ?_ ?_
            · simp [hLL]; omega
            · simp [hLL]; omega
            simp only [go_sem, ↓reduceIte, Nat.reduceAdd, Nat.reduceSub, Nat.reduceMul, Nat.reduceLT, Nat.reduceLeDiff, Nat.reduceEqDiff, Int.reduceLT, Int.reduceLE, Int.reduceEq, Nat.reduceBEq, reduceCtorEq, reduceCtorEq, g4, h6, hw, o2]
            exact ⟨4, R - (j + 1), by omega, by omega, j + 1, by omega, rfl, rfl, h5, rfl, g1, g2, g4, o0, o1, _, rfl, by rw [← Nat.add_assoc, hsu, List.map_append]; rfl⟩
          · obtain rfl : j = R := by omega
            have hd : decide ((j : Int) < (j : Int)) = false := by simp
            simp only [go_sem, ↓reduceIte, Nat.reduceAdd, Nat.reduceSub, Nat.reduceMul, Nat.reduceLT, Nat.reduceLeDiff, Nat.reduceEqDiff, Int.reduceLT, Int.reduceLE, Int.reduceEq, Nat.reduceBEq, reduceCtorEq, reduceCtorEq, g1, h6, h5, hn, o0, encMt, encIts, hd, hw]
            exact ⟨4, C - (i + 1), by omega, by omega, i + 1, by omega, rfl, rfl, rfl, g1, g2, g4, o0, o1, v, o2, by rw [Nat.add_mul, Nat.one_mul]; exact o3⟩
      · obtain rfl : i = C := by omega
        have hd : decide ((i : Int) < (i : Int)) = false := by simp
        simp only [go_sem, ↓reduceIte, Nat.reduceAdd, Nat.reduceSub, Nat.reduceMul, Nat.reduceLT, Nat.reduceLeDiff, Nat.reduceEqDiff, Int.reduceLT, Int.reduceLE, Int.reduceEq, Nat.reduceBEq, reduceCtorEq, reduceCtorEq, g1, g2, g4, h5, hn, o0, o1, o2, o3, encMt, encIts, hd]
        refine Or.inl ?_; repeat' (first | exact gives_nil | exact trivial | with_reducible apply gives_sc | with_reducible apply gives_nilS (by decide) | with_reducible apply gives_own | with_reducible apply Exists.intro | with_reducible apply And.intro | (show (_ : Option Ob) = _; simp only [go_sem, ↓reduceIte, Nat.reduceAdd, Nat.reduceSub, Nat.reduceMul, Nat.reduceLT, Nat.reduceLeDiff, Nat.reduceEqDiff, Int.reduceLT, Int.reduceLE, Int.reduceEq, Nat.reduceBEq, reduceCtorEq, reduceCtorEq, o3]))

theorem l14Turn_m (R C : Nat) (l : List It) (hD : l.length = R * C) (hR : R ≤ 12) (hC : C ≤ 12) : Meets Try.prog 49 [(true, encMt ⟨R, C, l⟩)] [(true, encMt ⟨C, R, turnL R C l (C * R)⟩, true)] := by
  refine meets_of Try.func49 rfl (by kernel_rfl) (by simp) Try.ntmps49 (congrArg Array.toList Try.results49) ?_
  simp only [go_sem, ↓reduceIte, Nat.reduceAdd, Nat.reduceSub, Nat.reduceMul, Nat.reduceLT, Nat.reduceLeDiff, Nat.reduceEqDiff, Int.reduceLT, Int.reduceLE, Int.reduceEq, Nat.reduceBEq, reduceCtorEq, reduceCtorEq, encMt, encIts]
  refine awp_nilcell (el := 33) (k := 3) (i := 2) (j := 2) (st := 2) (by decide) rfl rfl ?_
  refine awp_loop (fun s m => ∃ i : Nat, i ≤ C ∧ m = C - i ∧ s.sl 4 = .p false [.d (.sc (.int .i64 i))] ∧ TI 3 R C l (i * R) s) C ?_ ?_
  · exact ⟨0, Nat.zero_le _, rfl, rfl, rfl, rfl, rfl, rfl, rfl, rfl, 3, rfl, by rw [Nat.zero_mul]; rfl⟩
  · rintro s m ⟨i, hi, rfl, h5, hn, g1, g2, g4, o0, o1, v, o2, o3⟩
    by_cases hlt : i < C
    · have hd : decide ((i : Int) < (C : Int)) = true := by simpa using hlt
      have hw : IntKind.i64.wrap ((i : Int) + 1) = (i + 1 : Nat) := wrapN (i + 1) (by omega)
      simp only [go_sem, ↓reduceIte, Nat.reduceAdd, Nat.reduceSub, Nat.reduceMul, Nat.reduceLT, Nat.reduceLeDiff, Nat.reduceEqDiff, Int.reduceLT, Int.reduceLE, Int.reduceEq, Nat.reduceBEq, reduceCtorEq, reduceCtorEq, g1, h5, hn, o0, encMt, encIts, hd]
      refine awp_loop (fun s m => ∃ j : Nat, j ≤ R ∧ m = R - j ∧ s.sl 5 = .p false [.d (.sc (.int .i64 j))] ∧ s.sl 4 = .p false [.d (.sc (.int .i64 i))] ∧ TI 3 R C l (i * R + j) s) R ?_ ?_
      · exact ⟨0, Nat.zero_le _, rfl, rfl, h5, rfl, g1, g2, g4, o0, o1, v, o2, o3⟩
      · clear h5 hn g1 g2 g4 o0 o1 o2 o3
        rintro s m ⟨j, hj, rfl, h6, h5, hn, g1, g2, g4, o0, o1, v, o2, o3⟩
        by_cases hjt : j < R
        · have hd : decide ((j : Int) < (R : Int)) = true := by simpa using hjt
          have hw : IntKind.i64.wrap ((j : Int) + 1) = (j + 1 : Nat) := wrapN (j + 1) (by omega)
          have hx := turn_get hlt hjt hD
          have hix := (turn_ix hlt hjt hD).2.2
          have hb2 := Nat.mul_le_mul hR hC
          have hw1 : IntKind.i64.wrap ((j : Int) * C) = (j * C : Nat) := by rw [← Int.natCast_mul, wrapN _ (by omega)]
          have hw2 : IntKind.i64.wrap (((j * C : Nat) : Int) + i) = (j * C + i : Nat) := by rw [← Int.natCast_add, wrapN _ (by omega)]
          have hbd := sq_bd hlt hj hR hC
          have hsu := turnL_succ R C l (i * R + j)
          have hLL := turnL_len R C l (i * R + j)
          generalize turnAt R C l (i * R + j) = x at *
          generalize hL : turnL R C l (i * R + j) = L at *
          simp only [go_sem, ↓reduceIte, Nat.reduceAdd, Nat.reduceSub, Nat.reduceMul, Nat.reduceLT, Nat.reduceLeDiff, Nat.reduceEqDiff, Int.reduceLT, Int.reduceLE, Int.reduceEq, Nat.reduceBEq, reduceCtorEq, reduceCtorEq, g1, h6, h5, hn, o0, encMt, encIts, hd]
          refine awp_drawn (n := 13) false (by kernel_rfl) (by kernel_rfl) ?_
          simp only [go_sem, ↓reduceIte, Nat.reduceAdd, Nat.reduceSub, Nat.reduceMul, Nat.reduceLT, Nat.reduceLeDiff, Nat.reduceEqDiff, Int.reduceLT, Int.reduceLE, Int.reduceEq, Nat.reduceBEq, reduceCtorEq, reduceCtorEq, g1, g4, h6, h5, hn, o0, o2, encMt, encIts, hw1, hw2, List.getElem?_map, hx, Option.map_some, encIt]
          refine astep_app (i := 3) (st := v) (es := L.map encIt) (news := [encIt x]) rfl rfl tel_26 tzero_33 rfl tby_33 rfl rfl (src_flat (t := 33) (by simp only [go_sem, ↓reduceIte, Nat.reduceAdd, Nat.reduceSub, Nat.reduceMul, Nat.reduceLT, Nat.reduceLeDiff, Nat.reduceEqDiff, Int.reduceLT, Int.reduceLE, Int.reduceEq, Nat.reduceBEq, reduceCtorEq, reduceCtorEq, encIt]) (encIts_flat [x])) (by simp only [go_sem, ↓reduceIte, Nat.reduceAdd, Nat.reduceSub, Nat.reduceMul, Nat.reduceLT, Nat.reduceLeDiff, Nat.reduceEqDiff, Int.reduceLT, Int.reduceLE, Int.reduceEq, Nat.reduceBEq, reduceCtorEq, reduceCtorEq, o3]) ?_ ?_ ?_
          · simp [hLL]; omega
          · simp [hLL]; omega
          simp only [go_sem, ↓reduceIte, Nat.reduceAdd, Nat.reduceSub, Nat.reduceMul, Nat.reduceLT, Nat.reduceLeDiff, Nat.reduceEqDiff, Int.reduceLT, Int.reduceLE, Int.reduceEq, Nat.reduceBEq, reduceCtorEq, reduceCtorEq, g4, h6, hw, o2]
          exact ⟨4, R - (j + 1), by omega, by omega, j + 1, by omega, rfl, rfl, h5, rfl, g1, g2, g4, o0, o1, _, rfl, by rw [← Nat.add_assoc, hsu, List.map_append]; rfl⟩
        · obtain rfl : j = R := by omega
          have hd : decide ((j : Int) < (j : Int)) = false := by simp
          simp only [go_sem, ↓reduceIte, Nat.reduceAdd, Nat.reduceSub, Nat.reduceMul, Nat.reduceLT, Nat.reduceLeDiff, Nat.reduceEqDiff, Int.reduceLT, Int.reduceLE, Int.reduceEq, Nat.reduceBEq, reduceCtorEq, reduceCtorEq, g1, h6, h5, hn, o0, encMt, encIts, hd, hw]
          exact ⟨4, C - (i + 1), by omega, by omega, i + 1, by omega, rfl, rfl, rfl, g1, g2, g4, o0, o1, v, o2, by rw [Nat.add_mul, Nat.one_mul]; exact o3⟩
    · obtain rfl : i = C := by omega
      have hd : decide ((i : Int) < (i : Int)) = false := by simp
      simp only [go_sem, ↓reduceIte, Nat.reduceAdd, Nat.reduceSub, Nat.reduceMul, Nat.reduceLT, Nat.reduceLeDiff, Nat.reduceEqDiff, Int.reduceLT, Int.reduceLE, Int.reduceEq, Nat.reduceBEq, reduceCtorEq, reduceCtorEq, g1, g2, g4, h5, hn, o0, o1, o2, o3, encMt, encIts, hd]
      refine Or.inl ?_; repeat' (first | exact gives_nil | exact trivial | with_reducible apply gives_sc | with_reducible apply gives_nilS (by decide) | with_reducible apply gives_own | with_reducible apply Exists.intro | with_reducible apply And.intro | (show (_ : Option Ob) = _; simp only [go_sem, ↓reduceIte, Nat.reduceAdd, Nat.reduceSub, Nat.reduceMul, Nat.reduceLT, Nat.reduceLeDiff, Nat.reduceEqDiff, Int.reduceLT, Int.reduceLE, Int.reduceEq, Nat.reduceBEq, reduceCtorEq, reduceCtorEq, o3]))
end Go.Proofs.Ytolkglnkdfcceaa
