/- spec.DrawMatchArguments: some few labels. -/
import Derived.Test.YtmbjaohohkfjbaaUDrM
import Derived.Test.YtmbjaohohkfjbaaCur
import Derived.Test.YtmbjaohohkfjbaaVdT
import Derived.Test.YtmbjaohohkfjbaaTypB
namespace Go.Proofs.Ytmbjaohohkfjbaa
open Go.RowKit
set_option linter.unusedVariables false
set_option linter.unusedSimpArgs false
set_option maxRecDepth 100000

def smallS (n : Nat) (F : List ByteArray) : Prop := F.length ≤ n ∧ ∀ x ∈ F, x.size ≤ 5
theorem smallS.app {n : Nat} {F : List ByteArray} {s : ByteArray} (h : smallS n F) (hs : s.size ≤ 5) : smallS (n + 1) (F ++ [s]) := by
  refine ⟨by simp; exact h.1, fun x hx => ?_⟩
  rcases List.mem_append.1 hx with hx | hx
  · exact h.2 x hx
  · rw [List.mem_singleton] at hx; exact hx ▸ hs
def drF : List ByteArray := [⟨#[120]⟩, ⟨#[118, 97, 108, 117, 101]⟩, ⟨#[118, 97, 108]⟩, ⟨#[121]⟩, ⟨#[46, 46, 46]⟩, ⟨#[98]⟩]
def drL : List ByteArray := [⟨#[]⟩, ⟨#[]⟩, ⟨#[120]⟩, ⟨#[118, 97]⟩, ⟨#[118, 97, 108]⟩, ⟨#[118]⟩, ⟨#[121]⟩, ⟨#[118, 97, 108, 117, 101]⟩, ⟨#[122, 122]⟩]
theorem drF_size : ∀ x ∈ drF, x.size ≤ 5 := by decide
theorem drL_size : ∀ x ∈ drL, x.size ≤ 5 := by decide
set_option maxHeartbeats 2000000 in
theorem draw_m (l : List Int) (hl : l.length ≤ 1048576) : ∃ a : List ByteArray × List ByteArray, (smallS 5 a.1 ∧ smallS 5 a.2) ∧ Meets Try.prog 5 [(false, [encU8s l])] [(false, [encSs a.1], true), (false, [encSs a.2], true)] := by
  refine meets_ex Try.func5 u_spec_DrawMatchArguments_g rfl (by kernel_rfl) ?_; simp only [u_spec_DrawMatchArguments_u]
  simp only [encSs]
  simp (disch := first | omega | (simp only [List.length_take, List.length_drop, List.length_append, List.map_cons, List.map_nil, List.length_map, List.length_cons, List.length_nil, List.length_set, List.length_replicate]; omega) | (simp only [List.length_cons, List.length_nil, Nat.zero_add, Nat.reduceAdd])) only [go_sem, ↓reduceIte, Nat.reduceAdd, Int.reduceNeg, Int.reduceAdd, Int.reduceSub, Int.reduceMul, Int.reduceLT, Int.reduceLE, Int.reduceEq, Int.reduceToNat, Nat.reduceBEq, e_sle, e_sge, e_shl1, e_orI, e_andI, e_shr, wrapu, wrap8, tn1, nat1, ix_s, ix_z, st_s, st_z, fl_s, fl_z, fl1_s, fl1_z, map_s, map_z, true_and]
  refine cl_okN (new_m l (by omega)) rfl ?_
  have hN : 0 ≤ (newC l).i := Int.le_refl 0
  generalize newC l = c0 at *
  simp (disch := first | omega | (simp only [List.length_take, List.length_drop, List.length_append, List.map_cons, List.map_nil, List.length_map, List.length_cons, List.length_nil, List.length_set, List.length_replicate]; omega) | (simp only [List.length_cons, List.length_nil, Nat.zero_add, Nat.reduceAdd])) only [go_sem, ↓reduceIte, Nat.reduceAdd, Int.reduceNeg, Int.reduceAdd, Int.reduceSub, Int.reduceMul, Int.reduceLT, Int.reduceLE, Int.reduceEq, Int.reduceToNat, Nat.reduceBEq, e_sle, e_sge, e_shl1, e_orI, e_andI, e_shr, wrapu, wrap8, tn1, nat1, ix_s, ix_z, st_s, st_z, fl_s, fl_z, fl1_s, fl1_z, map_s, map_z, true_and]
  have b0 := below_m l c0 5 hN (by omega) (by omega)
  have r0 := belowV_rng l c0 (n := 5) (by omega)
  have p0 := belowC_pos (l := l) (n := 5) hN
  refine cl_okC b0 rfl ?_
  generalize belowV l c0 5 = n0 at *
  generalize belowC l c0 5 = c1 at *
  simp (disch := first | omega | (simp only [List.length_take, List.length_drop, List.length_append, List.map_cons, List.map_nil, List.length_map, List.length_cons, List.length_nil, List.length_set, List.length_replicate]; omega) | (simp only [List.length_cons, List.length_nil, Nat.zero_add, Nat.reduceAdd])) only [go_sem, ↓reduceIte, Nat.reduceAdd, Int.reduceNeg, Int.reduceAdd, Int.reduceSub, Int.reduceMul, Int.reduceLT, Int.reduceLE, Int.reduceEq, Int.reduceToNat, Nat.reduceBEq, e_sle, e_sge, e_shl1, e_orI, e_andI, e_shr, wrapu, wrap8, tn1, nat1, ix_s, ix_z, st_s, st_z, fl_s, fl_z, fl1_s, fl1_z, map_s, map_z, true_and]
  refine lp (fun s : Int × Cu × List ByteArray => [.sc (.int .i64 s.1), cvD 41 (encU8s l) s.2.1.cs, .sl 9 1 (s.2.2.map encS)]) (fun s => 0 ≤ s.1 ∧ s.1 ≤ 4 ∧ 0 ≤ s.2.1.i ∧ smallS (4 - s.1.toNat) s.2.2) (fun s => s.1.toNat) (n0, c1, []) rfl ⟨r0.1, by simp only; omega, p0, by simp, by simp⟩ ?_
  rintro ⟨n, c, F⟩ ⟨g1, g2, g3, g4⟩
  simp only at g1 g2 g3 g4 ⊢
  simp only [u_spec_DrawMatchArguments_l2]
  have b1 := below_m l c 5 g3 (by omega) (by omega)
  have r1 := belowV_rng l c (n := 5) (by omega)
  have p1 := belowC_pos (l := l) (n := 5) g3
  simp (disch := first | omega | (simp only [List.length_take, List.length_drop, List.length_append, List.map_cons, List.map_nil, List.length_map, List.length_cons, List.length_nil, List.length_set, List.length_replicate]; omega) | (simp only [List.length_cons, List.length_nil, Nat.zero_add, Nat.reduceAdd])) only [go_sem, ↓reduceIte, Nat.reduceAdd, Int.reduceNeg, Int.reduceAdd, Int.reduceSub, Int.reduceMul, Int.reduceLT, Int.reduceLE, Int.reduceEq, Int.reduceToNat, Nat.reduceBEq, e_sle, e_sge, e_shl1, e_orI, e_andI, e_shr, wrapu, wrap8, tn1, nat1, ix_s, ix_z, st_s, st_z, fl_s, fl_z, fl1_s, fl1_z, map_s, map_z, true_and]
  refine br_if (fun hbr => ?_) (fun hbr => ?_)
  · simp (disch := first | omega | (simp only [List.length_take, List.length_drop, List.length_append, List.map_cons, List.map_nil, List.length_map, List.length_cons, List.length_nil, List.length_set, List.length_replicate]; omega) | (simp only [List.length_cons, List.length_nil, Nat.zero_add, Nat.reduceAdd])) only [go_sem, ↓reduceIte, Nat.reduceAdd, Int.reduceNeg, Int.reduceAdd, Int.reduceSub, Int.reduceMul, Int.reduceLT, Int.reduceLE, Int.reduceEq, Int.reduceToNat, Nat.reduceBEq, e_sle, e_sge, e_shl1, e_orI, e_andI, e_shr, wrapu, wrap8, tn1, nat1, ix_s, ix_z, st_s, st_z, fl_s, fl_z, fl1_s, fl1_z, map_s, map_z, true_and]
    refine jn_in ?_
    simp (disch := first | omega | (simp only [List.length_take, List.length_drop, List.length_append, List.map_cons, List.map_nil, List.length_map, List.length_cons, List.length_nil, List.length_set, List.length_replicate]; omega) | (simp only [List.length_cons, List.length_nil, Nat.zero_add, Nat.reduceAdd])) only [go_sem, ↓reduceIte, Nat.reduceAdd, Int.reduceNeg, Int.reduceAdd, Int.reduceSub, Int.reduceMul, Int.reduceLT, Int.reduceLE, Int.reduceEq, Int.reduceToNat, Nat.reduceBEq, e_sle, e_sge, e_shl1, e_orI, e_andI, e_shr, wrapu, wrap8, tn1, nat1, ix_s, ix_z, st_s, st_z, fl_s, fl_z, fl1_s, fl1_z, map_s, map_z, true_and]
    have g5 := g4.1
    have hp := pick_m 9 l c drF g3 (by omega) (by decide) (by decide)
    have hs : (drF.getD (belowV l c drF.length).toNat default).size ≤ 5 := by
      have hr := belowV_rng l c (n := drF.length) (by decide)
      exact drF_size _ (getD_mem (by omega))
    have p2 := belowC_pos (l := l) (n := drF.length) g3
    generalize drF.getD (belowV l c drF.length).toNat default = x at *
    generalize belowC l c drF.length = c2 at *
    refine cl_okC hp rfl ?_
    have hh := l1Has_m 9 F x (by have := g4.1; omega)
    have ho := once_m l c2 12 p2 (by omega) (by omega)
    have p3 := belowC_pos (l := l) (n := 12) p2
    repeat' (first | (with_reducible refine jn_in ?_) | (with_reducible refine cl_ok (by assumption) rfl ?_) | (with_reducible refine cl_okP (by assumption) rfl ?_) | (with_reducible refine br_if (fun hbr => ?_) (fun hbr => ?_)) | (with_reducible refine br_ifn (fun hbr => ?_) (fun hbr => ?_)) | (with_reducible refine br_nb (fun hbr => ?_) (fun hbr => ?_)) | (with_reducible refine br_b (fun hbr => ?_) (fun hbr => ?_)) | simp (disch := first | omega | (simp only [List.length_take, List.length_drop, List.length_append, List.map_cons, List.map_nil, List.length_map, List.length_cons, List.length_nil, List.length_set, List.length_replicate]; omega) | (simp only [List.length_cons, List.length_nil, Nat.zero_add, Nat.reduceAdd])) only [go_sem, ↓reduceIte, Nat.reduceAdd, Int.reduceNeg, Int.reduceAdd, Int.reduceSub, Int.reduceMul, Int.reduceLT, Int.reduceLE, Int.reduceEq, Int.reduceToNat, Nat.reduceBEq, e_sle, e_sge, e_shl1, e_orI, e_andI, e_shr, wrapu, wrap8, tn1, nat1, ix_s, ix_z, st_s, st_z, fl_s, fl_z, fl1_s, fl1_z, map_s, map_z, u_spec_DrawMatchArguments_j0])
    · refine cl_okC ho rfl ?_
      repeat' (first | (with_reducible refine jn_in ?_) | (with_reducible refine cl_ok (by assumption) rfl ?_) | (with_reducible refine cl_okP (by assumption) rfl ?_) | (with_reducible refine br_if (fun hbr => ?_) (fun hbr => ?_)) | (with_reducible refine br_ifn (fun hbr => ?_) (fun hbr => ?_)) | (with_reducible refine br_nb (fun hbr => ?_) (fun hbr => ?_)) | (with_reducible refine br_b (fun hbr => ?_) (fun hbr => ?_)) | simp (disch := first | omega | (simp only [List.length_take, List.length_drop, List.length_append, List.map_cons, List.map_nil, List.length_map, List.length_cons, List.length_nil, List.length_set, List.length_replicate]; omega) | (simp only [List.length_cons, List.length_nil, Nat.zero_add, Nat.reduceAdd])) only [go_sem, ↓reduceIte, Nat.reduceAdd, Int.reduceNeg, Int.reduceAdd, Int.reduceSub, Int.reduceMul, Int.reduceLT, Int.reduceLE, Int.reduceEq, Int.reduceToNat, Nat.reduceBEq, e_sle, e_sge, e_shl1, e_orI, e_andI, e_shr, wrapu, wrap8, tn1, nat1, ix_s, ix_z, st_s, st_z, fl_s, fl_z, fl1_s, fl1_z, map_s, map_z, u_spec_DrawMatchArguments_j0])
      · exact ⟨(n - 1, belowC l c2 12, F ++ [x]), by simp, ⟨by simp only; omega, by simp only; omega, p3, by simp only; have := g4.app hs; rwa [show 4 - n.toNat + 1 = 4 - (n - 1).toNat by omega] at this⟩, by simp only; omega⟩
      · exact ⟨(n - 1, belowC l c2 12, F), by simp, ⟨by simp only; omega, by simp only; omega, p3, by simp only; exact ⟨by have := g4.1; omega, g4.2⟩⟩, by simp only; omega⟩
    · exact ⟨(n - 1, c2, F ++ [x]), by simp, ⟨by simp only; omega, by simp only; omega, p2, by simp only; have := g4.app hs; rwa [show 4 - n.toNat + 1 = 4 - (n - 1).toNat by omega] at this⟩, by simp only; omega⟩
  · obtain rfl : n = 0 := by omega
    simp (disch := first | omega | (simp only [List.length_take, List.length_drop, List.length_append, List.map_cons, List.map_nil, List.length_map, List.length_cons, List.length_nil, List.length_set, List.length_replicate]; omega) | (simp only [List.length_cons, List.length_nil, Nat.zero_add, Nat.reduceAdd])) only [go_sem, ↓reduceIte, Nat.reduceAdd, Int.reduceNeg, Int.reduceAdd, Int.reduceSub, Int.reduceMul, Int.reduceLT, Int.reduceLE, Int.reduceEq, Int.reduceToNat, Nat.reduceBEq, e_sle, e_sge, e_shl1, e_orI, e_andI, e_shr, wrapu, wrap8, tn1, nat1, ix_s, ix_z, st_s, st_z, fl_s, fl_z, fl1_s, fl1_z, map_s, map_z, true_and]
    refine cl_okC b1 rfl ?_
    generalize belowV l c 5 = n1 at *
    generalize belowC l c 5 = c2 at *
    simp (disch := first | omega | (simp only [List.length_take, List.length_drop, List.length_append, List.map_cons, List.map_nil, List.length_map, List.length_cons, List.length_nil, List.length_set, List.length_replicate]; omega) | (simp only [List.length_cons, List.length_nil, Nat.zero_add, Nat.reduceAdd])) only [go_sem, ↓reduceIte, Nat.reduceAdd, Int.reduceNeg, Int.reduceAdd, Int.reduceSub, Int.reduceMul, Int.reduceLT, Int.reduceLE, Int.reduceEq, Int.reduceToNat, Nat.reduceBEq, e_sle, e_sge, e_shl1, e_orI, e_andI, e_shr, wrapu, wrap8, tn1, nat1, ix_s, ix_z, st_s, st_z, fl_s, fl_z, fl1_s, fl1_z, map_s, map_z, true_and]
    refine lp (fun s : Int × Cu × List ByteArray => [.sc (.int .i64 s.1), cvD 41 (encU8s l) s.2.1.cs, .sl 9 1 (s.2.2.map encS)]) (fun s => 0 ≤ s.1 ∧ s.1 ≤ 4 ∧ 0 ≤ s.2.1.i ∧ smallS (4 - s.1.toNat) s.2.2) (fun s => s.1.toNat) (n1, c2, []) rfl ⟨r1.1, by simp only; omega, p1, by simp, by simp⟩ ?_
    rintro ⟨n, c, M⟩ ⟨k1, k2, k3, k4⟩
    simp only at k1 k2 k3 k4 ⊢
    simp only [u_spec_DrawMatchArguments_l1]
    simp (disch := first | omega | (simp only [List.length_take, List.length_drop, List.length_append, List.map_cons, List.map_nil, List.length_map, List.length_cons, List.length_nil, List.length_set, List.length_replicate]; omega) | (simp only [List.length_cons, List.length_nil, Nat.zero_add, Nat.reduceAdd])) only [go_sem, ↓reduceIte, Nat.reduceAdd, Int.reduceNeg, Int.reduceAdd, Int.reduceSub, Int.reduceMul, Int.reduceLT, Int.reduceLE, Int.reduceEq, Int.reduceToNat, Nat.reduceBEq, e_sle, e_sge, e_shl1, e_orI, e_andI, e_shr, wrapu, wrap8, tn1, nat1, ix_s, ix_z, st_s, st_z, fl_s, fl_z, fl1_s, fl1_z, map_s, map_z, true_and]
    refine br_if (fun hbr => ?_) (fun hbr => ?_)
    · simp (disch := first | omega | (simp only [List.length_take, List.length_drop, List.length_append, List.map_cons, List.map_nil, List.length_map, List.length_cons, List.length_nil, List.length_set, List.length_replicate]; omega) | (simp only [List.length_cons, List.length_nil, Nat.zero_add, Nat.reduceAdd])) only [go_sem, ↓reduceIte, Nat.reduceAdd, Int.reduceNeg, Int.reduceAdd, Int.reduceSub, Int.reduceMul, Int.reduceLT, Int.reduceLE, Int.reduceEq, Int.reduceToNat, Nat.reduceBEq, e_sle, e_sge, e_shl1, e_orI, e_andI, e_shr, wrapu, wrap8, tn1, nat1, ix_s, ix_z, st_s, st_z, fl_s, fl_z, fl1_s, fl1_z, map_s, map_z, true_and]
      have g5 := k4.1
      have hp := pick_m 9 l c drL k3 (by omega) (by decide) (by decide)
      have hs : (drL.getD (belowV l c drL.length).toNat default).size ≤ 5 := by
        have hr := belowV_rng l c (n := drL.length) (by decide)
        exact drL_size _ (getD_mem (by omega))
      have p2 := belowC_pos (l := l) (n := drL.length) k3
      generalize drL.getD (belowV l c drL.length).toNat default = x at *
      generalize belowC l c drL.length = c2 at *
      refine cl_okC hp rfl ?_
      repeat' (first | (with_reducible refine jn_in ?_) | (with_reducible refine cl_ok (by assumption) rfl ?_) | (with_reducible refine cl_okP (by assumption) rfl ?_) | (with_reducible refine br_if (fun hbr => ?_) (fun hbr => ?_)) | (with_reducible refine br_ifn (fun hbr => ?_) (fun hbr => ?_)) | (with_reducible refine br_nb (fun hbr => ?_) (fun hbr => ?_)) | (with_reducible refine br_b (fun hbr => ?_) (fun hbr => ?_)) | simp (disch := first | omega | (simp only [List.length_take, List.length_drop, List.length_append, List.map_cons, List.map_nil, List.length_map, List.length_cons, List.length_nil, List.length_set, List.length_replicate]; omega) | (simp only [List.length_cons, List.length_nil, Nat.zero_add, Nat.reduceAdd])) only [go_sem, ↓reduceIte, Nat.reduceAdd, Int.reduceNeg, Int.reduceAdd, Int.reduceSub, Int.reduceMul, Int.reduceLT, Int.reduceLE, Int.reduceEq, Int.reduceToNat, Nat.reduceBEq, e_sle, e_sge, e_shl1, e_orI, e_andI, e_shr, wrapu, wrap8, tn1, nat1, ix_s, ix_z, st_s, st_z, fl_s, fl_z, fl1_s, fl1_z, map_s, map_z, true_and])
      exact ⟨(n - 1, c2, M ++ [x]), by simp, ⟨by simp only; omega, by simp only; omega, p2, by simp only; have := k4.app hs; rwa [show 4 - n.toNat + 1 = 4 - (n - 1).toNat by omega] at this⟩, by simp only; omega⟩
    · simp (disch := first | omega | (simp only [List.length_take, List.length_drop, List.length_append, List.map_cons, List.map_nil, List.length_map, List.length_cons, List.length_nil, List.length_set, List.length_replicate]; omega) | (simp only [List.length_cons, List.length_nil, Nat.zero_add, Nat.reduceAdd])) only [go_sem, ↓reduceIte, Nat.reduceAdd, Int.reduceNeg, Int.reduceAdd, Int.reduceSub, Int.reduceMul, Int.reduceLT, Int.reduceLE, Int.reduceEq, Int.reduceToNat, Nat.reduceBEq, e_sle, e_sge, e_shl1, e_orI, e_andI, e_shr, wrapu, wrap8, tn1, nat1, ix_s, ix_z, st_s, st_z, fl_s, fl_z, fl1_s, fl1_z, map_s, map_z, true_and]
      exact ⟨(F, M), ⟨⟨by have := g4.1; simp at this ⊢; omega, g4.2⟩, ⟨by have := k4.1; simp at this ⊢; omega, k4.2⟩⟩, rfl⟩
end Go.Proofs.Ytmbjaohohkfjbaa
