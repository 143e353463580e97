/- InvertMatrix, both packages. -/
import Derived.Test.YtmanijpmkeheeaaUInv
import Derived.Test.YtmanijpmkeheeaaAug
namespace Go.Proofs.Ytmanijpmkeheeaa
open Go.RowKit
set_option linter.unusedVariables false
set_option linter.unusedSimpArgs false
set_option maxRecDepth 100000

def idF (i j : Nat) : It := if i = j then l2N 1 else l2N 0
def idL (n : Nat) : List It := gridL n idF (n * n)
theorem idL_len (n : Nat) : (idL n).length = n * n := gridL_len _ _ _
set_option maxHeartbeats 1000000 in
theorem implId_m (n : Nat) (hn : n ≤ 12) : Meets Try.prog 80 [(false, [.sc (.int .i64 (n : Nat))])] [(true, encMt ⟨n, n, idL n⟩, true)] := by
  have hi0 := mIntItem 0
  have hi1 := mIntItem 1
  rw [intN_eq (by omega)] at hi0 hi1
  have hnn : n * n ≤ 12 * 12 := Nat.mul_le_mul hn hn
  refine meets_upf Try.func80 u_impl_identity_g rfl ?_; simp only [u_impl_identity_u]
  simp only [encMt, encIts, encIt] at hi0 hi1 ⊢
  simp (disch := first | omega | (simp only [List.length_take, List.length_drop, List.length_append, List.map_cons, List.map_nil, List.length_map, List.length_cons, List.length_nil, List.length_set, List.length_replicate]; omega) | (simp only [List.length_cons, List.length_nil, Nat.zero_add, Nat.reduceAdd])) only [go_sem, ↓reduceIte, Nat.reduceAdd, Int.reduceNeg, Int.reduceAdd, Int.reduceSub, Int.reduceMul, Int.reduceLT, Int.reduceLE, Int.reduceEq, Int.reduceToNat, Nat.reduceBEq, true_and]
  refine lp_n n (fun i => [.sc (.int .i64 (i : Nat)), .sl 41 3 ((gridL n idF (i * n)).map encIt)]) (by rw [Nat.zero_mul]; rfl) fun i hi => ?_
  simp only [u_impl_identity_l2]
  simp (disch := first | omega | (simp only [List.length_take, List.length_drop, List.length_append, List.map_cons, List.map_nil, List.length_map, List.length_cons, List.length_nil, List.length_set, List.length_replicate]; omega) | (simp only [List.length_cons, List.length_nil, Nat.zero_add, Nat.reduceAdd])) only [go_sem, ↓reduceIte, Nat.reduceAdd, Int.reduceNeg, Int.reduceAdd, Int.reduceSub, Int.reduceMul, Int.reduceLT, Int.reduceLE, Int.reduceEq, Int.reduceToNat, Nat.reduceBEq, true_and]
  refine br_if (fun h => ?_) (fun h => ?_)
  · have hlt : i < n := by omega
    have hin : i * n ≤ 12 * 12 := Nat.mul_le_mul (by omega) hn
    simp (disch := first | omega | (simp only [List.length_take, List.length_drop, List.length_append, List.map_cons, List.map_nil, List.length_map, List.length_cons, List.length_nil, List.length_set, List.length_replicate]; omega) | (simp only [List.length_cons, List.length_nil, Nat.zero_add, Nat.reduceAdd])) only [go_sem, ↓reduceIte, Nat.reduceAdd, Int.reduceNeg, Int.reduceAdd, Int.reduceSub, Int.reduceMul, Int.reduceLT, Int.reduceLE, Int.reduceEq, Int.reduceToNat, Nat.reduceBEq, true_and]
    refine lp_n n (fun j => [.sc (.int .i64 (j : Nat)), .sl 41 3 ((gridL n idF (i * n + j)).map encIt)]) rfl fun j hj => ?_
    simp only [u_impl_identity_l1]
    simp (disch := first | omega | (simp only [List.length_take, List.length_drop, List.length_append, List.map_cons, List.map_nil, List.length_map, List.length_cons, List.length_nil, List.length_set, List.length_replicate]; omega) | (simp only [List.length_cons, List.length_nil, Nat.zero_add, Nat.reduceAdd])) only [go_sem, ↓reduceIte, Nat.reduceAdd, Int.reduceNeg, Int.reduceAdd, Int.reduceSub, Int.reduceMul, Int.reduceLT, Int.reduceLE, Int.reduceEq, Int.reduceToNat, Nat.reduceBEq, true_and]
    refine br_if (fun h1 => ?_) (fun h1 => ?_)
    · have hlj : j < n := by omega
      have hs := gridL_succ (i := i) idF hlj
      have hgl := gridL_len n idF (i * n + j)
      refine jn (fun vs => ∃ y0 y1 y2 y3, vs = [y0, .sl 41 3 ((gridL n idF (i * n + j + 1)).map encIt), y1, y2, y3]) ?_ ?_
      · simp (disch := first | omega | (simp only [List.length_take, List.length_drop, List.length_append, List.map_cons, List.map_nil, List.length_map, List.length_cons, List.length_nil, List.length_set, List.length_replicate]; omega) | (simp only [List.length_cons, List.length_nil, Nat.zero_add, Nat.reduceAdd])) only [go_sem, ↓reduceIte, Nat.reduceAdd, Int.reduceNeg, Int.reduceAdd, Int.reduceSub, Int.reduceMul, Int.reduceLT, Int.reduceLE, Int.reduceEq, Int.reduceToNat, Nat.reduceBEq, true_and]
        refine cl_ok hi0 rfl ?_
        simp (disch := first | omega | (simp only [List.length_take, List.length_drop, List.length_append, List.map_cons, List.map_nil, List.length_map, List.length_cons, List.length_nil, List.length_set, List.length_replicate]; omega) | (simp only [List.length_cons, List.length_nil, Nat.zero_add, Nat.reduceAdd])) only [go_sem, ↓reduceIte, Nat.reduceAdd, Int.reduceNeg, Int.reduceAdd, Int.reduceSub, Int.reduceMul, Int.reduceLT, Int.reduceLE, Int.reduceEq, Int.reduceToNat, Nat.reduceBEq, true_and]
        refine br_if (fun hij => ?_) (fun hij => ?_)
        · have e : idF i j = l2N 1 := if_pos (by omega)
          simp (disch := first | omega | (simp only [List.length_take, List.length_drop, List.length_append, List.map_cons, List.map_nil, List.length_map, List.length_cons, List.length_nil, List.length_set, List.length_replicate]; omega) | (simp only [List.length_cons, List.length_nil, Nat.zero_add, Nat.reduceAdd])) only [go_sem, ↓reduceIte, Nat.reduceAdd, Int.reduceNeg, Int.reduceAdd, Int.reduceSub, Int.reduceMul, Int.reduceLT, Int.reduceLE, Int.reduceEq, Int.reduceToNat, Nat.reduceBEq, true_and]
          refine cl_ok hi1 rfl ?_
          simp (disch := first | omega | (simp only [List.length_take, List.length_drop, List.length_append, List.map_cons, List.map_nil, List.length_map, List.length_cons, List.length_nil, List.length_set, List.length_replicate]; omega) | (simp only [List.length_cons, List.length_nil, Nat.zero_add, Nat.reduceAdd])) only [go_sem, ↓reduceIte, Nat.reduceAdd, Int.reduceNeg, Int.reduceAdd, Int.reduceSub, Int.reduceMul, Int.reduceLT, Int.reduceLE, Int.reduceEq, Int.reduceToNat, Nat.reduceBEq, fl1_i]
          rw [hs, e, List.map_append]
          exact ⟨_, _, _, _, rfl⟩
        · have e : idF i j = l2N 0 := if_neg (by omega)
          simp (disch := first | omega | (simp only [List.length_take, List.length_drop, List.length_append, List.map_cons, List.map_nil, List.length_map, List.length_cons, List.length_nil, List.length_set, List.length_replicate]; omega) | (simp only [List.length_cons, List.length_nil, Nat.zero_add, Nat.reduceAdd])) only [go_sem, ↓reduceIte, Nat.reduceAdd, Int.reduceNeg, Int.reduceAdd, Int.reduceSub, Int.reduceMul, Int.reduceLT, Int.reduceLE, Int.reduceEq, Int.reduceToNat, Nat.reduceBEq, fl1_i]
          rw [hs, e, List.map_append]
          exact ⟨_, _, _, _, rfl⟩
      · rintro vs - ⟨y0, y1, y2, y3, rfl⟩
        simp only [u_impl_identity_j0]
        simp (disch := first | omega | (simp only [List.length_take, List.length_drop, List.length_append, List.map_cons, List.map_nil, List.length_map, List.length_cons, List.length_nil, List.length_set, List.length_replicate]; omega) | (simp only [List.length_cons, List.length_nil, Nat.zero_add, Nat.reduceAdd])) only [go_sem, ↓reduceIte, Nat.reduceAdd, Int.reduceNeg, Int.reduceAdd, Int.reduceSub, Int.reduceMul, Int.reduceLT, Int.reduceLE, Int.reduceEq, Int.reduceToNat, Nat.reduceBEq, nat1]
        exact ⟨rfl, hlj⟩
    · obtain rfl : n = j := by omega
      simp (disch := first | omega | (simp only [List.length_take, List.length_drop, List.length_append, List.map_cons, List.map_nil, List.length_map, List.length_cons, List.length_nil, List.length_set, List.length_replicate]; omega) | (simp only [List.length_cons, List.length_nil, Nat.zero_add, Nat.reduceAdd])) only [go_sem, ↓reduceIte, Nat.reduceAdd, Int.reduceNeg, Int.reduceAdd, Int.reduceSub, Int.reduceMul, Int.reduceLT, Int.reduceLE, Int.reduceEq, Int.reduceToNat, Nat.reduceBEq, nat1]
      rw [Nat.succ_mul]
      exact ⟨rfl, hlt⟩
  · obtain rfl : n = i := by omega
    simp (disch := first | omega | (simp only [List.length_take, List.length_drop, List.length_append, List.map_cons, List.map_nil, List.length_map, List.length_cons, List.length_nil, List.length_set, List.length_replicate]; omega) | (simp only [List.length_cons, List.length_nil, Nat.zero_add, Nat.reduceAdd])) only [go_sem, ↓reduceIte, Nat.reduceAdd, Int.reduceNeg, Int.reduceAdd, Int.reduceSub, Int.reduceMul, Int.reduceLT, Int.reduceLE, Int.reduceEq, Int.reduceToNat, Nat.reduceBEq, true_and]
    rfl
def idP (n i : Nat) : List It := gridL n (fun a b => if a = b ∧ a < i then l2N 1 else l2N 0) (n * n)
theorem idP_0 (n : Nat) : List.replicate (n * n) (l2N 0) = idP n 0 := by
  unfold idP gridL
  simp only [Nat.not_lt_zero, and_false, if_false]
  rw [List.map_const', List.length_range]
theorem idP_n (n : Nat) : idP n n = idL n := by
  unfold idP idL
  rcases Nat.eq_zero_or_pos n with h | h
  · subst h; rfl
  unfold gridL
  refine List.map_congr_left fun t ht => ?_
  have : t / n < n := Nat.div_lt_of_lt_mul (List.mem_range.1 ht)
  simp [idF, this]
theorem idP_s {i : Nat} : fup (fun a b => if a = b ∧ a < i then l2N 1 else l2N 0) i i (l2N 1) = (fun a b => if a = b ∧ a < i + 1 then l2N 1 else l2N 0) := by
  funext a b
  unfold fup
  by_cases h : a = i
  · subst h
    by_cases h2 : b = a
    · subst h2; simp
    · simp [h2, Ne.symm h2, show ¬ a = b from fun e => h2 e.symm]
  · have : (a < i ↔ a < i + 1) := by omega
    simp [h, this]
set_option maxHeartbeats 1000000 in
theorem specId_m (n : Nat) (hn : n ≤ 12) : Meets Try.prog 79 [(false, [.sc (.int .i64 (n : Nat))])] [(true, encMt ⟨n, n, idL n⟩, true)] := by
  have hi1 := mL2Num 1
  have hz := l14Zero_m n n (by omega) (by omega)
  have hnn : n * n ≤ 12 * 12 := Nat.mul_le_mul hn hn
  rw [idP_0] at hz
  rw [← idP_n]
  refine meets_upf Try.func79 u_spec_l14Identity_g rfl ?_; simp only [u_spec_l14Identity_u]
  simp only [encMt, encIts, encIt] at hz hi1 ⊢
  simp (disch := first | omega | (simp only [List.length_take, List.length_drop, List.length_append, List.map_cons, List.map_nil, List.length_map, List.length_cons, List.length_nil, List.length_set, List.length_replicate]; omega) | (simp only [List.length_cons, List.length_nil, Nat.zero_add, Nat.reduceAdd])) only [go_sem, ↓reduceIte, Nat.reduceAdd, Int.reduceNeg, Int.reduceAdd, Int.reduceSub, Int.reduceMul, Int.reduceLT, Int.reduceLE, Int.reduceEq, Int.reduceToNat, Nat.reduceBEq, true_and]
  refine cl_ok hz rfl ?_
  simp (disch := first | omega | (simp only [List.length_take, List.length_drop, List.length_append, List.map_cons, List.map_nil, List.length_map, List.length_cons, List.length_nil, List.length_set, List.length_replicate]; omega) | (simp only [List.length_cons, List.length_nil, Nat.zero_add, Nat.reduceAdd])) only [go_sem, ↓reduceIte, Nat.reduceAdd, Int.reduceNeg, Int.reduceAdd, Int.reduceSub, Int.reduceMul, Int.reduceLT, Int.reduceLE, Int.reduceEq, Int.reduceToNat, Nat.reduceBEq, true_and]
  refine lp_n n (fun i => [.sc (.int .i64 (i : Nat)), .sl 41 3 ((idP n i).map encIt)]) rfl fun i hi => ?_
  simp only [u_spec_l14Identity_l0]
  simp (disch := first | omega | (simp only [List.length_take, List.length_drop, List.length_append, List.map_cons, List.map_nil, List.length_map, List.length_cons, List.length_nil, List.length_set, List.length_replicate]; omega) | (simp only [List.length_cons, List.length_nil, Nat.zero_add, Nat.reduceAdd])) only [go_sem, ↓reduceIte, Nat.reduceAdd, Int.reduceNeg, Int.reduceAdd, Int.reduceSub, Int.reduceMul, Int.reduceLT, Int.reduceLE, Int.reduceEq, Int.reduceToNat, Nat.reduceBEq, true_and]
  refine br_if (fun h => ?_) (fun h => ?_)
  · have hlt : i < n := by omega
    have hin : i * n ≤ 12 * 12 := Nat.mul_le_mul (by omega) hn
    simp (disch := first | omega | (simp only [List.length_take, List.length_drop, List.length_append, List.map_cons, List.map_nil, List.length_map, List.length_cons, List.length_nil, List.length_set, List.length_replicate]; omega) | (simp only [List.length_cons, List.length_nil, Nat.zero_add, Nat.reduceAdd])) only [go_sem, ↓reduceIte, Nat.reduceAdd, Int.reduceNeg, Int.reduceAdd, Int.reduceSub, Int.reduceMul, Int.reduceLT, Int.reduceLE, Int.reduceEq, Int.reduceToNat, Nat.reduceBEq, nm, na]
    refine cl_ok hi1 rfl ?_
    unfold idP
    simp (disch := first | omega | (simp only [List.length_take, List.length_drop, List.length_append, List.map_cons, List.map_nil, List.length_map, List.length_cons, List.length_nil, List.length_set, List.length_replicate]; omega) | (simp only [List.length_cons, List.length_nil, Nat.zero_add, Nat.reduceAdd])) only [go_sem, ↓reduceIte, Nat.reduceAdd, Int.reduceNeg, Int.reduceAdd, Int.reduceSub, Int.reduceMul, Int.reduceLT, Int.reduceLE, Int.reduceEq, Int.reduceToNat, Nat.reduceBEq, nm, na, nat1, chk_g (R := n) (W := n) (i := i) (k := i) hlt hlt, st_g (R := n) (W := n) (i := i) (k := i) hlt hlt, idP_s]
    exact hlt
  · obtain rfl : n = i := by omega
    simp (disch := first | omega | (simp only [List.length_take, List.length_drop, List.length_append, List.map_cons, List.map_nil, List.length_map, List.length_cons, List.length_nil, List.length_set, List.length_replicate]; omega) | (simp only [List.length_cons, List.length_nil, Nat.zero_add, Nat.reduceAdd])) only [go_sem, ↓reduceIte, Nat.reduceAdd, Int.reduceNeg, Int.reduceAdd, Int.reduceSub, Int.reduceMul, Int.reduceLT, Int.reduceLE, Int.reduceEq, Int.reduceToNat, Nat.reduceBEq, true_and]
    rfl
def invL (n : Nat) (l : List It) : Nat → List It
  | 0 => []
  | i + 1 => invL n l i ++ (l.drop (i * (n + n) + n)).take n
theorem invL_len (n : Nat) (l : List It) : ∀ i, (invL n l i).length ≤ i * n
  | 0 => by simp [invL]
  | i + 1 => by
    have := invL_len n l i
    simp only [invL, List.length_append, List.length_take, List.length_drop, Nat.succ_mul]
    omega
def invE (n : Nat) (l : List It) : Option (List It) := match augR n n n l (idL n) with
  | none => none
  | some x => if big n x.2 = true then none else some (invL n (gridL (n + n) x.1 (n * (n + n))) n)
def inv (m : Mt) : Option (List It) := if mtB m = true ∧ m.rows = m.cols then invE m.rows.toNat m.cells else none
def invM (m : Mt) : Mt := match inv m with | none => ⟨0, 0, []⟩ | some l => ⟨m.rows, m.rows, l⟩
theorem invM_len (m : Mt) : (invM m).cells.length ≤ 144 := by
  unfold invM
  split
  · simp
  · rename_i l h
    unfold inv at h
    split at h
    · rename_i h1
      obtain ⟨g1, g2, g3, g4, -⟩ := mtB_dims h1.1
      unfold invE at h
      split at h
      · cases h
      · split at h
        · cases h
        · rename_i x _ _
          injection h with h
          subst h
          have k1 := invL_len m.rows.toNat (gridL (m.rows.toNat + m.rows.toNat) x.1 (m.rows.toNat * (m.rows.toNat + m.rows.toNat))) m.rows.toNat
          have k2 : m.rows.toNat * m.rows.toNat ≤ 12 * 12 := Nat.mul_le_mul (by omega) (by omega)
          simp only; omega
    · cases h
theorem inv_none {m : Mt} (h : ¬ (mtB m = true ∧ m.rows = m.cols)) : inv m = none := by unfold inv; rw [if_neg h]
theorem inv_some {n : Nat} {l : List It} (h1 : mtB ⟨n, n, l⟩ = true) : inv ⟨n, n, l⟩ = invE n l := by unfold inv; rw [if_pos ⟨h1, rfl⟩]; rfl
set_option maxHeartbeats 2000000 in
theorem implInv_m (m : Mt) : Meets Try.prog 33 [(true, encMt m)] [(true, encMt (invM m), true), (false, [.sc (.bool (inv m).isSome)], true)] := by
  obtain ⟨r, c, l⟩ := m
  have hm := isMt_m ⟨r, c, l⟩
  unfold invM
  refine meets_upf Try.func33 u_impl_InvertMatrix_g rfl ?_; simp only [u_impl_InvertMatrix_u]
  simp only [encMt, encIts] at hm ⊢
  simp (disch := first | omega | (simp only [List.length_take, List.length_drop, List.length_append, List.map_cons, List.map_nil, List.length_map, List.length_cons, List.length_nil, List.length_set, List.length_replicate]; omega) | (simp only [List.length_cons, List.length_nil, Nat.zero_add, Nat.reduceAdd])) only [go_sem, ↓reduceIte, Nat.reduceAdd, Int.reduceNeg, Int.reduceAdd, Int.reduceSub, Int.reduceMul, Int.reduceLT, Int.reduceLE, Int.reduceEq, Int.reduceToNat, Nat.reduceBEq, true_and]
  refine cl_ok hm rfl ?_
  cases hA : mtB ⟨r, c, l⟩
  · rw [inv_none (by simp [hA])]
    simp (disch := first | omega | (simp only [List.length_take, List.length_drop, List.length_append, List.map_cons, List.map_nil, List.length_map, List.length_cons, List.length_nil, List.length_set, List.length_replicate]; omega) | (simp only [List.length_cons, List.length_nil, Nat.zero_add, Nat.reduceAdd])) only [go_sem, ↓reduceIte, Nat.reduceAdd, Int.reduceNeg, Int.reduceAdd, Int.reduceSub, Int.reduceMul, Int.reduceLT, Int.reduceLE, Int.reduceEq, Int.reduceToNat, Nat.reduceBEq, true_and]
    rfl
  simp (disch := first | omega | (simp only [List.length_take, List.length_drop, List.length_append, List.map_cons, List.map_nil, List.length_map, List.length_cons, List.length_nil, List.length_set, List.length_replicate]; omega) | (simp only [List.length_cons, List.length_nil, Nat.zero_add, Nat.reduceAdd])) only [go_sem, ↓reduceIte, Nat.reduceAdd, Int.reduceNeg, Int.reduceAdd, Int.reduceSub, Int.reduceMul, Int.reduceLT, Int.reduceLE, Int.reduceEq, Int.reduceToNat, Nat.reduceBEq, true_and]
  refine br_ifn (fun h1 => ?_) (fun h1 => ?_)
  rotate_left
  · rw [inv_none (by simp only; rintro ⟨-, h⟩; exact h1 h)]
    simp (disch := first | omega | (simp only [List.length_take, List.length_drop, List.length_append, List.map_cons, List.map_nil, List.length_map, List.length_cons, List.length_nil, List.length_set, List.length_replicate]; omega) | (simp only [List.length_cons, List.length_nil, Nat.zero_add, Nat.reduceAdd])) only [go_sem, ↓reduceIte, Nat.reduceAdd, Int.reduceNeg, Int.reduceAdd, Int.reduceSub, Int.reduceMul, Int.reduceLT, Int.reduceLE, Int.reduceEq, Int.reduceToNat, Nat.reduceBEq, true_and]
    rfl
  subst h1
  obtain ⟨g1, g2, -, -, g5⟩ := mtB_dims hA
  simp only at g1 g2 g5
  obtain ⟨n, rfl⟩ := Int.eq_ofNat_of_zero_le g1
  have hla : l.length = n * n := by exact_mod_cast g5
  rw [inv_some hA]
  have hid := implId_m n (by omega)
  have hbe := implBeside_m n n n n l (idL n) (by omega) (by omega) (by omega) hla (idL_len n)
  have hau := implAug_m n n n l (idL n) (by omega) (by omega) (by omega) hla (idL_len n)
  unfold invE
  simp only [encMt, encIts] at hid hbe hau
  simp (disch := first | omega | (simp only [List.length_take, List.length_drop, List.length_append, List.map_cons, List.map_nil, List.length_map, List.length_cons, List.length_nil, List.length_set, List.length_replicate]; omega) | (simp only [List.length_cons, List.length_nil, Nat.zero_add, Nat.reduceAdd])) only [go_sem, ↓reduceIte, Nat.reduceAdd, Int.reduceNeg, Int.reduceAdd, Int.reduceSub, Int.reduceMul, Int.reduceLT, Int.reduceLE, Int.reduceEq, Int.reduceToNat, Nat.reduceBEq, true_and]
  refine cl_ok hid rfl ?_
  simp (disch := first | omega | (simp only [List.length_take, List.length_drop, List.length_append, List.map_cons, List.map_nil, List.length_map, List.length_cons, List.length_nil, List.length_set, List.length_replicate]; omega) | (simp only [List.length_cons, List.length_nil, Nat.zero_add, Nat.reduceAdd])) only [go_sem, ↓reduceIte, Nat.reduceAdd, Int.reduceNeg, Int.reduceAdd, Int.reduceSub, Int.reduceMul, Int.reduceLT, Int.reduceLE, Int.reduceEq, Int.reduceToNat, Nat.reduceBEq, true_and]
  refine cl_ok hbe rfl ?_
  simp (disch := first | omega | (simp only [List.length_take, List.length_drop, List.length_append, List.map_cons, List.map_nil, List.length_map, List.length_cons, List.length_nil, List.length_set, List.length_replicate]; omega) | (simp only [List.length_cons, List.length_nil, Nat.zero_add, Nat.reduceAdd])) only [go_sem, ↓reduceIte, Nat.reduceAdd, Int.reduceNeg, Int.reduceAdd, Int.reduceSub, Int.reduceMul, Int.reduceLT, Int.reduceLE, Int.reduceEq, Int.reduceToNat, Nat.reduceBEq, true_and]
  cases hd : augR n n n l (idL n) with
  | none =>
    rw [hd] at hau
    simp only [resI, encMt, encIts] at hau
    refine cl_ok hau rfl ?_
    simp (disch := first | omega | (simp only [List.length_take, List.length_drop, List.length_append, List.map_cons, List.map_nil, List.length_map, List.length_cons, List.length_nil, List.length_set, List.length_replicate]; omega) | (simp only [List.length_cons, List.length_nil, Nat.zero_add, Nat.reduceAdd])) only [go_sem, ↓reduceIte, Nat.reduceAdd, Int.reduceNeg, Int.reduceAdd, Int.reduceSub, Int.reduceMul, Int.reduceLT, Int.reduceLE, Int.reduceEq, Int.reduceToNat, Nat.reduceBEq, true_and]
    rfl
  | some x =>
    obtain ⟨f, st⟩ := x
    rw [hd] at hau
    simp only [resI, encMt, encIts, encSts] at hau
    obtain ⟨l1, l2⟩ := redS_len hd
    refine cl_ok hau rfl ?_
    simp (disch := first | omega | (simp only [List.length_take, List.length_drop, List.length_append, List.map_cons, List.map_nil, List.length_map, List.length_cons, List.length_nil, List.length_set, List.length_replicate]; omega) | (simp only [List.length_cons, List.length_nil, Nat.zero_add, Nat.reduceAdd])) only [go_sem, ↓reduceIte, Nat.reduceAdd, Int.reduceNeg, Int.reduceAdd, Int.reduceSub, Int.reduceMul, Int.reduceLT, Int.reduceLE, Int.reduceEq, Int.reduceToNat, Nat.reduceBEq, true_and]
    refine lp (fun i : Nat => [.sc (.int .i64 (i : Nat))]) (fun i => i ≤ st.length ∧ big n (st.take i) = false) (fun i => st.length - i) 0 rfl ⟨by omega, rfl⟩ ?_
    rintro i ⟨hi, hb⟩
    simp only [u_impl_InvertMatrix_l1]
    simp (disch := first | omega | (simp only [List.length_take, List.length_drop, List.length_append, List.map_cons, List.map_nil, List.length_map, List.length_cons, List.length_nil, List.length_set, List.length_replicate]; omega) | (simp only [List.length_cons, List.length_nil, Nat.zero_add, Nat.reduceAdd])) only [go_sem, ↓reduceIte, Nat.reduceAdd, Int.reduceNeg, Int.reduceAdd, Int.reduceSub, Int.reduceMul, Int.reduceLT, Int.reduceLE, Int.reduceEq, Int.reduceToNat, Nat.reduceBEq, true_and]
    refine br_if (fun h => ?_) (fun h => ?_)
    · have hlt : i < st.length := by omega
      have hbt := big_take (c := n) hlt
      rw [hb, Bool.false_or] at hbt
      simp (disch := first | omega | (simp only [List.length_take, List.length_drop, List.length_append, List.map_cons, List.map_nil, List.length_map, List.length_cons, List.length_nil, List.length_set, List.length_replicate]; omega) | (simp only [List.length_cons, List.length_nil, Nat.zero_add, Nat.reduceAdd])) only [go_sem, ↓reduceIte, Nat.reduceAdd, Int.reduceNeg, Int.reduceAdd, Int.reduceSub, Int.reduceMul, Int.reduceLT, Int.reduceLE, Int.reduceEq, Int.reduceToNat, Nat.reduceBEq, ix_st, encSt]
      refine br_if (fun h1 => ?_) (fun h1 => ?_)
      · have : big n st = true := big_get hlt (by omega)
        rw [if_pos this]
        simp (disch := first | omega | (simp only [List.length_take, List.length_drop, List.length_append, List.map_cons, List.map_nil, List.length_map, List.length_cons, List.length_nil, List.length_set, List.length_replicate]; omega) | (simp only [List.length_cons, List.length_nil, Nat.zero_add, Nat.reduceAdd])) only [go_sem, ↓reduceIte, Nat.reduceAdd, Int.reduceNeg, Int.reduceAdd, Int.reduceSub, Int.reduceMul, Int.reduceLT, Int.reduceLE, Int.reduceEq, Int.reduceToNat, Nat.reduceBEq, true_and]
        rfl
      rw [decide_eq_false (by omega)] at hbt
      simp (disch := first | omega | (simp only [List.length_take, List.length_drop, List.length_append, List.map_cons, List.map_nil, List.length_map, List.length_cons, List.length_nil, List.length_set, List.length_replicate]; omega) | (simp only [List.length_cons, List.length_nil, Nat.zero_add, Nat.reduceAdd])) only [go_sem, ↓reduceIte, Nat.reduceAdd, Int.reduceNeg, Int.reduceAdd, Int.reduceSub, Int.reduceMul, Int.reduceLT, Int.reduceLE, Int.reduceEq, Int.reduceToNat, Nat.reduceBEq, nat1]
      exact ⟨i + 1, rfl, ⟨by omega, hbt⟩, by omega⟩
    obtain rfl : i = st.length := by omega
    rw [List.take_length] at hb
    rw [if_neg (by rw [hb]; decide)]
    have hG : (gridL (n + n) f (n * (n + n))).length = n * (n + n) := gridL_len _ _ _
    generalize gridL (n + n) f (n * (n + n)) = G at *
    simp (disch := first | omega | (simp only [List.length_take, List.length_drop, List.length_append, List.map_cons, List.map_nil, List.length_map, List.length_cons, List.length_nil, List.length_set, List.length_replicate]; omega) | (simp only [List.length_cons, List.length_nil, Nat.zero_add, Nat.reduceAdd])) only [go_sem, ↓reduceIte, Nat.reduceAdd, Int.reduceNeg, Int.reduceAdd, Int.reduceSub, Int.reduceMul, Int.reduceLT, Int.reduceLE, Int.reduceEq, Int.reduceToNat, Nat.reduceBEq, true_and]
    refine lp_n n (fun i => [.sc (.int .i64 (i : Nat)), .sl 41 3 ((invL n G i).map encIt)]) rfl fun i hi => ?_
    simp only [u_impl_InvertMatrix_l0]
    have b1 : i * (n + n) ≤ 12 * 24 := Nat.mul_le_mul (by omega) (by omega)
    have b2 := invL_len n G i
    have b3 : i * n ≤ 12 * 12 := Nat.mul_le_mul (by omega) (by omega)
    simp (disch := first | omega | (simp only [List.length_take, List.length_drop, List.length_append, List.map_cons, List.map_nil, List.length_map, List.length_cons, List.length_nil, List.length_set, List.length_replicate]; omega) | (simp only [List.length_cons, List.length_nil, Nat.zero_add, Nat.reduceAdd])) only [go_sem, ↓reduceIte, Nat.reduceAdd, Int.reduceNeg, Int.reduceAdd, Int.reduceSub, Int.reduceMul, Int.reduceLT, Int.reduceLE, Int.reduceEq, Int.reduceToNat, Nat.reduceBEq, true_and]
    refine br_if (fun h => ?_) (fun h => ?_)
    · have hlt : i < n := by omega
      have b4 : i * (n + n) + (n + n) ≤ n * (n + n) := by rw [← Nat.succ_mul]; exact Nat.mul_le_mul_right _ hlt
      have b5 : (i + 1) * (n + n) = i * (n + n) + (n + n) := Nat.succ_mul _ _
      simp (disch := first | omega | (simp only [List.length_take, List.length_drop, List.length_append, List.map_cons, List.map_nil, List.length_map, List.length_cons, List.length_nil, List.length_set, List.length_replicate]; omega) | (simp only [List.length_cons, List.length_nil, Nat.zero_add, Nat.reduceAdd])) only [go_sem, ↓reduceIte, Nat.reduceAdd, Int.reduceNeg, Int.reduceAdd, Int.reduceSub, Int.reduceMul, Int.reduceLT, Int.reduceLE, Int.reduceEq, Int.reduceToNat, Nat.reduceBEq, nm, na, nat1, b5, fl_it]
      refine ⟨?_, hlt⟩
      rw [show ((((i * (n + n) + (n + n) : Nat) : Int) - ((i * (n + n) + n : Nat) : Int)).toNat) = n by omega]
      rfl
    · obtain rfl : i = n := by omega
      simp (disch := first | omega | (simp only [List.length_take, List.length_drop, List.length_append, List.map_cons, List.map_nil, List.length_map, List.length_cons, List.length_nil, List.length_set, List.length_replicate]; omega) | (simp only [List.length_cons, List.length_nil, Nat.zero_add, Nat.reduceAdd])) only [go_sem, ↓reduceIte, Nat.reduceAdd, Int.reduceNeg, Int.reduceAdd, Int.reduceSub, Int.reduceMul, Int.reduceLT, Int.reduceLE, Int.reduceEq, Int.reduceToNat, Nat.reduceBEq, true_and]
      rfl
set_option maxHeartbeats 2000000 in
theorem specInv_m (m : Mt) : Meets Try.prog 32 [(true, encMt m)] [(true, encMt (invM m), true), (false, [.sc (.bool (inv m).isSome)], true)] := by
  obtain ⟨r, c, l⟩ := m
  have hm := specIsMt_m ⟨r, c, l⟩
  unfold invM
  refine meets_upf Try.func32 u_spec_InvertMatrix_g rfl ?_; simp only [u_spec_InvertMatrix_u]
  simp only [encMt, encIts] at hm ⊢
  simp (disch := first | omega | (simp only [List.length_take, List.length_drop, List.length_append, List.map_cons, List.map_nil, List.length_map, List.length_cons, List.length_nil, List.length_set, List.length_replicate]; omega) | (simp only [List.length_cons, List.length_nil, Nat.zero_add, Nat.reduceAdd])) only [go_sem, ↓reduceIte, Nat.reduceAdd, Int.reduceNeg, Int.reduceAdd, Int.reduceSub, Int.reduceMul, Int.reduceLT, Int.reduceLE, Int.reduceEq, Int.reduceToNat, Nat.reduceBEq, true_and]
  refine cl_ok hm rfl ?_
  cases hA : mtB ⟨r, c, l⟩
  · rw [inv_none (by simp [hA])]
    simp (disch := first | omega | (simp only [List.length_take, List.length_drop, List.length_append, List.map_cons, List.map_nil, List.length_map, List.length_cons, List.length_nil, List.length_set, List.length_replicate]; omega) | (simp only [List.length_cons, List.length_nil, Nat.zero_add, Nat.reduceAdd])) only [go_sem, ↓reduceIte, Nat.reduceAdd, Int.reduceNeg, Int.reduceAdd, Int.reduceSub, Int.reduceMul, Int.reduceLT, Int.reduceLE, Int.reduceEq, Int.reduceToNat, Nat.reduceBEq, true_and]
    rfl
  simp (disch := first | omega | (simp only [List.length_take, List.length_drop, List.length_append, List.map_cons, List.map_nil, List.length_map, List.length_cons, List.length_nil, List.length_set, List.length_replicate]; omega) | (simp only [List.length_cons, List.length_nil, Nat.zero_add, Nat.reduceAdd])) only [go_sem, ↓reduceIte, Nat.reduceAdd, Int.reduceNeg, Int.reduceAdd, Int.reduceSub, Int.reduceMul, Int.reduceLT, Int.reduceLE, Int.reduceEq, Int.reduceToNat, Nat.reduceBEq, true_and]
  refine br_ifn (fun h1 => ?_) (fun h1 => ?_)
  rotate_left
  · rw [inv_none (by simp only; rintro ⟨-, h⟩; exact h1 h)]
    simp (disch := first | omega | (simp only [List.length_take, List.length_drop, List.length_append, List.map_cons, List.map_nil, List.length_map, List.length_cons, List.length_nil, List.length_set, List.length_replicate]; omega) | (simp only [List.length_cons, List.length_nil, Nat.zero_add, Nat.reduceAdd])) only [go_sem, ↓reduceIte, Nat.reduceAdd, Int.reduceNeg, Int.reduceAdd, Int.reduceSub, Int.reduceMul, Int.reduceLT, Int.reduceLE, Int.reduceEq, Int.reduceToNat, Nat.reduceBEq, true_and]
    rfl
  subst h1
  obtain ⟨g1, g2, -, -, g5⟩ := mtB_dims hA
  simp only at g1 g2 g5
  obtain ⟨n, rfl⟩ := Int.eq_ofNat_of_zero_le g1
  have hla : l.length = n * n := by exact_mod_cast g5
  rw [inv_some hA]
  have hid := specId_m n (by omega)
  have hbe := specBeside_m n n n n l (idL n) (by omega) (by omega) (by omega) hla (idL_len n)
  have hau := specAug_m n n n l (idL n) (by omega) (by omega) (by omega) hla (idL_len n)
  unfold invE
  simp only [encMt, encIts] at hid hbe hau
  simp (disch := first | omega | (simp only [List.length_take, List.length_drop, List.length_append, List.map_cons, List.map_nil, List.length_map, List.length_cons, List.length_nil, List.length_set, List.length_replicate]; omega) | (simp only [List.length_cons, List.length_nil, Nat.zero_add, Nat.reduceAdd])) only [go_sem, ↓reduceIte, Nat.reduceAdd, Int.reduceNeg, Int.reduceAdd, Int.reduceSub, Int.reduceMul, Int.reduceLT, Int.reduceLE, Int.reduceEq, Int.reduceToNat, Nat.reduceBEq, true_and]
  refine cl_ok hid rfl ?_
  simp (disch := first | omega | (simp only [List.length_take, List.length_drop, List.length_append, List.map_cons, List.map_nil, List.length_map, List.length_cons, List.length_nil, List.length_set, List.length_replicate]; omega) | (simp only [List.length_cons, List.length_nil, Nat.zero_add, Nat.reduceAdd])) only [go_sem, ↓reduceIte, Nat.reduceAdd, Int.reduceNeg, Int.reduceAdd, Int.reduceSub, Int.reduceMul, Int.reduceLT, Int.reduceLE, Int.reduceEq, Int.reduceToNat, Nat.reduceBEq, true_and]
  refine cl_ok hbe rfl ?_
  simp (disch := first | omega | (simp only [List.length_take, List.length_drop, List.length_append, List.map_cons, List.map_nil, List.length_map, List.length_cons, List.length_nil, List.length_set, List.length_replicate]; omega) | (simp only [List.length_cons, List.length_nil, Nat.zero_add, Nat.reduceAdd])) only [go_sem, ↓reduceIte, Nat.reduceAdd, Int.reduceNeg, Int.reduceAdd, Int.reduceSub, Int.reduceMul, Int.reduceLT, Int.reduceLE, Int.reduceEq, Int.reduceToNat, Nat.reduceBEq, true_and]
  cases hd : augR n n n l (idL n) with
  | none =>
    rw [hd] at hau
    simp only [resS, encMt, encIts] at hau
    refine cl_ok hau rfl ?_
    simp (disch := first | omega | (simp only [List.length_take, List.length_drop, List.length_append, List.map_cons, List.map_nil, List.length_map, List.length_cons, List.length_nil, List.length_set, List.length_replicate]; omega) | (simp only [List.length_cons, List.length_nil, Nat.zero_add, Nat.reduceAdd])) only [go_sem, ↓reduceIte, Nat.reduceAdd, Int.reduceNeg, Int.reduceAdd, Int.reduceSub, Int.reduceMul, Int.reduceLT, Int.reduceLE, Int.reduceEq, Int.reduceToNat, Nat.reduceBEq, true_and]
    refine jn_eq [.sc (.bool true)] ?_ ?_
    · simp (disch := first | omega | (simp only [List.length_take, List.length_drop, List.length_append, List.map_cons, List.map_nil, List.length_map, List.length_cons, List.length_nil, List.length_set, List.length_replicate]; omega) | (simp only [List.length_cons, List.length_nil, Nat.zero_add, Nat.reduceAdd])) only [go_sem, ↓reduceIte, Nat.reduceAdd, Int.reduceNeg, Int.reduceAdd, Int.reduceSub, Int.reduceMul, Int.reduceLT, Int.reduceLE, Int.reduceEq, Int.reduceToNat, Nat.reduceBEq, true_and]
    simp only [u_spec_InvertMatrix_j1]
    simp (disch := first | omega | (simp only [List.length_take, List.length_drop, List.length_append, List.map_cons, List.map_nil, List.length_map, List.length_cons, List.length_nil, List.length_set, List.length_replicate]; omega) | (simp only [List.length_cons, List.length_nil, Nat.zero_add, Nat.reduceAdd])) only [go_sem, ↓reduceIte, Nat.reduceAdd, Int.reduceNeg, Int.reduceAdd, Int.reduceSub, Int.reduceMul, Int.reduceLT, Int.reduceLE, Int.reduceEq, Int.reduceToNat, Nat.reduceBEq, true_and]
    rfl
  | some x =>
    obtain ⟨f, st⟩ := x
    rw [hd] at hau
    simp only [resS, encMt, encIts, encZs] at hau
    obtain ⟨l1, l2⟩ := redS_len hd
    refine cl_ok hau rfl ?_
    have hpl : ((pivL st).map encZ).length = st.length := by rw [List.length_map]; exact pivL_len st
    have hpl' := pivL_len st
    have hP := (redS_piv hd).2
    simp (disch := first | omega | (simp only [List.length_take, List.length_drop, List.length_append, List.map_cons, List.map_nil, List.length_map, List.length_cons, List.length_nil, List.length_set, List.length_replicate]; omega) | (simp only [List.length_cons, List.length_nil, Nat.zero_add, Nat.reduceAdd])) only [go_sem, ↓reduceIte, Nat.reduceAdd, Int.reduceNeg, Int.reduceAdd, Int.reduceSub, Int.reduceMul, Int.reduceLT, Int.reduceLE, Int.reduceEq, Int.reduceToNat, Nat.reduceBEq, hpl]
    refine jn_eq [.sc (.bool (big n st))] ?_ ?_
    · refine br_if (fun h => ?_) (fun h => ?_)
      · have hpg := pivL_getD (st := st) (i := st.length - 1) (by omega)
        have hpp := piv_lt hd (i := st.length - 1) (by omega)
        have hbl := big_last (c := n) hP (by omega)
        have e : ((st.length : Int) - 1).toNat = st.length - 1 := by omega
        simp (disch := first | omega | (simp only [List.length_take, List.length_drop, List.length_append, List.map_cons, List.map_nil, List.length_map, List.length_cons, List.length_nil, List.length_set, List.length_replicate]; omega) | (simp only [List.length_cons, List.length_nil, Nat.zero_add, Nat.reduceAdd])) only [go_sem, ↓reduceIte, Nat.reduceAdd, Int.reduceNeg, Int.reduceAdd, Int.reduceSub, Int.reduceMul, Int.reduceLT, Int.reduceLE, Int.reduceEq, Int.reduceToNat, Nat.reduceBEq, hpl, ix_z, e, hpg, encZ]
        rw [hbl]
        congr 3
        rw [decide_eq_decide]; omega
      · have : st = [] := List.length_eq_zero_iff.1 (by omega)
        subst this
        simp (disch := first | omega | (simp only [List.length_take, List.length_drop, List.length_append, List.map_cons, List.map_nil, List.length_map, List.length_cons, List.length_nil, List.length_set, List.length_replicate]; omega) | (simp only [List.length_cons, List.length_nil, Nat.zero_add, Nat.reduceAdd])) only [go_sem, ↓reduceIte, Nat.reduceAdd, Int.reduceNeg, Int.reduceAdd, Int.reduceSub, Int.reduceMul, Int.reduceLT, Int.reduceLE, Int.reduceEq, Int.reduceToNat, Nat.reduceBEq, big_nil]
    simp only [u_spec_InvertMatrix_j1]
    cases hb : big n st
    rotate_left
    · simp (disch := first | omega | (simp only [List.length_take, List.length_drop, List.length_append, List.map_cons, List.map_nil, List.length_map, List.length_cons, List.length_nil, List.length_set, List.length_replicate]; omega) | (simp only [List.length_cons, List.length_nil, Nat.zero_add, Nat.reduceAdd])) only [go_sem, ↓reduceIte, Nat.reduceAdd, Int.reduceNeg, Int.reduceAdd, Int.reduceSub, Int.reduceMul, Int.reduceLT, Int.reduceLE, Int.reduceEq, Int.reduceToNat, Nat.reduceBEq, true_and]
      rfl
    simp only [Bool.false_eq_true, if_false]
    have hG : (gridL (n + n) f (n * (n + n))).length = n * (n + n) := gridL_len _ _ _
    generalize gridL (n + n) f (n * (n + n)) = G at *
    simp (disch := first | omega | (simp only [List.length_take, List.length_drop, List.length_append, List.map_cons, List.map_nil, List.length_map, List.length_cons, List.length_nil, List.length_set, List.length_replicate]; omega) | (simp only [List.length_cons, List.length_nil, Nat.zero_add, Nat.reduceAdd])) only [go_sem, ↓reduceIte, Nat.reduceAdd, Int.reduceNeg, Int.reduceAdd, Int.reduceSub, Int.reduceMul, Int.reduceLT, Int.reduceLE, Int.reduceEq, Int.reduceToNat, Nat.reduceBEq, true_and]
    refine lp_n n (fun i => [.sc (.int .i64 (i : Nat)), .sl 41 3 ((invL n G i).map encIt)]) rfl fun i hi => ?_
    simp only [u_spec_InvertMatrix_l0]
    have b1 : i * (n + n) ≤ 12 * 24 := Nat.mul_le_mul (by omega) (by omega)
    have b2 := invL_len n G i
    have b3 : i * n ≤ 12 * 12 := Nat.mul_le_mul (by omega) (by omega)
    simp (disch := first | omega | (simp only [List.length_take, List.length_drop, List.length_append, List.map_cons, List.map_nil, List.length_map, List.length_cons, List.length_nil, List.length_set, List.length_replicate]; omega) | (simp only [List.length_cons, List.length_nil, Nat.zero_add, Nat.reduceAdd])) only [go_sem, ↓reduceIte, Nat.reduceAdd, Int.reduceNeg, Int.reduceAdd, Int.reduceSub, Int.reduceMul, Int.reduceLT, Int.reduceLE, Int.reduceEq, Int.reduceToNat, Nat.reduceBEq, true_and]
    refine br_if (fun h => ?_) (fun h => ?_)
    · have hlt : i < n := by omega
      have b4 : i * (n + n) + (n + n) ≤ n * (n + n) := by rw [← Nat.succ_mul]; exact Nat.mul_le_mul_right _ hlt
      have b5 : (i + 1) * (n + n) = i * (n + n) + (n + n) := Nat.succ_mul _ _
      simp (disch := first | omega | (simp only [List.length_take, List.length_drop, List.length_append, List.map_cons, List.map_nil, List.length_map, List.length_cons, List.length_nil, List.length_set, List.length_replicate]; omega) | (simp only [List.length_cons, List.length_nil, Nat.zero_add, Nat.reduceAdd])) only [go_sem, ↓reduceIte, Nat.reduceAdd, Int.reduceNeg, Int.reduceAdd, Int.reduceSub, Int.reduceMul, Int.reduceLT, Int.reduceLE, Int.reduceEq, Int.reduceToNat, Nat.reduceBEq, nm, na, nat1, b5, fl_it]
      refine ⟨?_, hlt⟩
      rw [show ((((i * (n + n) + (n + n) : Nat) : Int) - ((i * (n + n) + n : Nat) : Int)).toNat) = n by omega]
      rfl
    · obtain rfl : i = n := by omega
      simp (disch := first | omega | (simp only [List.length_take, List.length_drop, List.length_append, List.map_cons, List.map_nil, List.length_map, List.length_cons, List.length_nil, List.length_set, List.length_replicate]; omega) | (simp only [List.length_cons, List.length_nil, Nat.zero_add, Nat.reduceAdd])) only [go_sem, ↓reduceIte, Nat.reduceAdd, Int.reduceNeg, Int.reduceAdd, Int.reduceSub, Int.reduceMul, Int.reduceLT, Int.reduceLE, Int.reduceEq, Int.reduceToNat, Nat.reduceBEq, true_and]
      rfl
end Go.Proofs.Ytmanijpmkeheeaa
