/- ParseInt (impl and spec). -/
import Derived.Test.YtbddjkbbnflnkaaUPInt
import Derived.Test.YtbddjkbbnflnkaaFInt
namespace Go.Proofs.Ytbddjkbbnflnkaa
open Go.RowKit
set_option linter.unusedVariables false
set_option linter.unusedSimpArgs false
set_option maxRecDepth 100000

theorem byteAt_ext {s : ByteArray} {a b i : Nat} (h : a + i < b) (hb : b ≤ s.size) : byteAt (s.extract a b) i = byteAt s (a + i) := by
  have h1 : i < (s.extract a b).size := by rw [ByteArray.size_extract]; omega
  unfold byteAt
  rw [getElem?_pos _ i h1, getElem?_pos s (a + i) (by omega)]
  simp [ByteArray.getElem_extract]
def vP (s : ByteArray) (k : Nat) : Nat → Nat
  | 0 => 0
  | i + 1 => 10 * vP s k i + (byteAt s (k + i) - 48)
def digT (s : ByteArray) (k i : Nat) : Bool := digB (byteAt s (k + i))
theorem vP_lt {s : ByteArray} {k : Nat} : ∀ {i}, allB (digT s k) i = true → vP s k i < 10 ^ i
  | 0, _ => by unfold vP; decide
  | i + 1, h => by
    rw [allB_succ, Bool.and_eq_true] at h
    have h1 := vP_lt h.1
    have h2 := h.2
    unfold digT digB at h2
    rw [decide_eq_true_eq] at h2
    unfold vP
    rw [Nat.pow_succ]; omega
def pk (s : ByteArray) : Nat := if 0 < s.size ∧ byteAt s 0 = 45 then 1 else 0
def prsV (s : ByteArray) : Int := if pk s = 1 then -(vP s 1 (s.size - 1) : Nat) else (vP s 0 s.size : Nat)
def prsB (s : ByteArray) : Bool := decide (1 ≤ s.size - pk s ∧ s.size - pk s ≤ 9) && (allB (digT s (pk s)) (s.size - pk s) && decide (fmtInt (prsV s) = s))
theorem prsB_no {s : ByteArray} {i : Nat} (h : i < s.size - pk s) (hp : digT s (pk s) i = false) : prsB s = false := by unfold prsB; rw [allB_no h hp]; simp
theorem prsB_len {s : ByteArray} (h : ¬ (1 ≤ s.size - pk s ∧ s.size - pk s ≤ 9)) : prsB s = false := by unfold prsB; rw [decide_eq_false h]; rfl
theorem ret_zb {a c : Int} {b d : Bool} (h1 : a = c) (h2 : b = d) : isRes [(false, [.sc (.int .i64 a)], true), (false, [.sc (.bool b)], true)] [(false, [.sc (.int .i64 c)]), (false, [.sc (.bool d)])] := by subst h1 h2; rfl
theorem prs_no {s : ByteArray} (h : prsB s = false) : isRes [(false, [.sc (.int .i64 (if prsB s = true then prsV s else 0))], true), (false, [.sc (.bool (prsB s))], true)] [(false, [.sc (.int .i64 0)]), (false, [.sc (.bool false)])] := by rw [h]; rfl
theorem prs_yes {s : ByteArray} {z : Int} (h : prsB s = true) (hz : z = prsV s) : isRes [(false, [.sc (.int .i64 (if prsB s = true then prsV s else 0))], true), (false, [.sc (.bool (prsB s))], true)] [(false, [.sc (.int .i64 z)]), (false, [.sc (.bool true)])] := by rw [h, hz]; rfl
theorem pow9 {i : Nat} (h : i ≤ 9) : 10 ^ i ≤ 1000000000 := Nat.pow_le_pow_right (n := 10) (by decide) h

set_option maxHeartbeats 2000000 in
theorem implPrs_m (s : ByteArray) (hs : s.size ≤ 100000000000) : Meets Try.prog 100 [(false, [.sc (.string s)])] [(false, [.sc (.int .i64 (if prsB s = true then prsV s else 0))], true), (false, [.sc (.bool (prsB s))], true)] := by
  have key : ∀ (r : ByteArray) (c0 c1 c2 c3 : DV), r.size = s.size - pk s → (∀ i, i < r.size → byteAt r i = byteAt s (pk s + i)) →
      V Try.prog (isRes [(false, [.sc (.int .i64 (if prsB s = true then prsV s else 0))], true), (false, [.sc (.bool (prsB s))], true)]) u_impl_ParseInt_j1 [] [.sc (.bool (decide (pk s = 1))), .sc (.string r), c0, c1, c2, c3, .sc (.string s)] := by
    intro r c0 c1 c2 c3 h1 h2
    simp only [u_impl_ParseInt_j1]
    simp (disch := first | omega | (simp only [List.length_take, List.length_drop, List.length_append, List.map_cons, List.map_nil, List.length_map, List.length_cons, List.length_nil, List.length_set, List.length_replicate]; omega) | (simp only [List.length_cons, List.length_nil, Nat.zero_add, Nat.reduceAdd])) only [go_sem, ↓reduceIte, Nat.reduceAdd, Int.reduceNeg, Int.reduceAdd, Int.reduceSub, Int.reduceMul, Int.reduceLT, Int.reduceLE, Int.reduceEq, Int.reduceToNat, Nat.reduceBEq, e_sle, e_sge, e_shl1, e_orI, e_andI, e_shr, wrapu, wrap8, tn1, nat1, ix_s, ix_z, st_s, st_z, fl_s, fl_z, fl1_s, fl1_z, map_s, map_z, true_and]
    refine br_if (fun h0 => ?_) (fun h0 => ?_)
    · simp (disch := first | omega | (simp only [List.length_take, List.length_drop, List.length_append, List.map_cons, List.map_nil, List.length_map, List.length_cons, List.length_nil, List.length_set, List.length_replicate]; omega) | (simp only [List.length_cons, List.length_nil, Nat.zero_add, Nat.reduceAdd])) only [go_sem, ↓reduceIte, Nat.reduceAdd, Int.reduceNeg, Int.reduceAdd, Int.reduceSub, Int.reduceMul, Int.reduceLT, Int.reduceLE, Int.reduceEq, Int.reduceToNat, Nat.reduceBEq, e_sle, e_sge, e_shl1, e_orI, e_andI, e_shr, wrapu, wrap8, tn1, nat1, ix_s, ix_z, st_s, st_z, fl_s, fl_z, fl1_s, fl1_z, map_s, map_z, true_and]
      subst h0
      exact prs_no (prsB_len (by have : (⟨#[]⟩ : ByteArray).size = 0 := rfl; omega))
    simp (disch := first | omega | (simp only [List.length_take, List.length_drop, List.length_append, List.map_cons, List.map_nil, List.length_map, List.length_cons, List.length_nil, List.length_set, List.length_replicate]; omega) | (simp only [List.length_cons, List.length_nil, Nat.zero_add, Nat.reduceAdd])) only [go_sem, ↓reduceIte, Nat.reduceAdd, Int.reduceNeg, Int.reduceAdd, Int.reduceSub, Int.reduceMul, Int.reduceLT, Int.reduceLE, Int.reduceEq, Int.reduceToNat, Nat.reduceBEq, e_sle, e_sge, e_shl1, e_orI, e_andI, e_shr, wrapu, wrap8, tn1, nat1, ix_s, ix_z, st_s, st_z, fl_s, fl_z, fl1_s, fl1_z, map_s, map_z, true_and]
    refine br_if (fun h9 => ?_) (fun h9 => ?_)
    · simp (disch := first | omega | (simp only [List.length_take, List.length_drop, List.length_append, List.map_cons, List.map_nil, List.length_map, List.length_cons, List.length_nil, List.length_set, List.length_replicate]; omega) | (simp only [List.length_cons, List.length_nil, Nat.zero_add, Nat.reduceAdd])) only [go_sem, ↓reduceIte, Nat.reduceAdd, Int.reduceNeg, Int.reduceAdd, Int.reduceSub, Int.reduceMul, Int.reduceLT, Int.reduceLE, Int.reduceEq, Int.reduceToNat, Nat.reduceBEq, e_sle, e_sge, e_shl1, e_orI, e_andI, e_shr, wrapu, wrap8, tn1, nat1, ix_s, ix_z, st_s, st_z, fl_s, fl_z, fl1_s, fl1_z, map_s, map_z, true_and]
      exact prs_no (prsB_len (by omega))
    have hr1 : 1 ≤ r.size := by
      apply Classical.byContradiction
      intro hc
      apply h0
      obtain ⟨a⟩ := r
      have : a.size = 0 := by have : (⟨a⟩ : ByteArray).size = a.size := rfl; omega
      have := Array.eq_empty_of_size_eq_zero this
      subst this; rfl
    simp (disch := first | omega | (simp only [List.length_take, List.length_drop, List.length_append, List.map_cons, List.map_nil, List.length_map, List.length_cons, List.length_nil, List.length_set, List.length_replicate]; omega) | (simp only [List.length_cons, List.length_nil, Nat.zero_add, Nat.reduceAdd])) only [go_sem, ↓reduceIte, Nat.reduceAdd, Int.reduceNeg, Int.reduceAdd, Int.reduceSub, Int.reduceMul, Int.reduceLT, Int.reduceLE, Int.reduceEq, Int.reduceToNat, Nat.reduceBEq, e_sle, e_sge, e_shl1, e_orI, e_andI, e_shr, wrapu, wrap8, tn1, nat1, ix_s, ix_z, st_s, st_z, fl_s, fl_z, fl1_s, fl1_z, map_s, map_z, true_and]
    refine lp (fun i : Nat => [.sc (.int .i64 i), .sc (.int .i64 (vP s (pk s) i : Nat))]) (fun i => i ≤ r.size ∧ allB (digT s (pk s)) i = true) (fun i => r.size - i) 0 rfl ⟨by omega, rfl⟩ ?_
    rintro i ⟨hi, hb⟩
    have hv := vP_lt hb
    have hp9 := pow9 (i := i) (by omega)
    simp only [u_impl_ParseInt_l0]
    by_cases hlt : i < r.size
    · have hbt := byteAt_lt s (pk s + i)
      have hv1 : vP s (pk s) (i + 1) = 10 * vP s (pk s) i + (byteAt s (pk s + i) - 48) := rfl
      have h2i := h2 i hlt
      by_cases hdig : 48 ≤ byteAt s (pk s + i) ∧ byteAt s (pk s + i) ≤ 57
      · have hst := allB_step hb (show digT s (pk s) i = true from decide_eq_true (by omega))
        have hw8 : IntKind.u8.wrap ((byteAt s (pk s + i) : Int) - 48) = ((byteAt s (pk s + i) - 48 : Nat) : Int) := by rw [wrap8 (by omega) (by omega)]; omega
        have hcv : IntKind.i64.wrap ((byteAt s (pk s + i) - 48 : Nat) : Int) = ((byteAt s (pk s + i) - 48 : Nat) : Int) := wrap_id (by omega) (by omega)
        have hsum : (10 : Int) * ((vP s (pk s) i : Nat) : Int) + ((byteAt s (pk s + i) - 48 : Nat) : Int) = ((vP s (pk s) (i + 1) : Nat) : Int) := by omega
        repeat' (first | (with_reducible refine jn_in ?_) | (with_reducible refine cl_ok (by assumption) rfl ?_) | (with_reducible refine br_if (fun hbr => ?_) (fun hbr => ?_)) | (with_reducible refine br_ifn (fun hbr => ?_) (fun hbr => ?_)) | (with_reducible refine br_nb (fun hbr => ?_) (fun hbr => ?_)) | (with_reducible refine br_b (fun hbr => ?_) (fun hbr => ?_)) | simp (disch := first | omega | (simp only [List.length_take, List.length_drop, List.length_append, List.map_cons, List.map_nil, List.length_map, List.length_cons, List.length_nil, List.length_set, List.length_replicate]; omega) | (simp only [List.length_cons, List.length_nil, Nat.zero_add, Nat.reduceAdd])) only [go_sem, ↓reduceIte, Nat.reduceAdd, Int.reduceNeg, Int.reduceAdd, Int.reduceSub, Int.reduceMul, Int.reduceLT, Int.reduceLE, Int.reduceEq, Int.reduceToNat, Nat.reduceBEq, e_sle, e_sge, e_shl1, e_orI, e_andI, e_shr, wrapu, wrap8, tn1, nat1, ix_s, ix_z, st_s, st_z, fl_s, fl_z, fl1_s, fl1_z, map_s, map_z, h2i, hw8, hcv, hsum])
        all_goals first | omega | with_reducible exact ⟨i + 1, rfl, ⟨by omega, hst⟩, by omega⟩
      · have hno : prsB s = false := prsB_no (i := i) (by omega) (decide_eq_false (by omega))
        repeat' (first | (with_reducible refine jn_in ?_) | (with_reducible refine cl_ok (by assumption) rfl ?_) | (with_reducible refine br_if (fun hbr => ?_) (fun hbr => ?_)) | (with_reducible refine br_ifn (fun hbr => ?_) (fun hbr => ?_)) | (with_reducible refine br_nb (fun hbr => ?_) (fun hbr => ?_)) | (with_reducible refine br_b (fun hbr => ?_) (fun hbr => ?_)) | simp (disch := first | omega | (simp only [List.length_take, List.length_drop, List.length_append, List.map_cons, List.map_nil, List.length_map, List.length_cons, List.length_nil, List.length_set, List.length_replicate]; omega) | (simp only [List.length_cons, List.length_nil, Nat.zero_add, Nat.reduceAdd])) only [go_sem, ↓reduceIte, Nat.reduceAdd, Int.reduceNeg, Int.reduceAdd, Int.reduceSub, Int.reduceMul, Int.reduceLT, Int.reduceLE, Int.reduceEq, Int.reduceToNat, Nat.reduceBEq, e_sle, e_sge, e_shl1, e_orI, e_andI, e_shr, wrapu, wrap8, tn1, nat1, ix_s, ix_z, st_s, st_z, fl_s, fl_z, fl1_s, fl1_z, map_s, map_z, h2i])
        all_goals first | omega | exact prs_no hno
    · obtain rfl : i = r.size := by omega
      have hV : prsV s = if pk s = 1 then -((vP s (pk s) r.size : Nat) : Int) else ((vP s (pk s) r.size : Nat) : Int) := by
        unfold prsV
        by_cases hk : pk s = 1
        · rw [if_pos hk, if_pos hk, h1, hk]
        · have hk0 : pk s = 0 := by unfold pk at hk ⊢; split at hk <;> simp_all
          rw [if_neg hk, if_neg hk, h1, hk0, Nat.sub_zero]
      have hB : prsB s = decide (fmtInt (prsV s) = s) := by
        rw [h1] at hb
        unfold prsB; rw [hb, decide_eq_true (by omega)]; simp
      by_cases hk : pk s = 1
      · rw [if_pos hk] at hV
        have hf := implFmtInt_m (-((vP s (pk s) r.size : Nat) : Int)) (by unfold In64; omega)
        rw [← hV] at hf
        have hneg : (0 : Int) - ((vP s (pk s) r.size : Nat) : Int) = prsV s := by omega
        simp only [hk] at hv hneg
        repeat' (first | (with_reducible refine jn_in ?_) | (with_reducible refine cl_ok (by assumption) rfl ?_) | (with_reducible refine br_if (fun hbr => ?_) (fun hbr => ?_)) | (with_reducible refine br_ifn (fun hbr => ?_) (fun hbr => ?_)) | (with_reducible refine br_nb (fun hbr => ?_) (fun hbr => ?_)) | (with_reducible refine br_b (fun hbr => ?_) (fun hbr => ?_)) | simp (disch := first | omega | (simp only [List.length_take, List.length_drop, List.length_append, List.map_cons, List.map_nil, List.length_map, List.length_cons, List.length_nil, List.length_set, List.length_replicate]; omega) | (simp only [List.length_cons, List.length_nil, Nat.zero_add, Nat.reduceAdd])) only [go_sem, ↓reduceIte, Nat.reduceAdd, Int.reduceNeg, Int.reduceAdd, Int.reduceSub, Int.reduceMul, Int.reduceLT, Int.reduceLE, Int.reduceEq, Int.reduceToNat, Nat.reduceBEq, e_sle, e_sge, e_shl1, e_orI, e_andI, e_shr, wrapu, wrap8, tn1, nat1, ix_s, ix_z, st_s, st_z, fl_s, fl_z, fl1_s, fl1_z, map_s, map_z, hk, hneg])
        all_goals first | omega | skip
        · exact prs_yes (by rw [hB]; exact decide_eq_true ‹_›) rfl
        · exact prs_no (by rw [hB]; exact decide_eq_false ‹_›)
      · rw [if_neg hk] at hV
        have hf := implFmtInt_m ((vP s (pk s) r.size : Nat) : Int) (by unfold In64; omega)
        repeat' (first | (with_reducible refine jn_in ?_) | (with_reducible refine cl_ok (by assumption) rfl ?_) | (with_reducible refine br_if (fun hbr => ?_) (fun hbr => ?_)) | (with_reducible refine br_ifn (fun hbr => ?_) (fun hbr => ?_)) | (with_reducible refine br_nb (fun hbr => ?_) (fun hbr => ?_)) | (with_reducible refine br_b (fun hbr => ?_) (fun hbr => ?_)) | simp (disch := first | omega | (simp only [List.length_take, List.length_drop, List.length_append, List.map_cons, List.map_nil, List.length_map, List.length_cons, List.length_nil, List.length_set, List.length_replicate]; omega) | (simp only [List.length_cons, List.length_nil, Nat.zero_add, Nat.reduceAdd])) only [go_sem, ↓reduceIte, Nat.reduceAdd, Int.reduceNeg, Int.reduceAdd, Int.reduceSub, Int.reduceMul, Int.reduceLT, Int.reduceLE, Int.reduceEq, Int.reduceToNat, Nat.reduceBEq, e_sle, e_sge, e_shl1, e_orI, e_andI, e_shr, wrapu, wrap8, tn1, nat1, ix_s, ix_z, st_s, st_z, fl_s, fl_z, fl1_s, fl1_z, map_s, map_z, hk])
        all_goals first | omega | skip
        · exact prs_yes (by rw [hB, hV]; exact decide_eq_true ‹_›) hV.symm
        · exact prs_no (by rw [hB, hV]; exact decide_eq_false ‹_›)
  refine meets_upf Try.func100 u_impl_ParseInt_g rfl ?_; simp only [u_impl_ParseInt_u]
  simp (disch := first | omega | (simp only [List.length_take, List.length_drop, List.length_append, List.map_cons, List.map_nil, List.length_map, List.length_cons, List.length_nil, List.length_set, List.length_replicate]; omega) | (simp only [List.length_cons, List.length_nil, Nat.zero_add, Nat.reduceAdd])) only [go_sem, ↓reduceIte, Nat.reduceAdd, Int.reduceNeg, Int.reduceAdd, Int.reduceSub, Int.reduceMul, Int.reduceLT, Int.reduceLE, Int.reduceEq, Int.reduceToNat, Nat.reduceBEq, e_sle, e_sge, e_shl1, e_orI, e_andI, e_shr, wrapu, wrap8, tn1, nat1, ix_s, ix_z, st_s, st_z, fl_s, fl_z, fl1_s, fl1_z, map_s, map_z, true_and]
  refine jn_in ?_
  simp (disch := first | omega | (simp only [List.length_take, List.length_drop, List.length_append, List.map_cons, List.map_nil, List.length_map, List.length_cons, List.length_nil, List.length_set, List.length_replicate]; omega) | (simp only [List.length_cons, List.length_nil, Nat.zero_add, Nat.reduceAdd])) only [go_sem, ↓reduceIte, Nat.reduceAdd, Int.reduceNeg, Int.reduceAdd, Int.reduceSub, Int.reduceMul, Int.reduceLT, Int.reduceLE, Int.reduceEq, Int.reduceToNat, Nat.reduceBEq, e_sle, e_sge, e_shl1, e_orI, e_andI, e_shr, wrapu, wrap8, tn1, nat1, ix_s, ix_z, st_s, st_z, fl_s, fl_z, fl1_s, fl1_z, map_s, map_z, true_and]
  by_cases hk : 0 < s.size ∧ byteAt s 0 = 45
  · have hp : pk s = 1 := if_pos hk
    rw [hp] at key
    have hne : ¬ s = ⟨#[]⟩ := by rintro rfl; exact absurd hk.1 (by decide)
    have hk2 : ((byteAt s 0 : Nat) : Int) = 45 := by omega
    repeat' (first | (with_reducible refine jn_in ?_) | (with_reducible refine cl_ok (by assumption) rfl ?_) | (with_reducible refine br_if (fun hbr => ?_) (fun hbr => ?_)) | (with_reducible refine br_ifn (fun hbr => ?_) (fun hbr => ?_)) | (with_reducible refine br_nb (fun hbr => ?_) (fun hbr => ?_)) | (with_reducible refine br_b (fun hbr => ?_) (fun hbr => ?_)) | simp (disch := first | omega | (simp only [List.length_take, List.length_drop, List.length_append, List.map_cons, List.map_nil, List.length_map, List.length_cons, List.length_nil, List.length_set, List.length_replicate]; omega) | (simp only [List.length_cons, List.length_nil, Nat.zero_add, Nat.reduceAdd])) only [go_sem, ↓reduceIte, Nat.reduceAdd, Int.reduceNeg, Int.reduceAdd, Int.reduceSub, Int.reduceMul, Int.reduceLT, Int.reduceLE, Int.reduceEq, Int.reduceToNat, Nat.reduceBEq, e_sle, e_sge, e_shl1, e_orI, e_andI, e_shr, wrapu, wrap8, tn1, nat1, ix_s, ix_z, st_s, st_z, fl_s, fl_z, fl1_s, fl1_z, map_s, map_z, hne, hk2, u_impl_ParseInt_j2])
    all_goals first | contradiction | skip
    exact key _ _ _ _ _ (by rw [ByteArray.size_extract]; omega) (fun i hi => by rw [ByteArray.size_extract] at hi; exact byteAt_ext (by omega) (Nat.le_refl _))
  · have hp : pk s = 0 := if_neg hk
    rw [hp] at key
    have hk' := fun c0 c1 c2 c3 => key s c0 c1 c2 c3 (by omega) (fun i hi => by rw [Nat.zero_add])
    by_cases h0 : s = ⟨#[]⟩
    · subst h0
      repeat' (first | (with_reducible refine jn_in ?_) | (with_reducible refine cl_ok (by assumption) rfl ?_) | (with_reducible refine br_if (fun hbr => ?_) (fun hbr => ?_)) | (with_reducible refine br_ifn (fun hbr => ?_) (fun hbr => ?_)) | (with_reducible refine br_nb (fun hbr => ?_) (fun hbr => ?_)) | (with_reducible refine br_b (fun hbr => ?_) (fun hbr => ?_)) | simp (disch := first | omega | (simp only [List.length_take, List.length_drop, List.length_append, List.map_cons, List.map_nil, List.length_map, List.length_cons, List.length_nil, List.length_set, List.length_replicate]; omega) | (simp only [List.length_cons, List.length_nil, Nat.zero_add, Nat.reduceAdd])) only [go_sem, ↓reduceIte, Nat.reduceAdd, Int.reduceNeg, Int.reduceAdd, Int.reduceSub, Int.reduceMul, Int.reduceLT, Int.reduceLE, Int.reduceEq, Int.reduceToNat, Nat.reduceBEq, e_sle, e_sge, e_shl1, e_orI, e_andI, e_shr, wrapu, wrap8, tn1, nat1, ix_s, ix_z, st_s, st_z, fl_s, fl_z, fl1_s, fl1_z, map_s, map_z, eq_self, u_impl_ParseInt_j2])
      all_goals first | exact absurd rfl ‹¬ (⟨#[]⟩ : ByteArray) = ⟨#[]⟩› | exact hk' _ _ _ _
    · have hpos : 0 < s.size := by
        apply Classical.byContradiction
        intro hc
        apply h0
        obtain ⟨a⟩ := s
        have : a.size = 0 := by have : (⟨a⟩ : ByteArray).size = a.size := rfl; omega
        have := Array.eq_empty_of_size_eq_zero this
        subst this; rfl
      have hk2 : ¬ ((byteAt s 0 : Nat) : Int) = 45 := by omega
      repeat' (first | (with_reducible refine jn_in ?_) | (with_reducible refine cl_ok (by assumption) rfl ?_) | (with_reducible refine br_if (fun hbr => ?_) (fun hbr => ?_)) | (with_reducible refine br_ifn (fun hbr => ?_) (fun hbr => ?_)) | (with_reducible refine br_nb (fun hbr => ?_) (fun hbr => ?_)) | (with_reducible refine br_b (fun hbr => ?_) (fun hbr => ?_)) | simp (disch := first | omega | (simp only [List.length_take, List.length_drop, List.length_append, List.map_cons, List.map_nil, List.length_map, List.length_cons, List.length_nil, List.length_set, List.length_replicate]; omega) | (simp only [List.length_cons, List.length_nil, Nat.zero_add, Nat.reduceAdd])) only [go_sem, ↓reduceIte, Nat.reduceAdd, Int.reduceNeg, Int.reduceAdd, Int.reduceSub, Int.reduceMul, Int.reduceLT, Int.reduceLE, Int.reduceEq, Int.reduceToNat, Nat.reduceBEq, e_sle, e_sge, e_shl1, e_orI, e_andI, e_shr, wrapu, wrap8, tn1, nat1, ix_s, ix_z, st_s, st_z, fl_s, fl_z, fl1_s, fl1_z, map_s, map_z, h0, hk2, u_impl_ParseInt_j2])
      all_goals first | contradiction | exact hk' _ _ _ _
theorem pk_le (s : ByteArray) : pk s ≤ 1 := by unfold pk; split <;> omega
theorem pk_one {s : ByteArray} (h : pk s = 1) : 0 < s.size ∧ byteAt s 0 = 45 := by unfold pk at h; split at h <;> simp_all
theorem pk_zero {s : ByteArray} (h : pk s = 0) (hs : 0 < s.size) : ¬ byteAt s 0 = 45 := by unfold pk at h; split at h <;> simp_all
set_option maxHeartbeats 4000000 in
theorem specPrs_m (s : ByteArray) (hs : s.size ≤ 100000000000) : Meets Try.prog 96 [(false, [.sc (.string s)])] [(false, [.sc (.int .i64 (if prsB s = true then prsV s else 0))], true), (false, [.sc (.bool (prsB s))], true)] := by
  have hk1 := pk_le s
  have hno := @prsB_no s
  have hle := @prsB_len s
  have hP1 := @pk_one s
  have hP0 := @pk_zero s
  have hVd : prsV s = if pk s = 1 then -((vP s (pk s) (s.size - pk s) : Nat) : Int) else ((vP s (pk s) (s.size - pk s) : Nat) : Int) := by
    unfold prsV
    by_cases hk : pk s = 1
    · rw [if_pos hk, if_pos hk, hk]
    · have hk0 : pk s = 0 := by omega
      rw [if_neg hk, if_neg hk, hk0, Nat.sub_zero]
  have hB : allB (digT s (pk s)) (s.size - pk s) = true → 1 ≤ s.size - pk s → s.size - pk s ≤ 9 → prsB s = decide (fmtInt (prsV s) = s) := by
    intro h1 h2 h3
    unfold prsB; rw [h1, decide_eq_true ⟨h2, h3⟩]; simp
  generalize pk s = k at hk1 hno hle hP1 hP0 hVd hB
  refine meets_upf Try.func96 u_spec_ParseInt_g rfl ?_; simp only [u_spec_ParseInt_u]
  simp (disch := first | omega | (simp only [List.length_take, List.length_drop, List.length_append, List.map_cons, List.map_nil, List.length_map, List.length_cons, List.length_nil, List.length_set, List.length_replicate]; omega) | (simp only [List.length_cons, List.length_nil, Nat.zero_add, Nat.reduceAdd])) only [go_sem, ↓reduceIte, Nat.reduceAdd, Int.reduceNeg, Int.reduceAdd, Int.reduceSub, Int.reduceMul, Int.reduceLT, Int.reduceLE, Int.reduceEq, Int.reduceToNat, Nat.reduceBEq, e_sle, e_sge, e_shl1, e_orI, e_andI, e_shr, wrapu, wrap8, tn1, nat1, ix_s, ix_z, st_s, st_z, fl_s, fl_z, fl1_s, fl1_z, map_s, map_z, true_and]
  refine jn_in ?_
  simp (disch := first | omega | (simp only [List.length_take, List.length_drop, List.length_append, List.map_cons, List.map_nil, List.length_map, List.length_cons, List.length_nil, List.length_set, List.length_replicate]; omega) | (simp only [List.length_cons, List.length_nil, Nat.zero_add, Nat.reduceAdd])) only [go_sem, ↓reduceIte, Nat.reduceAdd, Int.reduceNeg, Int.reduceAdd, Int.reduceSub, Int.reduceMul, Int.reduceLT, Int.reduceLE, Int.reduceEq, Int.reduceToNat, Nat.reduceBEq, e_sle, e_sge, e_shl1, e_orI, e_andI, e_shr, wrapu, wrap8, tn1, nat1, ix_s, ix_z, st_s, st_z, fl_s, fl_z, fl1_s, fl1_z, map_s, map_z, true_and]
  refine lp (fun i : Nat => [.sc (.int .i64 i), .sc (.int .i64 ((i - k : Nat) : Int)), .sc (.int .i64 (vP s (k) (i - k) : Nat))]) (fun i => i ≤ s.size ∧ i - k ≤ 10 ∧ allB (digT s (k)) (i - k) = true) (fun i => s.size - i) 0 (by simp [gL, vP]) ⟨by omega, by omega, by simp [allB_zero]⟩ ?_
  rintro i ⟨hi, hi10, hb⟩
  have hv := vP_lt hb
  have hp10 : 10 ^ (i - k) ≤ 10000000000 := Nat.pow_le_pow_right (n := 10) (by decide) hi10
  simp only [u_spec_ParseInt_l2]
  rcases (show k = 0 ∨ k = 1 by omega) with rfl | rfl
  · simp only [Nat.sub_zero] at *
    by_cases hlt : i < s.size ∧ i < 10
    · have hbt := byteAt_lt s i
      have hv1 : vP s 0 (i + 1) = 10 * vP s 0 i + (byteAt s (0 + i) - 48) := rfl
      rw [Nat.zero_add] at hv1
      have h45 : i = 0 → ¬ byteAt s i = 45 := fun e => by have h9 : ¬ byteAt s 0 = 45 := (by first | exact hP0 rfl (by omega) | exact hP0 trivial (by omega)); rw [e]; exact h9
      by_cases hdig : 48 ≤ byteAt s i ∧ byteAt s i ≤ 57
      · have hst := allB_step hb (show digT s 0 i = true by unfold digT; rw [Nat.zero_add]; exact decide_eq_true (by omega))
        have hw8 : IntKind.u8.wrap ((byteAt s i : Int) - 48) = ((byteAt s i - 48 : Nat) : Int) := by rw [wrap8 (by omega) (by omega)]; omega
        have hcv : IntKind.i64.wrap ((byteAt s i - 48 : Nat) : Int) = ((byteAt s i - 48 : Nat) : Int) := wrap_id (by omega) (by omega)
        have hsum : ((vP s 0 i : Nat) : Int) * 10 + ((byteAt s i - 48 : Nat) : Int) = ((vP s 0 (i + 1) : Nat) : Int) := by omega
        repeat' (first | (with_reducible refine jn_in ?_) | (with_reducible refine cl_ok (by assumption) rfl ?_) | (with_reducible refine br_if (fun hbr => ?_) (fun hbr => ?_)) | (with_reducible refine br_ifn (fun hbr => ?_) (fun hbr => ?_)) | (with_reducible refine br_nb (fun hbr => ?_) (fun hbr => ?_)) | (with_reducible refine br_b (fun hbr => ?_) (fun hbr => ?_)) | simp (disch := first | omega | (simp only [List.length_take, List.length_drop, List.length_append, List.map_cons, List.map_nil, List.length_map, List.length_cons, List.length_nil, List.length_set, List.length_replicate]; omega) | (simp only [List.length_cons, List.length_nil, Nat.zero_add, Nat.reduceAdd])) only [go_sem, ↓reduceIte, Nat.reduceAdd, Int.reduceNeg, Int.reduceAdd, Int.reduceSub, Int.reduceMul, Int.reduceLT, Int.reduceLE, Int.reduceEq, Int.reduceToNat, Nat.reduceBEq, e_sle, e_sge, e_shl1, e_orI, e_andI, e_shr, wrapu, wrap8, tn1, nat1, ix_s, ix_z, st_s, st_z, fl_s, fl_z, fl1_s, fl1_z, map_s, map_z, hw8, hcv, hsum, u_spec_ParseInt_j0, u_spec_ParseInt_j1])
        all_goals first | omega | with_reducible exact ⟨i + 1, rfl, ⟨by omega, by omega, hst⟩, by omega⟩ | skip
      · have hno1 : prsB s = false := hno (i := i) (by omega) (by unfold digT; rw [Nat.zero_add]; exact decide_eq_false (by omega))
        repeat' (first | (with_reducible refine jn_in ?_) | (with_reducible refine cl_ok (by assumption) rfl ?_) | (with_reducible refine br_if (fun hbr => ?_) (fun hbr => ?_)) | (with_reducible refine br_ifn (fun hbr => ?_) (fun hbr => ?_)) | (with_reducible refine br_nb (fun hbr => ?_) (fun hbr => ?_)) | (with_reducible refine br_b (fun hbr => ?_) (fun hbr => ?_)) | simp (disch := first | omega | (simp only [List.length_take, List.length_drop, List.length_append, List.map_cons, List.map_nil, List.length_map, List.length_cons, List.length_nil, List.length_set, List.length_replicate]; omega) | (simp only [List.length_cons, List.length_nil, Nat.zero_add, Nat.reduceAdd])) only [go_sem, ↓reduceIte, Nat.reduceAdd, Int.reduceNeg, Int.reduceAdd, Int.reduceSub, Int.reduceMul, Int.reduceLT, Int.reduceLE, Int.reduceEq, Int.reduceToNat, Nat.reduceBEq, e_sle, e_sge, e_shl1, e_orI, e_andI, e_shr, wrapu, wrap8, tn1, nat1, ix_s, ix_z, st_s, st_z, fl_s, fl_z, fl1_s, fl1_z, map_s, map_z, u_spec_ParseInt_j0, u_spec_ParseInt_j1])
        all_goals first | omega | exact prs_no hno1 | skip
    · have hf := specFmtInt_m ((vP s 0 i : Nat) : Int) (by unfold In64; omega)
      have hend : i = s.size → 1 ≤ s.size → s.size ≤ 9 → prsV s = ((vP s 0 i : Nat) : Int) ∧ prsB s = decide (fmtInt (prsV s) = s) := by
        rintro rfl h1 h2
        exact ⟨by rw [hVd]; rfl, hB hb h1 h2⟩
      have h45 : 0 < s.size → ¬ ((byteAt s 0 : Nat) : Int) = 45 := fun h => by
        have h9 : ¬ byteAt s 0 = 45 := by first | exact hP0 rfl h | exact hP0 trivial h
        omega
      rcases Nat.eq_zero_or_pos s.size with hz | hz
      · repeat' (first | (with_reducible refine jn_in ?_) | (with_reducible refine cl_ok (by assumption) rfl ?_) | (with_reducible refine br_if (fun hbr => ?_) (fun hbr => ?_)) | (with_reducible refine br_ifn (fun hbr => ?_) (fun hbr => ?_)) | (with_reducible refine br_nb (fun hbr => ?_) (fun hbr => ?_)) | (with_reducible refine br_b (fun hbr => ?_) (fun hbr => ?_)) | simp (disch := first | omega | (simp only [List.length_take, List.length_drop, List.length_append, List.map_cons, List.map_nil, List.length_map, List.length_cons, List.length_nil, List.length_set, List.length_replicate]; omega) | (simp only [List.length_cons, List.length_nil, Nat.zero_add, Nat.reduceAdd])) only [go_sem, ↓reduceIte, Nat.reduceAdd, Int.reduceNeg, Int.reduceAdd, Int.reduceSub, Int.reduceMul, Int.reduceLT, Int.reduceLE, Int.reduceEq, Int.reduceToNat, Nat.reduceBEq, e_sle, e_sge, e_shl1, e_orI, e_andI, e_shr, wrapu, wrap8, tn1, nat1, ix_s, ix_z, st_s, st_z, fl_s, fl_z, fl1_s, fl1_z, map_s, map_z, u_spec_ParseInt_j5, u_spec_ParseInt_j4, u_spec_ParseInt_j3])
        all_goals first | omega | exact prs_no (hle (by omega))
      · have h45 := h45 hz
        repeat' (first | (with_reducible refine jn_in ?_) | (with_reducible refine cl_ok (by assumption) rfl ?_) | (with_reducible refine br_if (fun hbr => ?_) (fun hbr => ?_)) | (with_reducible refine br_ifn (fun hbr => ?_) (fun hbr => ?_)) | (with_reducible refine br_nb (fun hbr => ?_) (fun hbr => ?_)) | (with_reducible refine br_b (fun hbr => ?_) (fun hbr => ?_)) | simp (disch := first | omega | (simp only [List.length_take, List.length_drop, List.length_append, List.map_cons, List.map_nil, List.length_map, List.length_cons, List.length_nil, List.length_set, List.length_replicate]; omega) | (simp only [List.length_cons, List.length_nil, Nat.zero_add, Nat.reduceAdd])) only [go_sem, ↓reduceIte, Nat.reduceAdd, Int.reduceNeg, Int.reduceAdd, Int.reduceSub, Int.reduceMul, Int.reduceLT, Int.reduceLE, Int.reduceEq, Int.reduceToNat, Nat.reduceBEq, e_sle, e_sge, e_shl1, e_orI, e_andI, e_shr, wrapu, wrap8, tn1, nat1, ix_s, ix_z, st_s, st_z, fl_s, fl_z, fl1_s, fl1_z, map_s, map_z, u_spec_ParseInt_j5, u_spec_ParseInt_j4, u_spec_ParseInt_j3])
        all_goals first
          | omega
          | exact prs_no (hle (by omega))
          | (obtain ⟨e1, e2⟩ := hend (by omega) (by omega) (by omega); exact prs_yes (by rw [e2, e1]; exact decide_eq_true ‹_›) e1.symm)
          | (obtain ⟨e1, e2⟩ := hend (by omega) (by omega) (by omega); exact prs_no (by rw [e2, e1]; exact decide_eq_false ‹_›))
          | skip
  · obtain ⟨hs0, h450⟩ := hP1 rfl
    have h45I : ((byteAt s 0 : Nat) : Int) = 45 := by omega
    by_cases hi0 : i = 0
    · subst hi0
      simp only [Nat.zero_sub]
      repeat' (first | (with_reducible refine jn_in ?_) | (with_reducible refine cl_ok (by assumption) rfl ?_) | (with_reducible refine br_if (fun hbr => ?_) (fun hbr => ?_)) | (with_reducible refine br_ifn (fun hbr => ?_) (fun hbr => ?_)) | (with_reducible refine br_nb (fun hbr => ?_) (fun hbr => ?_)) | (with_reducible refine br_b (fun hbr => ?_) (fun hbr => ?_)) | simp (disch := first | omega | (simp only [List.length_take, List.length_drop, List.length_append, List.map_cons, List.map_nil, List.length_map, List.length_cons, List.length_nil, List.length_set, List.length_replicate]; omega) | (simp only [List.length_cons, List.length_nil, Nat.zero_add, Nat.reduceAdd])) only [go_sem, ↓reduceIte, Nat.reduceAdd, Int.reduceNeg, Int.reduceAdd, Int.reduceSub, Int.reduceMul, Int.reduceLT, Int.reduceLE, Int.reduceEq, Int.reduceToNat, Nat.reduceBEq, e_sle, e_sge, e_shl1, e_orI, e_andI, e_shr, wrapu, wrap8, tn1, nat1, ix_s, ix_z, st_s, st_z, fl_s, fl_z, fl1_s, fl1_z, map_s, map_z, h45I, u_spec_ParseInt_j0, u_spec_ParseInt_j1])
      all_goals first | omega | with_reducible exact ⟨1, rfl, ⟨by omega, by omega, rfl⟩, by omega⟩ | skip
    obtain ⟨m, rfl⟩ : ∃ m, i = m + 1 := ⟨i - 1, by omega⟩
    simp only [Nat.add_sub_cancel] at *
    have hmi : (m + 1 + 1) - 1 = m + 1 := rfl
    by_cases hlt : m + 1 < s.size ∧ m < 10
    · have hbt := byteAt_lt s (m + 1)
      have hv1 : vP s 1 (m + 1) = 10 * vP s 1 m + (byteAt s (1 + m) - 48) := rfl
      rw [Nat.add_comm 1 m] at hv1
      by_cases hdig : 48 ≤ byteAt s (m + 1) ∧ byteAt s (m + 1) ≤ 57
      · have hst := allB_step hb (show digT s 1 m = true by unfold digT; rw [Nat.add_comm 1 m]; exact decide_eq_true (by omega))
        have hw8 : IntKind.u8.wrap ((byteAt s (m + 1) : Int) - 48) = ((byteAt s (m + 1) - 48 : Nat) : Int) := by rw [wrap8 (by omega) (by omega)]; omega
        have hcv : IntKind.i64.wrap ((byteAt s (m + 1) - 48 : Nat) : Int) = ((byteAt s (m + 1) - 48 : Nat) : Int) := wrap_id (by omega) (by omega)
        have hsum : ((vP s 1 m : Nat) : Int) * 10 + ((byteAt s (m + 1) - 48 : Nat) : Int) = ((vP s 1 (m + 1) : Nat) : Int) := by omega
        repeat' (first | (with_reducible refine jn_in ?_) | (with_reducible refine cl_ok (by assumption) rfl ?_) | (with_reducible refine br_if (fun hbr => ?_) (fun hbr => ?_)) | (with_reducible refine br_ifn (fun hbr => ?_) (fun hbr => ?_)) | (with_reducible refine br_nb (fun hbr => ?_) (fun hbr => ?_)) | (with_reducible refine br_b (fun hbr => ?_) (fun hbr => ?_)) | simp (disch := first | omega | (simp only [List.length_take, List.length_drop, List.length_append, List.map_cons, List.map_nil, List.length_map, List.length_cons, List.length_nil, List.length_set, List.length_replicate]; omega) | (simp only [List.length_cons, List.length_nil, Nat.zero_add, Nat.reduceAdd])) only [go_sem, ↓reduceIte, Nat.reduceAdd, Int.reduceNeg, Int.reduceAdd, Int.reduceSub, Int.reduceMul, Int.reduceLT, Int.reduceLE, Int.reduceEq, Int.reduceToNat, Nat.reduceBEq, e_sle, e_sge, e_shl1, e_orI, e_andI, e_shr, wrapu, wrap8, tn1, nat1, ix_s, ix_z, st_s, st_z, fl_s, fl_z, fl1_s, fl1_z, map_s, map_z, hw8, hcv, hsum, u_spec_ParseInt_j0, u_spec_ParseInt_j1])
        all_goals first | omega | exact ⟨m + 1 + 1, by simp only [Nat.add_sub_cancel], ⟨by omega, by omega, by simpa only [Nat.add_sub_cancel] using hst⟩, by omega⟩ | skip
      · have hno1 : prsB s = false := hno (i := m) (by omega) (by unfold digT; rw [Nat.add_comm 1 m]; exact decide_eq_false (by omega))
        repeat' (first | (with_reducible refine jn_in ?_) | (with_reducible refine cl_ok (by assumption) rfl ?_) | (with_reducible refine br_if (fun hbr => ?_) (fun hbr => ?_)) | (with_reducible refine br_ifn (fun hbr => ?_) (fun hbr => ?_)) | (with_reducible refine br_nb (fun hbr => ?_) (fun hbr => ?_)) | (with_reducible refine br_b (fun hbr => ?_) (fun hbr => ?_)) | simp (disch := first | omega | (simp only [List.length_take, List.length_drop, List.length_append, List.map_cons, List.map_nil, List.length_map, List.length_cons, List.length_nil, List.length_set, List.length_replicate]; omega) | (simp only [List.length_cons, List.length_nil, Nat.zero_add, Nat.reduceAdd])) only [go_sem, ↓reduceIte, Nat.reduceAdd, Int.reduceNeg, Int.reduceAdd, Int.reduceSub, Int.reduceMul, Int.reduceLT, Int.reduceLE, Int.reduceEq, Int.reduceToNat, Nat.reduceBEq, e_sle, e_sge, e_shl1, e_orI, e_andI, e_shr, wrapu, wrap8, tn1, nat1, ix_s, ix_z, st_s, st_z, fl_s, fl_z, fl1_s, fl1_z, map_s, map_z, u_spec_ParseInt_j0, u_spec_ParseInt_j1])
        all_goals first | omega | exact prs_no hno1 | skip
    · have hf := specFmtInt_m (-((vP s 1 m : Nat) : Int)) (by unfold In64; omega)
      have hf0 := specFmtInt_m ((vP s 1 m : Nat) : Int) (by unfold In64; omega)
      have hng : (0 : Int) - ((vP s 1 m : Nat) : Int) = -((vP s 1 m : Nat) : Int) := by omega
      have hend : m + 1 = s.size → 1 ≤ m → m ≤ 9 → prsV s = -((vP s 1 m : Nat) : Int) ∧ prsB s = decide (fmtInt (prsV s) = s) := by
        intro h0 h1 h2
        have e : s.size - 1 = m := by omega
        rw [e] at hVd hB
        exact ⟨by rw [hVd]; rfl, hB hb h1 h2⟩
      repeat' (first | (with_reducible refine jn_in ?_) | (with_reducible refine cl_ok (by assumption) rfl ?_) | (with_reducible refine br_if (fun hbr => ?_) (fun hbr => ?_)) | (with_reducible refine br_ifn (fun hbr => ?_) (fun hbr => ?_)) | (with_reducible refine br_nb (fun hbr => ?_) (fun hbr => ?_)) | (with_reducible refine br_b (fun hbr => ?_) (fun hbr => ?_)) | simp (disch := first | omega | (simp only [List.length_take, List.length_drop, List.length_append, List.map_cons, List.map_nil, List.length_map, List.length_cons, List.length_nil, List.length_set, List.length_replicate]; omega) | (simp only [List.length_cons, List.length_nil, Nat.zero_add, Nat.reduceAdd])) only [go_sem, ↓reduceIte, Nat.reduceAdd, Int.reduceNeg, Int.reduceAdd, Int.reduceSub, Int.reduceMul, Int.reduceLT, Int.reduceLE, Int.reduceEq, Int.reduceToNat, Nat.reduceBEq, e_sle, e_sge, e_shl1, e_orI, e_andI, e_shr, wrapu, wrap8, tn1, nat1, ix_s, ix_z, st_s, st_z, fl_s, fl_z, fl1_s, fl1_z, map_s, map_z, h45I, hng, u_spec_ParseInt_j5, u_spec_ParseInt_j4, u_spec_ParseInt_j3])
      all_goals first
        | omega
        | exact prs_no (hle (by omega))
        | (obtain ⟨e1, e2⟩ := hend (by omega) (by omega) (by omega); exact prs_yes (by rw [e2, e1]; exact decide_eq_true ‹_›) e1.symm)
        | (obtain ⟨e1, e2⟩ := hend (by omega) (by omega) (by omega); exact prs_no (by rw [e2, e1]; exact decide_eq_false ‹_›))
        | skip
end Go.Proofs.Ytbddjkbbnflnkaa
