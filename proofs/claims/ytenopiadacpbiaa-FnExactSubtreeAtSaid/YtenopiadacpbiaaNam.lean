/- Letters, digits, reserved words, syntactic names, FormatName (impl and spec). -/
import Derived.Test.YtenopiadacpbiaaUNam
import Derived.Test.YtenopiadacpbiaaTxt
namespace Go.Proofs.Ytenopiadacpbiaa
open Go.RowKit
set_option linter.unusedVariables false
set_option linter.unusedSimpArgs false
set_option maxRecDepth 100000

def letB (b : Int) : Bool := decide (97 ≤ b ∧ b ≤ 122) || decide (65 ≤ b ∧ b ≤ 90)
def digB (b : Int) : Bool := decide (48 ≤ b ∧ b ≤ 57)
theorem isLetter_m (b : Int) : Meets Try.prog 88 [(false, [.sc (.int .u8 b)])] [(false, [.sc (.bool (letB b))], true)] := by
  refine meets_upf Try.func88 u_impl_isLetter_g rfl ?_; simp only [u_impl_isLetter_u]
  repeat' (first | (with_reducible refine jn_in ?_) | (with_reducible refine cl_ok (by assumption) rfl ?_) | (with_reducible refine br_if (fun hbr => ?_) (fun hbr => ?_)) | (with_reducible refine br_ifn (fun hbr => ?_) (fun hbr => ?_)) | (with_reducible refine br_nb (fun hbr => ?_) (fun hbr => ?_)) | (with_reducible refine br_b (fun hbr => ?_) (fun hbr => ?_)) | simp (disch := first | omega | (simp only [List.length_take, List.length_drop, List.length_append, List.map_cons, List.map_nil, List.length_map, List.length_cons, List.length_nil, List.length_set, List.length_replicate]; omega) | (simp only [List.length_cons, List.length_nil, Nat.zero_add, Nat.reduceAdd])) only [go_sem, ↓reduceIte, Nat.reduceAdd, Int.reduceNeg, Int.reduceAdd, Int.reduceSub, Int.reduceMul, Int.reduceLT, Int.reduceLE, Int.reduceEq, Int.reduceToNat, Nat.reduceBEq, true_and])
  all_goals (refine ret_b ?_; unfold letB; rw [Bool.eq_iff_iff]; simp; omega)
theorem l1Letter_m (b : Int) : Meets Try.prog 91 [(false, [.sc (.int .u8 b)])] [(false, [.sc (.bool (letB b))], true)] := by
  refine meets_upf Try.func91 u_spec_l1Letter_g rfl ?_; simp only [u_spec_l1Letter_u]
  repeat' (first | (with_reducible refine jn_in ?_) | (with_reducible refine cl_ok (by assumption) rfl ?_) | (with_reducible refine br_if (fun hbr => ?_) (fun hbr => ?_)) | (with_reducible refine br_ifn (fun hbr => ?_) (fun hbr => ?_)) | (with_reducible refine br_nb (fun hbr => ?_) (fun hbr => ?_)) | (with_reducible refine br_b (fun hbr => ?_) (fun hbr => ?_)) | simp (disch := first | omega | (simp only [List.length_take, List.length_drop, List.length_append, List.map_cons, List.map_nil, List.length_map, List.length_cons, List.length_nil, List.length_set, List.length_replicate]; omega) | (simp only [List.length_cons, List.length_nil, Nat.zero_add, Nat.reduceAdd])) only [go_sem, ↓reduceIte, Nat.reduceAdd, Int.reduceNeg, Int.reduceAdd, Int.reduceSub, Int.reduceMul, Int.reduceLT, Int.reduceLE, Int.reduceEq, Int.reduceToNat, Nat.reduceBEq, true_and])
  all_goals (refine ret_b ?_; unfold letB; rw [Bool.eq_iff_iff]; simp; omega)
theorem isDigit_m (b : Int) : Meets Try.prog 89 [(false, [.sc (.int .u8 b)])] [(false, [.sc (.bool (digB b))], true)] := by
  refine meets_upf Try.func89 u_impl_isDigit_g rfl ?_; simp only [u_impl_isDigit_u]
  repeat' (first | (with_reducible refine jn_in ?_) | (with_reducible refine cl_ok (by assumption) rfl ?_) | (with_reducible refine br_if (fun hbr => ?_) (fun hbr => ?_)) | (with_reducible refine br_ifn (fun hbr => ?_) (fun hbr => ?_)) | (with_reducible refine br_nb (fun hbr => ?_) (fun hbr => ?_)) | (with_reducible refine br_b (fun hbr => ?_) (fun hbr => ?_)) | simp (disch := first | omega | (simp only [List.length_take, List.length_drop, List.length_append, List.map_cons, List.map_nil, List.length_map, List.length_cons, List.length_nil, List.length_set, List.length_replicate]; omega) | (simp only [List.length_cons, List.length_nil, Nat.zero_add, Nat.reduceAdd])) only [go_sem, ↓reduceIte, Nat.reduceAdd, Int.reduceNeg, Int.reduceAdd, Int.reduceSub, Int.reduceMul, Int.reduceLT, Int.reduceLE, Int.reduceEq, Int.reduceToNat, Nat.reduceBEq, true_and])
  all_goals (refine ret_b ?_; unfold digB; rw [Bool.eq_iff_iff]; simp; omega)
theorem l1Digit_m (b : Int) : Meets Try.prog 92 [(false, [.sc (.int .u8 b)])] [(false, [.sc (.bool (digB b))], true)] := by
  refine meets_upf Try.func92 u_spec_l1Digit_g rfl ?_; simp only [u_spec_l1Digit_u]
  repeat' (first | (with_reducible refine jn_in ?_) | (with_reducible refine cl_ok (by assumption) rfl ?_) | (with_reducible refine br_if (fun hbr => ?_) (fun hbr => ?_)) | (with_reducible refine br_ifn (fun hbr => ?_) (fun hbr => ?_)) | (with_reducible refine br_nb (fun hbr => ?_) (fun hbr => ?_)) | (with_reducible refine br_b (fun hbr => ?_) (fun hbr => ?_)) | simp (disch := first | omega | (simp only [List.length_take, List.length_drop, List.length_append, List.map_cons, List.map_nil, List.length_map, List.length_cons, List.length_nil, List.length_set, List.length_replicate]; omega) | (simp only [List.length_cons, List.length_nil, Nat.zero_add, Nat.reduceAdd])) only [go_sem, ↓reduceIte, Nat.reduceAdd, Int.reduceNeg, Int.reduceAdd, Int.reduceSub, Int.reduceMul, Int.reduceLT, Int.reduceLE, Int.reduceEq, Int.reduceToNat, Nat.reduceBEq, true_and])
  all_goals (refine ret_b ?_; unfold digB; rw [Bool.eq_iff_iff]; simp; omega)

def resL : List ByteArray := [⟨#[105, 102]⟩, ⟨#[101, 108, 115, 101]⟩, ⟨#[102, 111, 114]⟩, ⟨#[105, 110]⟩, ⟨#[119, 104, 105, 108, 101]⟩, ⟨#[98, 114, 101, 97, 107]⟩, ⟨#[110, 101, 120, 116]⟩, ⟨#[102, 117, 110, 99, 116, 105, 111, 110]⟩, ⟨#[114, 101, 116, 117, 114, 110]⟩, ⟨#[84, 82, 85, 69]⟩, ⟨#[70, 65, 76, 83, 69]⟩, ⟨#[78, 85, 76, 76]⟩, ⟨#[78, 65]⟩,
  ⟨#[78, 65, 95, 110, 117, 109, 98, 101, 114, 95]⟩, ⟨#[78, 65, 95, 99, 104, 97, 114, 97, 99, 116, 101, 114, 95]⟩, ⟨#[116, 114, 121, 67, 97, 116, 99, 104]⟩, ⟨#[119, 105, 116, 104, 67, 97, 108, 108, 105, 110, 103, 72, 97, 110, 100, 108, 101, 114, 115]⟩, ⟨#[119, 105, 116, 104, 82, 101, 115, 116, 97, 114, 116]⟩, ⟨#[105, 110, 118, 111, 107, 101, 82, 101, 115, 116, 97, 114, 116]⟩, ⟨#[109, 105, 115, 115, 105, 110, 103]⟩, ⟨#[111, 110, 46, 101, 120, 105, 116]⟩, ⟨#[85, 115, 101, 77, 101, 116, 104, 111, 100]⟩, ⟨#[78, 101, 120, 116, 77, 101, 116, 104, 111, 100]⟩]
def resB (s : ByteArray) : Bool := hasB resL s
theorem l1Reserved_m (s : ByteArray) : Meets Try.prog 93 [(false, [.sc (.string s)])] [(false, [.sc (.bool (resB s))], true)] := by
  have h := l1Has_m 9 resL s (by decide)
  simp only [resL, List.map_cons, List.map_nil, encS] at h
  refine meets_upf Try.func93 u_spec_l1Reserved_g rfl ?_; simp only [u_spec_l1Reserved_u]
  repeat' (first | (with_reducible refine jn_in ?_) | (with_reducible refine cl_ok (by assumption) rfl ?_) | (with_reducible refine br_if (fun hbr => ?_) (fun hbr => ?_)) | (with_reducible refine br_ifn (fun hbr => ?_) (fun hbr => ?_)) | (with_reducible refine br_nb (fun hbr => ?_) (fun hbr => ?_)) | (with_reducible refine br_b (fun hbr => ?_) (fun hbr => ?_)) | simp (disch := first | omega | (simp only [List.length_take, List.length_drop, List.length_append, List.map_cons, List.map_nil, List.length_map, List.length_cons, List.length_nil, List.length_set, List.length_replicate]; omega) | (simp only [List.length_cons, List.length_nil, Nat.zero_add, Nat.reduceAdd])) only [go_sem, ↓reduceIte, Nat.reduceAdd, Int.reduceNeg, Int.reduceAdd, Int.reduceSub, Int.reduceMul, Int.reduceLT, Int.reduceLE, Int.reduceEq, Int.reduceToNat, Nat.reduceBEq, true_and])
  rfl
theorem isReserved_m (s : ByteArray) : Meets Try.prog 87 [(false, [.sc (.string s)])] [(false, [.sc (.bool (resB s))], true)] := by
  refine meets_upf Try.func87 u_impl_isReserved_g rfl ?_; simp only [u_impl_isReserved_u]
  repeat' (first | (with_reducible refine jn_in ?_) | (with_reducible refine cl_ok (by assumption) rfl ?_) | (with_reducible refine br_if (fun hbr => ?_) (fun hbr => ?_)) | (with_reducible refine br_ifn (fun hbr => ?_) (fun hbr => ?_)) | (with_reducible refine br_nb (fun hbr => ?_) (fun hbr => ?_)) | (with_reducible refine br_b (fun hbr => ?_) (fun hbr => ?_)) | simp (disch := first | omega | (simp only [List.length_take, List.length_drop, List.length_append, List.map_cons, List.map_nil, List.length_map, List.length_cons, List.length_nil, List.length_set, List.length_replicate]; omega) | (simp only [List.length_cons, List.length_nil, Nat.zero_add, Nat.reduceAdd])) only [go_sem, ↓reduceIte, Nat.reduceAdd, Int.reduceNeg, Int.reduceAdd, Int.reduceSub, Int.reduceMul, Int.reduceLT, Int.reduceLE, Int.reduceEq, Int.reduceToNat, Nat.reduceBEq, u_impl_isReserved_j0])
  all_goals refine ret_b ?_
  all_goals first
    | contradiction
    | (rw [Bool.eq_false_iff]; unfold resB; rw [ne_eq, hasB_iff]; simp only [resL, List.mem_cons, List.not_mem_nil, or_false, not_or]; simp only [*, not_false_eq_true, and_self]; done)
    | (unfold resB; rw [hasB_iff]; simp only [resL, List.mem_cons, *, true_or, or_true]; done)
    | skip

def synC (s : ByteArray) (i : Nat) : Bool := letB (byteAt s i) || (decide (byteAt s i = 46) || (!decide (i = 0) && (digB (byteAt s i) || decide (byteAt s i = 95))))
def synI (s : ByteArray) (i : Nat) : Bool := letB (byteAt s i) || (digB (byteAt s i) || (decide (byteAt s i = 46) || decide (byteAt s i = 95)))
def synB (s : ByteArray) : Bool := nameB s && (!resB s && (allB (synC s) s.size && !(decide (byteAt s 0 = 46) && (decide (1 < s.size) && digB (byteAt s 1)))))
theorem synB_no {s : ByteArray} {i : Nat} (h : i < s.size) (hp : synC s i = false) : synB s = false := by unfold synB; rw [allB_no h hp]; simp
theorem synB_name {s : ByteArray} (h : synB s = true) : nameB s = true := by unfold synB at h; simp only [Bool.and_eq_true] at h; exact h.1

set_option maxHeartbeats 2000000 in
theorem specSyn_m (s : ByteArray) (hs : s.size ≤ 100000000000) : Meets Try.prog 84 [(false, [.sc (.string s)])] [(false, [.sc (.bool (synB s))], true)] := by
  have h1 := fun i => l1Letter_m (byteAt s i)
  have h2 := fun i => l1Digit_m (byteAt s i)
  have h3 := specName_m s (by omega)
  have h4 := l1Reserved_m s
  refine meets_upf Try.func84 u_spec_IsSyntacticName_g rfl ?_; simp only [u_spec_IsSyntacticName_u]
  simp (disch := first | omega | (simp only [List.length_take, List.length_drop, List.length_append, List.map_cons, List.map_nil, List.length_map, List.length_cons, List.length_nil, List.length_set, List.length_replicate]; omega) | (simp only [List.length_cons, List.length_nil, Nat.zero_add, Nat.reduceAdd])) only [go_sem, ↓reduceIte, Nat.reduceAdd, Int.reduceNeg, Int.reduceAdd, Int.reduceSub, Int.reduceMul, Int.reduceLT, Int.reduceLE, Int.reduceEq, Int.reduceToNat, Nat.reduceBEq, e_sle, e_sge, e_shl1, e_orI, e_andI, e_shr, wrapu, wrap8, tn1, nat1, ix_s, ix_z, st_s, st_z, fl_s, fl_z, fl1_s, fl1_z, map_s, map_z, true_and]
  refine lp (fun i : Nat => [.sc (.int .i64 i)]) (fun i => i ≤ s.size ∧ allB (synC s) i = true) (fun i => s.size - i) 0 rfl ⟨by omega, rfl⟩ ?_
  rintro i ⟨hi, hb⟩
  have h1i := h1 i
  have h2i := h2 i
  have h20 := h2 1
  simp only [u_spec_IsSyntacticName_l1]
  by_cases hlt : i < s.size
  · repeat' (first | (with_reducible refine jn_in ?_) | (with_reducible refine cl_ok (by assumption) rfl ?_) | (with_reducible refine br_if (fun hbr => ?_) (fun hbr => ?_)) | (with_reducible refine br_ifn (fun hbr => ?_) (fun hbr => ?_)) | (with_reducible refine br_nb (fun hbr => ?_) (fun hbr => ?_)) | (with_reducible refine br_b (fun hbr => ?_) (fun hbr => ?_)) | simp (disch := first | omega | (simp only [List.length_take, List.length_drop, List.length_append, List.map_cons, List.map_nil, List.length_map, List.length_cons, List.length_nil, List.length_set, List.length_replicate]; omega) | (simp only [List.length_cons, List.length_nil, Nat.zero_add, Nat.reduceAdd])) only [go_sem, ↓reduceIte, Nat.reduceAdd, Int.reduceNeg, Int.reduceAdd, Int.reduceSub, Int.reduceMul, Int.reduceLT, Int.reduceLE, Int.reduceEq, Int.reduceToNat, Nat.reduceBEq, e_sle, e_sge, e_shl1, e_orI, e_andI, e_shr, wrapu, wrap8, tn1, nat1, ix_s, ix_z, st_s, st_z, fl_s, fl_z, fl1_s, fl1_z, map_s, map_z, u_spec_IsSyntacticName_j0])
    all_goals first | omega | exact ret_b (synB_no (i := i) hlt (by (first | (simp [-List.getD_eq_getElem?_getD, synC, *]; done) | (simp_all [-List.getD_eq_getElem?_getD, synC]; done) | (simp [-List.getD_eq_getElem?_getD, synC, *]; omega) | (simp_all [-List.getD_eq_getElem?_getD, synC]; omega) | omega))) | exact ⟨i + 1, rfl, ⟨by omega, allB_step hb (by (first | (simp [-List.getD_eq_getElem?_getD, synC, *]; done) | (simp_all [-List.getD_eq_getElem?_getD, synC]; done) | (simp [-List.getD_eq_getElem?_getD, synC, *]; omega) | (simp_all [-List.getD_eq_getElem?_getD, synC]; omega) | omega))⟩, by omega⟩ | skip
  · obtain rfl : i = s.size := by omega
    simp (disch := first | omega | (simp only [List.length_take, List.length_drop, List.length_append, List.map_cons, List.map_nil, List.length_map, List.length_cons, List.length_nil, List.length_set, List.length_replicate]; omega) | (simp only [List.length_cons, List.length_nil, Nat.zero_add, Nat.reduceAdd])) only [go_sem, ↓reduceIte, Nat.reduceAdd, Int.reduceNeg, Int.reduceAdd, Int.reduceSub, Int.reduceMul, Int.reduceLT, Int.reduceLE, Int.reduceEq, Int.reduceToNat, Nat.reduceBEq, e_sle, e_sge, e_shl1, e_orI, e_andI, e_shr, wrapu, wrap8, tn1, nat1, ix_s, ix_z, st_s, st_z, fl_s, fl_z, fl1_s, fl1_z, map_s, map_z, true_and]
    refine br_if (fun hbr => ?_) (fun hbr => ?_)
    · omega
    simp (disch := first | omega | (simp only [List.length_take, List.length_drop, List.length_append, List.map_cons, List.map_nil, List.length_map, List.length_cons, List.length_nil, List.length_set, List.length_replicate]; omega) | (simp only [List.length_cons, List.length_nil, Nat.zero_add, Nat.reduceAdd])) only [go_sem, ↓reduceIte, Nat.reduceAdd, Int.reduceNeg, Int.reduceAdd, Int.reduceSub, Int.reduceMul, Int.reduceLT, Int.reduceLE, Int.reduceEq, Int.reduceToNat, Nat.reduceBEq, e_sle, e_sge, e_shl1, e_orI, e_andI, e_shr, wrapu, wrap8, tn1, nat1, ix_s, ix_z, st_s, st_z, fl_s, fl_z, fl1_s, fl1_z, map_s, map_z, true_and]
    refine cl_ok h3 rfl ?_
    cases hn : nameB s
    · simp (disch := first | omega | (simp only [List.length_take, List.length_drop, List.length_append, List.map_cons, List.map_nil, List.length_map, List.length_cons, List.length_nil, List.length_set, List.length_replicate]; omega) | (simp only [List.length_cons, List.length_nil, Nat.zero_add, Nat.reduceAdd])) only [go_sem, ↓reduceIte, Nat.reduceAdd, Int.reduceNeg, Int.reduceAdd, Int.reduceSub, Int.reduceMul, Int.reduceLT, Int.reduceLE, Int.reduceEq, Int.reduceToNat, Nat.reduceBEq, e_sle, e_sge, e_shl1, e_orI, e_andI, e_shr, wrapu, wrap8, tn1, nat1, ix_s, ix_z, st_s, st_z, fl_s, fl_z, fl1_s, fl1_z, map_s, map_z, true_and]
      exact ret_b (by unfold synB; rw [hn]; rfl)
    have hsz := nameB_size hn
    rcases Nat.lt_or_ge 1 s.size with h1s | h1s
    · repeat' (first | (with_reducible refine jn_in ?_) | (with_reducible refine cl_ok (by assumption) rfl ?_) | (with_reducible refine br_if (fun hbr => ?_) (fun hbr => ?_)) | (with_reducible refine br_ifn (fun hbr => ?_) (fun hbr => ?_)) | (with_reducible refine br_nb (fun hbr => ?_) (fun hbr => ?_)) | (with_reducible refine br_b (fun hbr => ?_) (fun hbr => ?_)) | simp (disch := first | omega | (simp only [List.length_take, List.length_drop, List.length_append, List.map_cons, List.map_nil, List.length_map, List.length_cons, List.length_nil, List.length_set, List.length_replicate]; omega) | (simp only [List.length_cons, List.length_nil, Nat.zero_add, Nat.reduceAdd])) only [go_sem, ↓reduceIte, Nat.reduceAdd, Int.reduceNeg, Int.reduceAdd, Int.reduceSub, Int.reduceMul, Int.reduceLT, Int.reduceLE, Int.reduceEq, Int.reduceToNat, Nat.reduceBEq, e_sle, e_sge, e_shl1, e_orI, e_andI, e_shr, wrapu, wrap8, tn1, nat1, ix_s, ix_z, st_s, st_z, fl_s, fl_z, fl1_s, fl1_z, map_s, map_z, true_and])
      all_goals first | omega | (refine ret_b ?_; unfold synB; rw [hn, hb]; simp_all)
      all_goals (first | omega | assumption | contradiction | (intro hh; omega) | (left; omega) | (right; omega) | (right; assumption) | (left; assumption))
    · repeat' (first | (with_reducible refine jn_in ?_) | (with_reducible refine cl_ok (by assumption) rfl ?_) | (with_reducible refine br_if (fun hbr => ?_) (fun hbr => ?_)) | (with_reducible refine br_ifn (fun hbr => ?_) (fun hbr => ?_)) | (with_reducible refine br_nb (fun hbr => ?_) (fun hbr => ?_)) | (with_reducible refine br_b (fun hbr => ?_) (fun hbr => ?_)) | simp (disch := first | omega | (simp only [List.length_take, List.length_drop, List.length_append, List.map_cons, List.map_nil, List.length_map, List.length_cons, List.length_nil, List.length_set, List.length_replicate]; omega) | (simp only [List.length_cons, List.length_nil, Nat.zero_add, Nat.reduceAdd])) only [go_sem, ↓reduceIte, Nat.reduceAdd, Int.reduceNeg, Int.reduceAdd, Int.reduceSub, Int.reduceMul, Int.reduceLT, Int.reduceLE, Int.reduceEq, Int.reduceToNat, Nat.reduceBEq, e_sle, e_sge, e_shl1, e_orI, e_andI, e_shr, wrapu, wrap8, tn1, nat1, ix_s, ix_z, st_s, st_z, fl_s, fl_z, fl1_s, fl1_z, map_s, map_z, true_and])
      all_goals first | omega | (refine ret_b ?_; unfold synB; rw [hn, hb]; simp_all)
      all_goals (first | omega | assumption | contradiction | (intro hh; omega) | (left; omega) | (right; omega) | (right; assumption) | (left; assumption))
theorem synI_C {s : ByteArray} (h0 : 0 < s.size) (h : letB (byteAt s 0) = true ∨ byteAt s 0 = 46) {n : Nat} : allB (synI s) n = allB (synC s) n := by
  refine allB_congr fun i hi => ?_
  unfold synI synC
  by_cases hz : i = 0
  · subst hz
    rcases h with h | h
    · rw [h]; rfl
    · simp [h]
  · simp only [hz, decide_false, Bool.not_false, Bool.true_and]
    cases letB (byteAt s i) <;> cases digB (byteAt s i) <;> cases decide (byteAt s i = 46) <;> simp
set_option maxHeartbeats 2000000 in
theorem implSyn_m (s : ByteArray) (hs : s.size ≤ 100000000000) : Meets Try.prog 77 [(false, [.sc (.string s)])] [(false, [.sc (.bool (synB s))], true)] := by
  have h1 := fun i => isLetter_m (byteAt s i)
  have h2 := fun i => isDigit_m (byteAt s i)
  have h3 := implName_m s (by omega)
  have h4 := isReserved_m s
  cases hn : nameB s
  · rw [hn] at h3
    refine meets_upf Try.func77 u_impl_IsSyntacticName_g rfl ?_; simp only [u_impl_IsSyntacticName_u]
    repeat' (first | (with_reducible refine jn_in ?_) | (with_reducible refine cl_ok (by assumption) rfl ?_) | (with_reducible refine br_if (fun hbr => ?_) (fun hbr => ?_)) | (with_reducible refine br_ifn (fun hbr => ?_) (fun hbr => ?_)) | (with_reducible refine br_nb (fun hbr => ?_) (fun hbr => ?_)) | (with_reducible refine br_b (fun hbr => ?_) (fun hbr => ?_)) | simp (disch := first | omega | (simp only [List.length_take, List.length_drop, List.length_append, List.map_cons, List.map_nil, List.length_map, List.length_cons, List.length_nil, List.length_set, List.length_replicate]; omega) | (simp only [List.length_cons, List.length_nil, Nat.zero_add, Nat.reduceAdd])) only [go_sem, ↓reduceIte, Nat.reduceAdd, Int.reduceNeg, Int.reduceAdd, Int.reduceSub, Int.reduceMul, Int.reduceLT, Int.reduceLE, Int.reduceEq, Int.reduceToNat, Nat.reduceBEq, u_impl_IsSyntacticName_j3])
    exact ret_b (by unfold synB; rw [hn]; rfl)
  rw [hn] at h3
  have hsz := nameB_size hn
  have h10 := h1 0
  have h21 := h2 1
  have hcg := @synI_C s (by omega)
  have key : ∀ c0 c1 c2, (letB (byteAt s 0) = true ∨ byteAt s 0 = 46) → resB s = false → (byteAt s 0 = 46 → 1 < s.size → digB (byteAt s 1) = false) → V Try.prog (isRes [(false, [.sc (.bool (synB s))], true)]) (.loop [0] u_impl_IsSyntacticName_l1) [] [.sc (.int .i64 0), c0, c1, c2, .sc (.string s)] := by
    intro c0 c1 c2 k1 k2 k3
    have hcg := @synI_C s (by omega) k1
    refine lp (fun i : Nat => [.sc (.int .i64 i)]) (fun i => i ≤ s.size ∧ allB (synI s) i = true) (fun i => s.size - i) 0 rfl ⟨by omega, rfl⟩ ?_
    rintro i ⟨hi, hb⟩
    have h1i := h1 i
    have h2i := h2 i
    simp only [u_impl_IsSyntacticName_l1]
    by_cases hlt : i < s.size
    · repeat' (first | (with_reducible refine jn_in ?_) | (with_reducible refine cl_ok (by assumption) rfl ?_) | (with_reducible refine br_if (fun hbr => ?_) (fun hbr => ?_)) | (with_reducible refine br_ifn (fun hbr => ?_) (fun hbr => ?_)) | (with_reducible refine br_nb (fun hbr => ?_) (fun hbr => ?_)) | (with_reducible refine br_b (fun hbr => ?_) (fun hbr => ?_)) | simp (disch := first | omega | (simp only [List.length_take, List.length_drop, List.length_append, List.map_cons, List.map_nil, List.length_map, List.length_cons, List.length_nil, List.length_set, List.length_replicate]; omega) | (simp only [List.length_cons, List.length_nil, Nat.zero_add, Nat.reduceAdd])) only [go_sem, ↓reduceIte, Nat.reduceAdd, Int.reduceNeg, Int.reduceAdd, Int.reduceSub, Int.reduceMul, Int.reduceLT, Int.reduceLE, Int.reduceEq, Int.reduceToNat, Nat.reduceBEq, e_sle, e_sge, e_shl1, e_orI, e_andI, e_shr, wrapu, wrap8, tn1, nat1, ix_s, ix_z, st_s, st_z, fl_s, fl_z, fl1_s, fl1_z, map_s, map_z, u_impl_IsSyntacticName_j0])
      all_goals first | omega | exact ⟨i + 1, rfl, ⟨by omega, allB_step hb (by (first | (simp [-List.getD_eq_getElem?_getD, synI, *]; done) | (simp_all [-List.getD_eq_getElem?_getD, synI]; done) | (simp [-List.getD_eq_getElem?_getD, synI, *]; omega) | (simp_all [-List.getD_eq_getElem?_getD, synI]; omega) | omega))⟩, by omega⟩ | skip
      refine ret_b ?_
      unfold synB
      rw [← hcg (n := s.size), allB_no hlt (by (first | (simp [-List.getD_eq_getElem?_getD, synI, *]; done) | (simp_all [-List.getD_eq_getElem?_getD, synI]; done) | (simp [-List.getD_eq_getElem?_getD, synI, *]; omega) | (simp_all [-List.getD_eq_getElem?_getD, synI]; omega) | omega))]; simp
    · obtain rfl : i = s.size := by omega
      simp (disch := first | omega | (simp only [List.length_take, List.length_drop, List.length_append, List.map_cons, List.map_nil, List.length_map, List.length_cons, List.length_nil, List.length_set, List.length_replicate]; omega) | (simp only [List.length_cons, List.length_nil, Nat.zero_add, Nat.reduceAdd])) only [go_sem, ↓reduceIte, Nat.reduceAdd, Int.reduceNeg, Int.reduceAdd, Int.reduceSub, Int.reduceMul, Int.reduceLT, Int.reduceLE, Int.reduceEq, Int.reduceToNat, Nat.reduceBEq, e_sle, e_sge, e_shl1, e_orI, e_andI, e_shr, wrapu, wrap8, tn1, nat1, ix_s, ix_z, st_s, st_z, fl_s, fl_z, fl1_s, fl1_z, map_s, map_z, true_and]
      refine br_if (fun hbr => absurd hbr (by omega)) (fun hbr => ?_)
      repeat' (first | (with_reducible refine jn_in ?_) | (with_reducible refine cl_ok (by assumption) rfl ?_) | (with_reducible refine br_if (fun hbr => ?_) (fun hbr => ?_)) | (with_reducible refine br_ifn (fun hbr => ?_) (fun hbr => ?_)) | (with_reducible refine br_nb (fun hbr => ?_) (fun hbr => ?_)) | (with_reducible refine br_b (fun hbr => ?_) (fun hbr => ?_)) | simp (disch := first | omega | (simp only [List.length_take, List.length_drop, List.length_append, List.map_cons, List.map_nil, List.length_map, List.length_cons, List.length_nil, List.length_set, List.length_replicate]; omega) | (simp only [List.length_cons, List.length_nil, Nat.zero_add, Nat.reduceAdd])) only [go_sem, ↓reduceIte, Nat.reduceAdd, Int.reduceNeg, Int.reduceAdd, Int.reduceSub, Int.reduceMul, Int.reduceLT, Int.reduceLE, Int.reduceEq, Int.reduceToNat, Nat.reduceBEq, e_sle, e_sge, e_shl1, e_orI, e_andI, e_shr, wrapu, wrap8, tn1, nat1, ix_s, ix_z, st_s, st_z, fl_s, fl_z, fl1_s, fl1_z, map_s, map_z, true_and])
      · refine ret_b ?_
        rw [hcg] at hb
        unfold synB; rw [hn, hb, k2]
        by_cases e1 : byteAt s 0 = 46
        · by_cases e2 : 1 < s.size
          · simp [e1, e2, k3 e1 e2]
          · simp [e2]
        · simp [e1]
  refine meets_upf Try.func77 u_impl_IsSyntacticName_g rfl ?_; simp only [u_impl_IsSyntacticName_u]
  repeat' (first | (with_reducible refine jn_in ?_) | (with_reducible refine cl_ok (by assumption) rfl ?_) | (with_reducible refine br_if (fun hbr => ?_) (fun hbr => ?_)) | (with_reducible refine br_ifn (fun hbr => ?_) (fun hbr => ?_)) | (with_reducible refine br_nb (fun hbr => ?_) (fun hbr => ?_)) | (with_reducible refine br_b (fun hbr => ?_) (fun hbr => ?_)) | simp (disch := first | omega | (simp only [List.length_take, List.length_drop, List.length_append, List.map_cons, List.map_nil, List.length_map, List.length_cons, List.length_nil, List.length_set, List.length_replicate]; omega) | (simp only [List.length_cons, List.length_nil, Nat.zero_add, Nat.reduceAdd])) only [go_sem, ↓reduceIte, Nat.reduceAdd, Int.reduceNeg, Int.reduceAdd, Int.reduceSub, Int.reduceMul, Int.reduceLT, Int.reduceLE, Int.reduceEq, Int.reduceToNat, Nat.reduceBEq, e_sle, e_sge, e_shl1, e_orI, e_andI, e_shr, wrapu, wrap8, tn1, nat1, ix_s, ix_z, st_s, st_z, fl_s, fl_z, fl1_s, fl1_z, map_s, map_z, u_impl_IsSyntacticName_j3, u_impl_IsSyntacticName_j2])
  all_goals first
    | omega
    | (refine key _ _ _ ?_ ‹resB s = false› ?_
       · first | exact .inl ‹letB _ = true› | (right; omega)
       · intro e1 e2; first | omega | exact ‹digB _ = false›)
    | skip
  all_goals first
    | exact ret_b (synB_no (i := 0) (by omega) (by (first | (simp [-List.getD_eq_getElem?_getD, synC, *]; done) | (simp_all [-List.getD_eq_getElem?_getD, synC]; done) | (simp [-List.getD_eq_getElem?_getD, synC, *]; omega) | (simp_all [-List.getD_eq_getElem?_getD, synC]; omega) | omega)))
    | (refine ret_b ?_; unfold synB; rw [hn]; simp_all)
  all_goals (intro _; exact ⟨by omega, by omega⟩)

def fmtName (s : ByteArray) : ByteArray := if nameB s = true then (if synB s = true then s else ⟨#[96]⟩ ++ s ++ ⟨#[96]⟩) else ⟨#[]⟩
theorem fmtName_size (s : ByteArray) : (fmtName s).size ≤ 22 := by
  unfold fmtName
  split
  · rename_i h
    have := nameB_size h
    split
    · omega
    · simp only [ByteArray.size_append]
      have e : (⟨#[96]⟩ : ByteArray).size = 1 := rfl
      omega
  · exact Nat.zero_le _
theorem fmtName_pos {s : ByteArray} (h : nameB s = true) : 1 ≤ (fmtName s).size := by
  unfold fmtName
  rw [if_pos h]
  have := nameB_size h
  split
  · omega
  · simp only [ByteArray.size_append]
    have e : (⟨#[96]⟩ : ByteArray).size = 1 := rfl
    omega
theorem implFmtName_m (s : ByteArray) (hs : s.size ≤ 100000000000) : Meets Try.prog 50 [(false, [.sc (.string s)])] [(false, [.sc (.string (fmtName s))], true)] := by
  have h1 := implSyn_m s hs
  have h2 := implName_m s (by omega)
  have h3 := @synB_name s
  have hsz := @nameB_size s
  have e : (⟨#[96]⟩ : ByteArray).size = 1 := rfl
  unfold fmtName
  cases hn : nameB s
  · rw [hn] at h2 h3
    have hy : synB s = false := by cases h : synB s <;> simp_all
    rw [hy] at h1
    refine meets_upf Try.func50 u_impl_FormatName_g rfl ?_; simp only [u_impl_FormatName_u]
    repeat' (first | (with_reducible refine jn_in ?_) | (with_reducible refine cl_ok (by assumption) rfl ?_) | (with_reducible refine br_if (fun hbr => ?_) (fun hbr => ?_)) | (with_reducible refine br_ifn (fun hbr => ?_) (fun hbr => ?_)) | (with_reducible refine br_nb (fun hbr => ?_) (fun hbr => ?_)) | (with_reducible refine br_b (fun hbr => ?_) (fun hbr => ?_)) | simp (disch := first | omega | (simp only [List.length_take, List.length_drop, List.length_append, List.map_cons, List.map_nil, List.length_map, List.length_cons, List.length_nil, List.length_set, List.length_replicate]; omega) | (simp only [List.length_cons, List.length_nil, Nat.zero_add, Nat.reduceAdd])) only [go_sem, ↓reduceIte, Nat.reduceAdd, Int.reduceNeg, Int.reduceAdd, Int.reduceSub, Int.reduceMul, Int.reduceLT, Int.reduceLE, Int.reduceEq, Int.reduceToNat, Nat.reduceBEq, true_and])
    rfl
  · rw [hn] at h2
    have hsz := hsz hn
    cases hy : synB s
    · rw [hy] at h1
      refine meets_upf Try.func50 u_impl_FormatName_g rfl ?_; simp only [u_impl_FormatName_u]
      repeat' (first | (with_reducible refine jn_in ?_) | (with_reducible refine cl_ok (by assumption) rfl ?_) | (with_reducible refine br_if (fun hbr => ?_) (fun hbr => ?_)) | (with_reducible refine br_ifn (fun hbr => ?_) (fun hbr => ?_)) | (with_reducible refine br_nb (fun hbr => ?_) (fun hbr => ?_)) | (with_reducible refine br_b (fun hbr => ?_) (fun hbr => ?_)) | simp (disch := first | omega | (simp only [List.length_take, List.length_drop, List.length_append, List.map_cons, List.map_nil, List.length_map, List.length_cons, List.length_nil, List.length_set, List.length_replicate]; omega) | (simp only [List.length_cons, List.length_nil, Nat.zero_add, Nat.reduceAdd])) only [go_sem, ↓reduceIte, Nat.reduceAdd, Int.reduceNeg, Int.reduceAdd, Int.reduceSub, Int.reduceMul, Int.reduceLT, Int.reduceLE, Int.reduceEq, Int.reduceToNat, Nat.reduceBEq, e_cat (show (⟨#[96]⟩ : ByteArray).size + s.size ≤ maxLen by unfold maxLen; omega), e_cat (show ((⟨#[96]⟩ : ByteArray) ++ s).size + (⟨#[96]⟩ : ByteArray).size ≤ maxLen by rw [ByteArray.size_append]; unfold maxLen; omega)])
      rfl
    · rw [hy] at h1
      refine meets_upf Try.func50 u_impl_FormatName_g rfl ?_; simp only [u_impl_FormatName_u]
      repeat' (first | (with_reducible refine jn_in ?_) | (with_reducible refine cl_ok (by assumption) rfl ?_) | (with_reducible refine br_if (fun hbr => ?_) (fun hbr => ?_)) | (with_reducible refine br_ifn (fun hbr => ?_) (fun hbr => ?_)) | (with_reducible refine br_nb (fun hbr => ?_) (fun hbr => ?_)) | (with_reducible refine br_b (fun hbr => ?_) (fun hbr => ?_)) | simp (disch := first | omega | (simp only [List.length_take, List.length_drop, List.length_append, List.map_cons, List.map_nil, List.length_map, List.length_cons, List.length_nil, List.length_set, List.length_replicate]; omega) | (simp only [List.length_cons, List.length_nil, Nat.zero_add, Nat.reduceAdd])) only [go_sem, ↓reduceIte, Nat.reduceAdd, Int.reduceNeg, Int.reduceAdd, Int.reduceSub, Int.reduceMul, Int.reduceLT, Int.reduceLE, Int.reduceEq, Int.reduceToNat, Nat.reduceBEq, true_and])
      rfl
theorem specFmtName_m (s : ByteArray) (hs : s.size ≤ 100000000000) : Meets Try.prog 67 [(false, [.sc (.string s)])] [(false, [.sc (.string (fmtName s))], true)] := by
  have h1 := specSyn_m s hs
  have h2 := specName_m s (by omega)
  have hsz := @nameB_size s
  have e : (⟨#[96]⟩ : ByteArray).size = 1 := rfl
  unfold fmtName
  cases hn : nameB s
  · rw [hn] at h2
    refine meets_upf Try.func67 u_spec_FormatName_g rfl ?_; simp only [u_spec_FormatName_u]
    repeat' (first | (with_reducible refine jn_in ?_) | (with_reducible refine cl_ok (by assumption) rfl ?_) | (with_reducible refine br_if (fun hbr => ?_) (fun hbr => ?_)) | (with_reducible refine br_ifn (fun hbr => ?_) (fun hbr => ?_)) | (with_reducible refine br_nb (fun hbr => ?_) (fun hbr => ?_)) | (with_reducible refine br_b (fun hbr => ?_) (fun hbr => ?_)) | simp (disch := first | omega | (simp only [List.length_take, List.length_drop, List.length_append, List.map_cons, List.map_nil, List.length_map, List.length_cons, List.length_nil, List.length_set, List.length_replicate]; omega) | (simp only [List.length_cons, List.length_nil, Nat.zero_add, Nat.reduceAdd])) only [go_sem, ↓reduceIte, Nat.reduceAdd, Int.reduceNeg, Int.reduceAdd, Int.reduceSub, Int.reduceMul, Int.reduceLT, Int.reduceLE, Int.reduceEq, Int.reduceToNat, Nat.reduceBEq, true_and])
    rfl
  · rw [hn] at h2
    have hsz := hsz hn
    cases hy : synB s
    · rw [hy] at h1
      refine meets_upf Try.func67 u_spec_FormatName_g rfl ?_; simp only [u_spec_FormatName_u]
      repeat' (first | (with_reducible refine jn_in ?_) | (with_reducible refine cl_ok (by assumption) rfl ?_) | (with_reducible refine br_if (fun hbr => ?_) (fun hbr => ?_)) | (with_reducible refine br_ifn (fun hbr => ?_) (fun hbr => ?_)) | (with_reducible refine br_nb (fun hbr => ?_) (fun hbr => ?_)) | (with_reducible refine br_b (fun hbr => ?_) (fun hbr => ?_)) | simp (disch := first | omega | (simp only [List.length_take, List.length_drop, List.length_append, List.map_cons, List.map_nil, List.length_map, List.length_cons, List.length_nil, List.length_set, List.length_replicate]; omega) | (simp only [List.length_cons, List.length_nil, Nat.zero_add, Nat.reduceAdd])) only [go_sem, ↓reduceIte, Nat.reduceAdd, Int.reduceNeg, Int.reduceAdd, Int.reduceSub, Int.reduceMul, Int.reduceLT, Int.reduceLE, Int.reduceEq, Int.reduceToNat, Nat.reduceBEq, e_cat (show (⟨#[96]⟩ : ByteArray).size + s.size ≤ maxLen by unfold maxLen; omega), e_cat (show ((⟨#[96]⟩ : ByteArray) ++ s).size + (⟨#[96]⟩ : ByteArray).size ≤ maxLen by rw [ByteArray.size_append]; unfold maxLen; omega)])
      rfl
    · rw [hy] at h1
      refine meets_upf Try.func67 u_spec_FormatName_g rfl ?_; simp only [u_spec_FormatName_u]
      repeat' (first | (with_reducible refine jn_in ?_) | (with_reducible refine cl_ok (by assumption) rfl ?_) | (with_reducible refine br_if (fun hbr => ?_) (fun hbr => ?_)) | (with_reducible refine br_ifn (fun hbr => ?_) (fun hbr => ?_)) | (with_reducible refine br_nb (fun hbr => ?_) (fun hbr => ?_)) | (with_reducible refine br_b (fun hbr => ?_) (fun hbr => ?_)) | simp (disch := first | omega | (simp only [List.length_take, List.length_drop, List.length_append, List.map_cons, List.map_nil, List.length_map, List.length_cons, List.length_nil, List.length_set, List.length_replicate]; omega) | (simp only [List.length_cons, List.length_nil, Nat.zero_add, Nat.reduceAdd])) only [go_sem, ↓reduceIte, Nat.reduceAdd, Int.reduceNeg, Int.reduceAdd, Int.reduceSub, Int.reduceMul, Int.reduceLT, Int.reduceLE, Int.reduceEq, Int.reduceToNat, Nat.reduceBEq, true_and])
      rfl
end Go.Proofs.Ytenopiadacpbiaa
