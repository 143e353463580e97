/- Formulas: bitCount, l21Size, termLess, l21Ahead, IsFormula (impl and spec). -/
import Derived.Test.YtgmpajfhjnojiaaUFml
import Derived.Test.YtgmpajfhjnojiaaTFml
namespace Go.Proofs.Ytgmpajfhjnojiaa
open Go.RowKit
set_option linter.unusedVariables false
set_option linter.unusedSimpArgs false
set_option maxRecDepth 100000


def bitC (n : Int) : Int := (bitN n.toNat : Nat)
theorem bitC_neg {n : Int} (h : n ≤ 0) : bitC n = 0 := by unfold bitC; rw [show n.toNat = 0 from by omega, bitN_zero]; rfl

theorem bitCount_m (n : Int) (hn : n ≤ 9223372036854775807) : Meets Try.prog 93 [(false, [.sc (.int .i64 n)])] [(false, [.sc (.int .i64 (bitC n))], true)] := by
  refine meets_upf Try.func93 u_impl_bitCount_g rfl ?_; simp only [u_impl_bitCount_u]
  simp (disch := first | omega | (simp only [List.length_take, List.length_drop, List.length_append, List.map_cons, List.map_nil, List.length_map, List.length_cons, List.length_nil, List.length_set, List.length_replicate]; omega) | (simp only [List.length_cons, List.length_nil, Nat.zero_add, Nat.reduceAdd])) only [go_sem, ↓reduceIte, Nat.reduceAdd, Int.reduceNeg, Int.reduceAdd, Int.reduceSub, Int.reduceMul, Int.reduceLT, Int.reduceLE, Int.reduceEq, Int.reduceToNat, Nat.reduceBEq, true_and]
  refine lp (fun s : Int × Nat => [.sc (.int .i64 (s.2 : Nat)), .sc (.int .i64 s.1)]) (fun s => s.1 ≤ 9223372036854775807 ∧ (s.1 ≤ 0 ∨ s.2 + s.1 ≤ n) ∧ s.2 + bitN s.1.toNat = bitN n.toNat) (fun s => s.1.toNat) (n, 0) rfl ⟨hn, by simp, by simp⟩ ?_
  rintro ⟨x, c⟩ ⟨h1, h2, h3⟩
  simp only at h1 h2 h3 ⊢
  simp only [u_impl_bitCount_l0]
  repeat' (first | (with_reducible refine jn_in ?_) | (with_reducible refine cl_ok (by assumption) rfl ?_) | (with_reducible refine cl_okP (by assumption) rfl ?_) | (with_reducible refine br_if (fun hbr => ?_) (fun hbr => ?_)) | (with_reducible refine br_ifn (fun hbr => ?_) (fun hbr => ?_)) | (with_reducible refine br_nb (fun hbr => ?_) (fun hbr => ?_)) | (with_reducible refine br_b (fun hbr => ?_) (fun hbr => ?_)) | simp (disch := first | omega | (simp only [List.length_take, List.length_drop, List.length_append, List.map_cons, List.map_nil, List.length_map, List.length_cons, List.length_nil, List.length_set, List.length_replicate]; omega) | (simp only [List.length_cons, List.length_nil, Nat.zero_add, Nat.reduceAdd])) only [go_sem, ↓reduceIte, Nat.reduceAdd, Int.reduceNeg, Int.reduceAdd, Int.reduceSub, Int.reduceMul, Int.reduceLT, Int.reduceLE, Int.reduceEq, Int.reduceToNat, Nat.reduceBEq, true_and])
  · obtain ⟨m, rfl⟩ := Int.eq_ofNat_of_zero_le (show 0 ≤ x from by omega)
    have e1 : (m : Int).tmod 2 = ((m % 2 : Nat) : Int) := rfl
    have e2 : (m : Int).tdiv 2 = ((m / 2 : Nat) : Int) := rfl
    have hm : m ≠ 0 := by omega
    have hb := bitN_pos hm
    have hb2 := bitN_le m
    simp only [Int.toNat_natCast] at h3
    have hb3 := bitN_le n.toNat
    simp (disch := first | omega | (simp only [List.length_take, List.length_drop, List.length_append, List.map_cons, List.map_nil, List.length_map, List.length_cons, List.length_nil, List.length_set, List.length_replicate]; omega) | (simp only [List.length_cons, List.length_nil, Nat.zero_add, Nat.reduceAdd])) only [go_sem, ↓reduceIte, Nat.reduceAdd, Int.reduceNeg, Int.reduceAdd, Int.reduceSub, Int.reduceMul, Int.reduceLT, Int.reduceLE, Int.reduceEq, Int.reduceToNat, Nat.reduceBEq, e1, e2]
    refine ⟨(((m / 2 : Nat) : Int), c + m % 2), rfl, ⟨?_, ?_, ?_⟩, ?_⟩
    all_goals (simp only [Int.toNat_natCast]; omega)
  · refine ret_z ?_
    have : bitN x.toNat = 0 := by rw [show x.toNat = 0 from by omega, bitN_zero]
    unfold bitC; omega
theorem l21Size_m (n : Int) (hn : n ≤ 9223372036854775807) : Meets Try.prog 92 [(false, [.sc (.int .i64 n)])] [(false, [.sc (.int .i64 (bitC n))], true)] := by
  refine meets_upf Try.func92 u_spec_l21Size_g rfl ?_; simp only [u_spec_l21Size_u]
  simp (disch := first | omega | (simp only [List.length_take, List.length_drop, List.length_append, List.map_cons, List.map_nil, List.length_map, List.length_cons, List.length_nil, List.length_set, List.length_replicate]; omega) | (simp only [List.length_cons, List.length_nil, Nat.zero_add, Nat.reduceAdd])) only [go_sem, ↓reduceIte, Nat.reduceAdd, Int.reduceNeg, Int.reduceAdd, Int.reduceSub, Int.reduceMul, Int.reduceLT, Int.reduceLE, Int.reduceEq, Int.reduceToNat, Nat.reduceBEq, true_and]
  refine lp (fun s : Int × Nat => [.sc (.int .i64 s.1), .sc (.int .i64 (s.2 : Nat))]) (fun s => s.1 ≤ 9223372036854775807 ∧ (s.1 ≤ 0 ∨ s.2 + s.1 ≤ n) ∧ s.2 + bitN s.1.toNat = bitN n.toNat) (fun s => s.1.toNat) (n, 0) rfl ⟨hn, by simp, by simp⟩ ?_
  rintro ⟨x, c⟩ ⟨h1, h2, h3⟩
  simp only at h1 h2 h3 ⊢
  simp only [u_spec_l21Size_l0]
  repeat' (first | (with_reducible refine jn_in ?_) | (with_reducible refine cl_ok (by assumption) rfl ?_) | (with_reducible refine cl_okP (by assumption) rfl ?_) | (with_reducible refine br_if (fun hbr => ?_) (fun hbr => ?_)) | (with_reducible refine br_ifn (fun hbr => ?_) (fun hbr => ?_)) | (with_reducible refine br_nb (fun hbr => ?_) (fun hbr => ?_)) | (with_reducible refine br_b (fun hbr => ?_) (fun hbr => ?_)) | simp (disch := first | omega | (simp only [List.length_take, List.length_drop, List.length_append, List.map_cons, List.map_nil, List.length_map, List.length_cons, List.length_nil, List.length_set, List.length_replicate]; omega) | (simp only [List.length_cons, List.length_nil, Nat.zero_add, Nat.reduceAdd])) only [go_sem, ↓reduceIte, Nat.reduceAdd, Int.reduceNeg, Int.reduceAdd, Int.reduceSub, Int.reduceMul, Int.reduceLT, Int.reduceLE, Int.reduceEq, Int.reduceToNat, Nat.reduceBEq, true_and])
  · obtain ⟨m, rfl⟩ := Int.eq_ofNat_of_zero_le (show 0 ≤ x from by omega)
    have e1 := @e_and false m 1 (by omega)
    have e2 := @e_shr false .u64 m 1 (by omega)
    have e3 : m &&& 1 = m % 2 := Nat.and_one_is_mod m
    have hm : m ≠ 0 := by omega
    have hb := bitN_pos hm
    have hb2 := bitN_le m
    simp only [Int.toNat_natCast] at h3
    have hb3 := bitN_le n.toNat
    simp only [Int.natCast_one, Nat.pow_one, e3] at e1 e2
    simp (disch := first | omega | (simp only [List.length_take, List.length_drop, List.length_append, List.map_cons, List.map_nil, List.length_map, List.length_cons, List.length_nil, List.length_set, List.length_replicate]; omega) | (simp only [List.length_cons, List.length_nil, Nat.zero_add, Nat.reduceAdd])) only [go_sem, ↓reduceIte, Nat.reduceAdd, Int.reduceNeg, Int.reduceAdd, Int.reduceSub, Int.reduceMul, Int.reduceLT, Int.reduceLE, Int.reduceEq, Int.reduceToNat, Nat.reduceBEq, e1, e2]
    refine ⟨(((m / 2 : Nat) : Int), c + m % 2), rfl, ⟨?_, ?_, ?_⟩, ?_⟩
    all_goals (simp only [Int.toNat_natCast]; omega)
  · refine ret_z ?_
    have : bitN x.toNat = 0 := by rw [show x.toNat = 0 from by omega, bitN_zero]
    unfold bitC; omega

def tLess (a b : Int) : Bool := decide (bitC a < bitC b) || (decide (bitC a = bitC b) && decide (a < b))
theorem termLess_m (a b : Int) (ha : a ≤ 9223372036854775807) (hb : b ≤ 9223372036854775807) : Meets Try.prog 64 [(false, [.sc (.int .i64 a)]), (false, [.sc (.int .i64 b)])] [(false, [.sc (.bool (tLess a b))], true)] := by
  have h1 := bitCount_m a ha
  have h2 := bitCount_m b hb
  refine meets_upf Try.func64 u_impl_termLess_g rfl ?_; simp only [u_impl_termLess_u]
  repeat' (first | (with_reducible refine jn_in ?_) | (with_reducible refine cl_ok (by assumption) rfl ?_) | (with_reducible refine cl_okP (by assumption) rfl ?_) | (with_reducible refine br_if (fun hbr => ?_) (fun hbr => ?_)) | (with_reducible refine br_ifn (fun hbr => ?_) (fun hbr => ?_)) | (with_reducible refine br_nb (fun hbr => ?_) (fun hbr => ?_)) | (with_reducible refine br_b (fun hbr => ?_) (fun hbr => ?_)) | simp (disch := first | omega | (simp only [List.length_take, List.length_drop, List.length_append, List.map_cons, List.map_nil, List.length_map, List.length_cons, List.length_nil, List.length_set, List.length_replicate]; omega) | (simp only [List.length_cons, List.length_nil, Nat.zero_add, Nat.reduceAdd])) only [go_sem, ↓reduceIte, Nat.reduceAdd, Int.reduceNeg, Int.reduceAdd, Int.reduceSub, Int.reduceMul, Int.reduceLT, Int.reduceLE, Int.reduceEq, Int.reduceToNat, Nat.reduceBEq, true_and])
  all_goals (refine ret_b ?_; unfold tLess; rw [Bool.eq_iff_iff]; simp; omega)
theorem l21Ahead_m (a b : Int) (ha : a ≤ 9223372036854775807) (hb : b ≤ 9223372036854775807) : Meets Try.prog 62 [(false, [.sc (.int .i64 a)]), (false, [.sc (.int .i64 b)])] [(false, [.sc (.bool (tLess a b))], true)] := by
  have h1 := l21Size_m a ha
  have h2 := l21Size_m b hb
  refine meets_upf Try.func62 u_spec_l21Ahead_g rfl ?_; simp only [u_spec_l21Ahead_u]
  repeat' (first | (with_reducible refine jn_in ?_) | (with_reducible refine cl_ok (by assumption) rfl ?_) | (with_reducible refine cl_okP (by assumption) rfl ?_) | (with_reducible refine br_if (fun hbr => ?_) (fun hbr => ?_)) | (with_reducible refine br_ifn (fun hbr => ?_) (fun hbr => ?_)) | (with_reducible refine br_nb (fun hbr => ?_) (fun hbr => ?_)) | (with_reducible refine br_b (fun hbr => ?_) (fun hbr => ?_)) | simp (disch := first | omega | (simp only [List.length_take, List.length_drop, List.length_append, List.map_cons, List.map_nil, List.length_map, List.length_cons, List.length_nil, List.length_set, List.length_replicate]; omega) | (simp only [List.length_cons, List.length_nil, Nat.zero_add, Nat.reduceAdd])) only [go_sem, ↓reduceIte, Nat.reduceAdd, Int.reduceNeg, Int.reduceAdd, Int.reduceSub, Int.reduceMul, Int.reduceLT, Int.reduceLE, Int.reduceEq, Int.reduceToNat, Nat.reduceBEq, true_and])
  all_goals (refine ret_b ?_; unfold tLess; rw [Bool.eq_iff_iff]; simp; omega)

/-! ### IsFormula -/
def fmlV (f : Fml) (i : Nat) : Bool := nameB (f.variables.getD i default) && (!decide (f.variables.getD i default = f.response) && (decide (i = 0) || Op.bytesLess (f.variables.getD (i - 1) default).toList (f.variables.getD i default).toList))
def fmlT (f : Fml) (i : Nat) : Bool := decide (1 ≤ f.terms.getD i default ∧ f.terms.getD i default < ((2 ^ f.variables.length : Nat) : Int)) && (decide (i = 0) || tLess (f.terms.getD (i - 1) default) (f.terms.getD i default))
def orL (l : List Int) : Nat → Nat
  | 0 => 0
  | i + 1 => orL l i ||| (l.getD i default).toNat
def fmlB (f : Fml) : Bool := nameB f.response && (decide (f.variables.length ≤ 5) && (decide (f.terms.length ≤ 10) && (allB (fmlV f) f.variables.length && (allB (fmlT f) f.terms.length && decide (orL f.terms f.terms.length = 2 ^ f.variables.length - 1)))))
theorem fmlB_V {f : Fml} {i : Nat} (h : i < f.variables.length) (hp : fmlV f i = false) : fmlB f = false := by unfold fmlB; rw [allB_no h hp]; simp
theorem fmlB_T {f : Fml} {i : Nat} (h : i < f.terms.length) (hp : fmlT f i = false) : fmlB f = false := by unfold fmlB; rw [allB_no h hp]; simp
theorem orL_lt {f : Fml} : ∀ i, allB (fmlT f) i = true → orL f.terms i < 2 ^ f.variables.length
  | 0, _ => Nat.pow_pos (by decide)
  | i + 1, h => by
    rw [allB_succ, Bool.and_eq_true] at h
    have h1 := orL_lt i h.1
    have h2 := h.2
    unfold fmlT at h2
    rw [Bool.and_eq_true, decide_eq_true_eq] at h2
    exact Nat.or_lt_two_pow h1 (by omega)
theorem pow_le5 {n : Nat} (h : n ≤ 5) : 2 ^ n ≤ 32 := Nat.pow_le_pow_right (n := 2) (by decide) h

def FmlOk (f : Fml) : Prop := f.response.size ≤ 100000000000 ∧ f.variables.length ≤ 100000000000 ∧ (∀ x ∈ f.variables, x.size ≤ 100000000000) ∧ f.terms.length ≤ 100000000000 ∧ ∀ x ∈ f.terms, x ≤ 9223372036854775807
theorem fmlB_no5 {f : Fml} (h : ¬ f.variables.length ≤ 5) : fmlB f = false := by unfold fmlB; simp [h]
theorem fmlB_no10 {f : Fml} (h : ¬ f.terms.length ≤ 10) : fmlB f = false := by unfold fmlB; simp [h]
theorem fmlB_noN {f : Fml} (h : nameB f.response = false) : fmlB f = false := by unfold fmlB; simp [h]

set_option maxHeartbeats 2000000 in
theorem implFml_m (f : Fml) (ok : FmlOk f) : Meets Try.prog 32 [(true, encFml f)] [(false, [.sc (.bool (fmlB f))], true)] := by
  obtain ⟨hr, hv, hs, ht, hz⟩ := ok
  have h1 := implName_m f.response hr
  have h2 := fun i => implName_m (f.variables.getD i default) (getD_le hs i)
  have h3 := fun i => termLess_m (f.terms.getD (i - 1) default) (f.terms.getD i default) (getD_leZ (by decide) hz _) (getD_leZ (by decide) hz _)
  refine meets_upf Try.func32 u_impl_IsFormula_g rfl ?_; simp only [u_impl_IsFormula_u]
  simp only [encFml, encSs, encZs]
  by_cases h5 : f.variables.length ≤ 5
  rotate_left
  · repeat' (first | (with_reducible refine jn_in ?_) | (with_reducible refine cl_ok (by assumption) rfl ?_) | (with_reducible refine cl_okP (by assumption) rfl ?_) | (with_reducible refine br_if (fun hbr => ?_) (fun hbr => ?_)) | (with_reducible refine br_ifn (fun hbr => ?_) (fun hbr => ?_)) | (with_reducible refine br_nb (fun hbr => ?_) (fun hbr => ?_)) | (with_reducible refine br_b (fun hbr => ?_) (fun hbr => ?_)) | simp (disch := first | omega | (simp only [List.length_take, List.length_drop, List.length_append, List.map_cons, List.map_nil, List.length_map, List.length_cons, List.length_nil, List.length_set, List.length_replicate]; omega) | (simp only [List.length_cons, List.length_nil, Nat.zero_add, Nat.reduceAdd])) only [go_sem, ↓reduceIte, Nat.reduceAdd, Int.reduceNeg, Int.reduceAdd, Int.reduceSub, Int.reduceMul, Int.reduceLT, Int.reduceLE, Int.reduceEq, Int.reduceToNat, Nat.reduceBEq, true_and])
    all_goals first | omega | (refine ret_b ?_; first | exact fmlB_no5 h5 | exact fmlB_noN (by assumption))
  have hp := pow_le5 h5
  by_cases h10 : f.terms.length ≤ 10
  rotate_left
  · repeat' (first | (with_reducible refine jn_in ?_) | (with_reducible refine cl_ok (by assumption) rfl ?_) | (with_reducible refine cl_okP (by assumption) rfl ?_) | (with_reducible refine br_if (fun hbr => ?_) (fun hbr => ?_)) | (with_reducible refine br_ifn (fun hbr => ?_) (fun hbr => ?_)) | (with_reducible refine br_nb (fun hbr => ?_) (fun hbr => ?_)) | (with_reducible refine br_b (fun hbr => ?_) (fun hbr => ?_)) | simp (disch := first | omega | (simp only [List.length_take, List.length_drop, List.length_append, List.map_cons, List.map_nil, List.length_map, List.length_cons, List.length_nil, List.length_set, List.length_replicate]; omega) | (simp only [List.length_cons, List.length_nil, Nat.zero_add, Nat.reduceAdd])) only [go_sem, ↓reduceIte, Nat.reduceAdd, Int.reduceNeg, Int.reduceAdd, Int.reduceSub, Int.reduceMul, Int.reduceLT, Int.reduceLE, Int.reduceEq, Int.reduceToNat, Nat.reduceBEq, true_and])
    all_goals first | omega | (refine ret_b ?_; first | exact fmlB_no10 h10 | exact fmlB_noN (by assumption))
  simp (disch := first | omega | (simp only [List.length_take, List.length_drop, List.length_append, List.map_cons, List.map_nil, List.length_map, List.length_cons, List.length_nil, List.length_set, List.length_replicate]; omega) | (simp only [List.length_cons, List.length_nil, Nat.zero_add, Nat.reduceAdd])) only [go_sem, ↓reduceIte, Nat.reduceAdd, Int.reduceNeg, Int.reduceAdd, Int.reduceSub, Int.reduceMul, Int.reduceLT, Int.reduceLE, Int.reduceEq, Int.reduceToNat, Nat.reduceBEq, true_and]
  refine cl_ok h1 rfl ?_
  cases hn : nameB f.response
  · simp (disch := first | omega | (simp only [List.length_take, List.length_drop, List.length_append, List.map_cons, List.map_nil, List.length_map, List.length_cons, List.length_nil, List.length_set, List.length_replicate]; omega) | (simp only [List.length_cons, List.length_nil, Nat.zero_add, Nat.reduceAdd])) only [go_sem, ↓reduceIte, Nat.reduceAdd, Int.reduceNeg, Int.reduceAdd, Int.reduceSub, Int.reduceMul, Int.reduceLT, Int.reduceLE, Int.reduceEq, Int.reduceToNat, Nat.reduceBEq, true_and]
    refine ret_b ?_; exact fmlB_noN hn
  simp (disch := first | omega | (simp only [List.length_take, List.length_drop, List.length_append, List.map_cons, List.map_nil, List.length_map, List.length_cons, List.length_nil, List.length_set, List.length_replicate]; omega) | (simp only [List.length_cons, List.length_nil, Nat.zero_add, Nat.reduceAdd])) only [go_sem, ↓reduceIte, Nat.reduceAdd, Int.reduceNeg, Int.reduceAdd, Int.reduceSub, Int.reduceMul, Int.reduceLT, Int.reduceLE, Int.reduceEq, Int.reduceToNat, Nat.reduceBEq, true_and]
  refine br_if (fun hbr => ?_) (fun hbr => ?_)
  · omega
  simp (disch := first | omega | (simp only [List.length_take, List.length_drop, List.length_append, List.map_cons, List.map_nil, List.length_map, List.length_cons, List.length_nil, List.length_set, List.length_replicate]; omega) | (simp only [List.length_cons, List.length_nil, Nat.zero_add, Nat.reduceAdd])) only [go_sem, ↓reduceIte, Nat.reduceAdd, Int.reduceNeg, Int.reduceAdd, Int.reduceSub, Int.reduceMul, Int.reduceLT, Int.reduceLE, Int.reduceEq, Int.reduceToNat, Nat.reduceBEq, true_and]
  refine br_if (fun hbr => ?_) (fun hbr => ?_)
  · omega
  simp (disch := first | omega | (simp only [List.length_take, List.length_drop, List.length_append, List.map_cons, List.map_nil, List.length_map, List.length_cons, List.length_nil, List.length_set, List.length_replicate]; omega) | (simp only [List.length_cons, List.length_nil, Nat.zero_add, Nat.reduceAdd])) only [go_sem, ↓reduceIte, Nat.reduceAdd, Int.reduceNeg, Int.reduceAdd, Int.reduceSub, Int.reduceMul, Int.reduceLT, Int.reduceLE, Int.reduceEq, Int.reduceToNat, Nat.reduceBEq, true_and]
  refine lp (fun i : Nat => [.sc (.int .i64 i)]) (fun i => i ≤ f.variables.length ∧ allB (fmlV f) i = true) (fun i => f.variables.length - i) 0 rfl ⟨by omega, rfl⟩ ?_
  rintro i ⟨hi, hb⟩
  have h2i := h2 i
  simp only [u_impl_IsFormula_l3]
  repeat' (first | (with_reducible refine jn_in ?_) | (with_reducible refine cl_ok (by assumption) rfl ?_) | (with_reducible refine cl_okP (by assumption) rfl ?_) | (with_reducible refine br_if (fun hbr => ?_) (fun hbr => ?_)) | (with_reducible refine br_ifn (fun hbr => ?_) (fun hbr => ?_)) | (with_reducible refine br_nb (fun hbr => ?_) (fun hbr => ?_)) | (with_reducible refine br_b (fun hbr => ?_) (fun hbr => ?_)) | simp (disch := first | omega | (simp only [List.length_take, List.length_drop, List.length_append, List.map_cons, List.map_nil, List.length_map, List.length_cons, List.length_nil, List.length_set, List.length_replicate]; omega) | (simp only [List.length_cons, List.length_nil, Nat.zero_add, Nat.reduceAdd])) only [go_sem, ↓reduceIte, Nat.reduceAdd, Int.reduceNeg, Int.reduceAdd, Int.reduceSub, Int.reduceMul, Int.reduceLT, Int.reduceLE, Int.reduceEq, Int.reduceToNat, Nat.reduceBEq, e_sle, e_sge, e_shl1, e_orI, e_andI, e_shr, wrapu, wrap8, tn1, nat1, ix_s, ix_z, st_s, st_z, fl_s, fl_z, fl1_s, fl1_z, map_s, map_z, u_impl_IsFormula_j0])
  · exact ret_b (fmlB_V (i := i) (by omega) (by (first | (simp [-List.getD_eq_getElem?_getD, fmlV, *]; done) | (simp_all [-List.getD_eq_getElem?_getD, fmlV]; done) | (simp [-List.getD_eq_getElem?_getD, fmlV, *]; omega) | (simp_all [-List.getD_eq_getElem?_getD, fmlV]; omega) | omega)))
  · exact ⟨i + 1, rfl, ⟨by omega, allB_step hb (by (first | (simp [-List.getD_eq_getElem?_getD, fmlV, *]; done) | (simp_all [-List.getD_eq_getElem?_getD, fmlV]; done) | (simp [-List.getD_eq_getElem?_getD, fmlV, *]; omega) | (simp_all [-List.getD_eq_getElem?_getD, fmlV]; omega) | omega))⟩, by omega⟩
  · exact ret_b (fmlB_V (i := i) (by omega) (by (first | (simp [-List.getD_eq_getElem?_getD, fmlV, *]; done) | (simp_all [-List.getD_eq_getElem?_getD, fmlV]; done) | (simp [-List.getD_eq_getElem?_getD, fmlV, *]; omega) | (simp_all [-List.getD_eq_getElem?_getD, fmlV]; omega) | omega)))
  · exact ⟨i + 1, rfl, ⟨by omega, allB_step hb (by (first | (simp [-List.getD_eq_getElem?_getD, fmlV, *]; done) | (simp_all [-List.getD_eq_getElem?_getD, fmlV]; done) | (simp [-List.getD_eq_getElem?_getD, fmlV, *]; omega) | (simp_all [-List.getD_eq_getElem?_getD, fmlV]; omega) | omega))⟩, by omega⟩
  · exact ret_b (fmlB_V (i := i) (by omega) (by (first | (simp [-List.getD_eq_getElem?_getD, fmlV, *]; done) | (simp_all [-List.getD_eq_getElem?_getD, fmlV]; done) | (simp [-List.getD_eq_getElem?_getD, fmlV, *]; omega) | (simp_all [-List.getD_eq_getElem?_getD, fmlV]; omega) | omega)))
  obtain rfl : i = f.variables.length := by omega
  refine lp (fun i : Nat => [.sc (.int .i64 i), .sc (.int .i64 (orL f.terms i : Nat))]) (fun i => i ≤ f.terms.length ∧ allB (fmlT f) i = true) (fun i => f.terms.length - i) 0 rfl ⟨by omega, rfl⟩ ?_
  rintro i ⟨hi, hb2⟩
  have h3i := h3 i
  have ho := orL_lt i hb2
  simp only [u_impl_IsFormula_l2]
  repeat' (first | (with_reducible refine jn_in ?_) | (with_reducible refine cl_ok (by assumption) rfl ?_) | (with_reducible refine cl_okP (by assumption) rfl ?_) | (with_reducible refine br_if (fun hbr => ?_) (fun hbr => ?_)) | (with_reducible refine br_ifn (fun hbr => ?_) (fun hbr => ?_)) | (with_reducible refine br_nb (fun hbr => ?_) (fun hbr => ?_)) | (with_reducible refine br_b (fun hbr => ?_) (fun hbr => ?_)) | simp (disch := first | omega | (simp only [List.length_take, List.length_drop, List.length_append, List.map_cons, List.map_nil, List.length_map, List.length_cons, List.length_nil, List.length_set, List.length_replicate]; omega) | (simp only [List.length_cons, List.length_nil, Nat.zero_add, Nat.reduceAdd])) only [go_sem, ↓reduceIte, Nat.reduceAdd, Int.reduceNeg, Int.reduceAdd, Int.reduceSub, Int.reduceMul, Int.reduceLT, Int.reduceLE, Int.reduceEq, Int.reduceToNat, Nat.reduceBEq, e_sle, e_sge, e_shl1, e_orI, e_andI, e_shr, wrapu, wrap8, tn1, nat1, ix_s, ix_z, st_s, st_z, fl_s, fl_z, fl1_s, fl1_z, map_s, map_z, u_impl_IsFormula_j1, Int.toNat_natCast])
  all_goals first | (exact ret_b (fmlB_T (i := i) (by omega) (by (first | (simp [-List.getD_eq_getElem?_getD, fmlT, *]; done) | (simp_all [-List.getD_eq_getElem?_getD, fmlT]; done) | (simp [-List.getD_eq_getElem?_getD, fmlT, *]; omega) | (simp_all [-List.getD_eq_getElem?_getD, fmlT]; omega) | omega)))) | (exact ⟨i + 1, rfl, ⟨by omega, allB_step hb2 (by (first | (simp [-List.getD_eq_getElem?_getD, fmlT, *]; done) | (simp_all [-List.getD_eq_getElem?_getD, fmlT]; done) | (simp [-List.getD_eq_getElem?_getD, fmlT, *]; omega) | (simp_all [-List.getD_eq_getElem?_getD, fmlT]; omega) | omega))⟩, by omega⟩) | skip
  obtain rfl : i = f.terms.length := by omega
  refine ret_b ?_
  have hq := Nat.pow_pos (n := f.variables.length) (show 0 < 2 from by decide)
  unfold fmlB; rw [hn, hb, hb2, Bool.eq_iff_iff]
  generalize 2 ^ f.variables.length = q at hq ⊢
  simp [h5, h10]; omega

set_option maxHeartbeats 2000000 in
theorem specFml_m (f : Fml) (ok : FmlOk f) : Meets Try.prog 26 [(true, encFml f)] [(false, [.sc (.bool (fmlB f))], true)] := by
  obtain ⟨hr, hv, hs, ht, hz⟩ := ok
  have h1 := specName_m f.response hr
  have h2 := fun i => specName_m (f.variables.getD i default) (getD_le hs i)
  have h3 := fun i => l21Ahead_m (f.terms.getD (i - 1) default) (f.terms.getD i default) (getD_leZ (by decide) hz _) (getD_leZ (by decide) hz _)
  have h4 := fun i => l1In_m (f.terms.getD i default) 1 (((2 ^ f.variables.length : Nat) : Int) - 1)
  refine meets_upf Try.func26 u_spec_IsFormula_g rfl ?_; simp only [u_spec_IsFormula_u]
  simp only [encFml, encSs, encZs]
  by_cases h5 : f.variables.length ≤ 5
  rotate_left
  · repeat' (first | (with_reducible refine jn_in ?_) | (with_reducible refine cl_ok (by assumption) rfl ?_) | (with_reducible refine cl_okP (by assumption) rfl ?_) | (with_reducible refine br_if (fun hbr => ?_) (fun hbr => ?_)) | (with_reducible refine br_ifn (fun hbr => ?_) (fun hbr => ?_)) | (with_reducible refine br_nb (fun hbr => ?_) (fun hbr => ?_)) | (with_reducible refine br_b (fun hbr => ?_) (fun hbr => ?_)) | simp (disch := first | omega | (simp only [List.length_take, List.length_drop, List.length_append, List.map_cons, List.map_nil, List.length_map, List.length_cons, List.length_nil, List.length_set, List.length_replicate]; omega) | (simp only [List.length_cons, List.length_nil, Nat.zero_add, Nat.reduceAdd])) only [go_sem, ↓reduceIte, Nat.reduceAdd, Int.reduceNeg, Int.reduceAdd, Int.reduceSub, Int.reduceMul, Int.reduceLT, Int.reduceLE, Int.reduceEq, Int.reduceToNat, Nat.reduceBEq, true_and])
    all_goals first | omega | (refine ret_b ?_; first | exact fmlB_no5 h5 | exact fmlB_noN (by assumption))
  have hp := pow_le5 h5
  have hp0 := Nat.pow_pos (n := f.variables.length) (show 0 < 2 from by decide)
  by_cases h10 : f.terms.length ≤ 10
  rotate_left
  · repeat' (first | (with_reducible refine jn_in ?_) | (with_reducible refine cl_ok (by assumption) rfl ?_) | (with_reducible refine cl_okP (by assumption) rfl ?_) | (with_reducible refine br_if (fun hbr => ?_) (fun hbr => ?_)) | (with_reducible refine br_ifn (fun hbr => ?_) (fun hbr => ?_)) | (with_reducible refine br_nb (fun hbr => ?_) (fun hbr => ?_)) | (with_reducible refine br_b (fun hbr => ?_) (fun hbr => ?_)) | simp (disch := first | omega | (simp only [List.length_take, List.length_drop, List.length_append, List.map_cons, List.map_nil, List.length_map, List.length_cons, List.length_nil, List.length_set, List.length_replicate]; omega) | (simp only [List.length_cons, List.length_nil, Nat.zero_add, Nat.reduceAdd])) only [go_sem, ↓reduceIte, Nat.reduceAdd, Int.reduceNeg, Int.reduceAdd, Int.reduceSub, Int.reduceMul, Int.reduceLT, Int.reduceLE, Int.reduceEq, Int.reduceToNat, Nat.reduceBEq, true_and])
    all_goals first | omega | (refine ret_b ?_; first | exact fmlB_no10 h10 | exact fmlB_noN (by assumption))
  simp (disch := first | omega | (simp only [List.length_take, List.length_drop, List.length_append, List.map_cons, List.map_nil, List.length_map, List.length_cons, List.length_nil, List.length_set, List.length_replicate]; omega) | (simp only [List.length_cons, List.length_nil, Nat.zero_add, Nat.reduceAdd])) only [go_sem, ↓reduceIte, Nat.reduceAdd, Int.reduceNeg, Int.reduceAdd, Int.reduceSub, Int.reduceMul, Int.reduceLT, Int.reduceLE, Int.reduceEq, Int.reduceToNat, Nat.reduceBEq, true_and]
  refine cl_ok h1 rfl ?_
  cases hn : nameB f.response
  · simp (disch := first | omega | (simp only [List.length_take, List.length_drop, List.length_append, List.map_cons, List.map_nil, List.length_map, List.length_cons, List.length_nil, List.length_set, List.length_replicate]; omega) | (simp only [List.length_cons, List.length_nil, Nat.zero_add, Nat.reduceAdd])) only [go_sem, ↓reduceIte, Nat.reduceAdd, Int.reduceNeg, Int.reduceAdd, Int.reduceSub, Int.reduceMul, Int.reduceLT, Int.reduceLE, Int.reduceEq, Int.reduceToNat, Nat.reduceBEq, true_and]
    refine ret_b ?_; exact fmlB_noN hn
  simp (disch := first | omega | (simp only [List.length_take, List.length_drop, List.length_append, List.map_cons, List.map_nil, List.length_map, List.length_cons, List.length_nil, List.length_set, List.length_replicate]; omega) | (simp only [List.length_cons, List.length_nil, Nat.zero_add, Nat.reduceAdd])) only [go_sem, ↓reduceIte, Nat.reduceAdd, Int.reduceNeg, Int.reduceAdd, Int.reduceSub, Int.reduceMul, Int.reduceLT, Int.reduceLE, Int.reduceEq, Int.reduceToNat, Nat.reduceBEq, true_and]
  refine br_if (fun hbr => ?_) (fun hbr => ?_)
  · omega
  simp (disch := first | omega | (simp only [List.length_take, List.length_drop, List.length_append, List.map_cons, List.map_nil, List.length_map, List.length_cons, List.length_nil, List.length_set, List.length_replicate]; omega) | (simp only [List.length_cons, List.length_nil, Nat.zero_add, Nat.reduceAdd])) only [go_sem, ↓reduceIte, Nat.reduceAdd, Int.reduceNeg, Int.reduceAdd, Int.reduceSub, Int.reduceMul, Int.reduceLT, Int.reduceLE, Int.reduceEq, Int.reduceToNat, Nat.reduceBEq, true_and]
  refine br_if (fun hbr => ?_) (fun hbr => ?_)
  · omega
  simp (disch := first | omega | (simp only [List.length_take, List.length_drop, List.length_append, List.map_cons, List.map_nil, List.length_map, List.length_cons, List.length_nil, List.length_set, List.length_replicate]; omega) | (simp only [List.length_cons, List.length_nil, Nat.zero_add, Nat.reduceAdd])) only [go_sem, ↓reduceIte, Nat.reduceAdd, Int.reduceNeg, Int.reduceAdd, Int.reduceSub, Int.reduceMul, Int.reduceLT, Int.reduceLE, Int.reduceEq, Int.reduceToNat, Nat.reduceBEq, true_and]
  refine lp (fun i : Nat => [.sc (.int .i64 i), .sc (.int .i64 (orL f.terms i : Nat))]) (fun i => i ≤ f.terms.length ∧ allB (fmlT f) i = true) (fun i => f.terms.length - i) 0 rfl ⟨by omega, rfl⟩ ?_
  rintro i ⟨hi, hb2⟩
  have h3i := h3 i
  have h4i := h4 i
  have ho := orL_lt i hb2
  simp only [u_spec_IsFormula_l3]
  simp (disch := first | omega | (simp only [List.length_take, List.length_drop, List.length_append, List.map_cons, List.map_nil, List.length_map, List.length_cons, List.length_nil, List.length_set, List.length_replicate]; omega) | (simp only [List.length_cons, List.length_nil, Nat.zero_add, Nat.reduceAdd])) only [go_sem, ↓reduceIte, Nat.reduceAdd, Int.reduceNeg, Int.reduceAdd, Int.reduceSub, Int.reduceMul, Int.reduceLT, Int.reduceLE, Int.reduceEq, Int.reduceToNat, Nat.reduceBEq, e_sle, e_sge, e_shl1, e_orI, e_andI, e_shr, wrapu, wrap8, tn1, nat1, ix_s, ix_z, st_s, st_z, fl_s, fl_z, fl1_s, fl1_z, map_s, map_z, true_and]
  refine br_if (fun hbr => ?_) (fun hbr => ?_)
  · cases hx : decide (1 ≤ f.terms.getD i default ∧ f.terms.getD i default ≤ ((2 ^ f.variables.length : Nat) : Int) - 1)
    · rw [hx] at h4i
      repeat' (first | (with_reducible refine jn_in ?_) | (with_reducible refine cl_ok (by assumption) rfl ?_) | (with_reducible refine cl_okP (by assumption) rfl ?_) | (with_reducible refine br_if (fun hbr => ?_) (fun hbr => ?_)) | (with_reducible refine br_ifn (fun hbr => ?_) (fun hbr => ?_)) | (with_reducible refine br_nb (fun hbr => ?_) (fun hbr => ?_)) | (with_reducible refine br_b (fun hbr => ?_) (fun hbr => ?_)) | simp (disch := first | omega | (simp only [List.length_take, List.length_drop, List.length_append, List.map_cons, List.map_nil, List.length_map, List.length_cons, List.length_nil, List.length_set, List.length_replicate]; omega) | (simp only [List.length_cons, List.length_nil, Nat.zero_add, Nat.reduceAdd])) only [go_sem, ↓reduceIte, Nat.reduceAdd, Int.reduceNeg, Int.reduceAdd, Int.reduceSub, Int.reduceMul, Int.reduceLT, Int.reduceLE, Int.reduceEq, Int.reduceToNat, Nat.reduceBEq, e_sle, e_sge, e_shl1, e_orI, e_andI, e_shr, wrapu, wrap8, tn1, nat1, ix_s, ix_z, st_s, st_z, fl_s, fl_z, fl1_s, fl1_z, map_s, map_z, u_spec_IsFormula_j0, Int.toNat_natCast])
      all_goals exact ret_b (fmlB_T (i := i) (by omega) (by rw [decide_eq_false_iff_not] at hx; unfold fmlT; rw [Bool.and_eq_false_iff]; left; rw [decide_eq_false_iff_not]; omega))
    · rw [hx] at h4i
      rw [decide_eq_true_eq] at hx
      repeat' (first | (with_reducible refine jn_in ?_) | (with_reducible refine cl_ok (by assumption) rfl ?_) | (with_reducible refine cl_okP (by assumption) rfl ?_) | (with_reducible refine br_if (fun hbr => ?_) (fun hbr => ?_)) | (with_reducible refine br_ifn (fun hbr => ?_) (fun hbr => ?_)) | (with_reducible refine br_nb (fun hbr => ?_) (fun hbr => ?_)) | (with_reducible refine br_b (fun hbr => ?_) (fun hbr => ?_)) | simp (disch := first | omega | (simp only [List.length_take, List.length_drop, List.length_append, List.map_cons, List.map_nil, List.length_map, List.length_cons, List.length_nil, List.length_set, List.length_replicate]; omega) | (simp only [List.length_cons, List.length_nil, Nat.zero_add, Nat.reduceAdd])) only [go_sem, ↓reduceIte, Nat.reduceAdd, Int.reduceNeg, Int.reduceAdd, Int.reduceSub, Int.reduceMul, Int.reduceLT, Int.reduceLE, Int.reduceEq, Int.reduceToNat, Nat.reduceBEq, e_sle, e_sge, e_shl1, e_orI, e_andI, e_shr, wrapu, wrap8, tn1, nat1, ix_s, ix_z, st_s, st_z, fl_s, fl_z, fl1_s, fl1_z, map_s, map_z, u_spec_IsFormula_j0, Int.toNat_natCast])
      all_goals first | (exact ret_b (fmlB_T (i := i) (by omega) (by (first | (simp [-List.getD_eq_getElem?_getD, fmlT, *]; done) | (simp_all [-List.getD_eq_getElem?_getD, fmlT]; done) | (simp [-List.getD_eq_getElem?_getD, fmlT, *]; omega) | (simp_all [-List.getD_eq_getElem?_getD, fmlT]; omega) | omega)))) | (exact ⟨i + 1, rfl, ⟨by omega, allB_step hb2 (by (first | (simp [-List.getD_eq_getElem?_getD, fmlT, *]; done) | (simp_all [-List.getD_eq_getElem?_getD, fmlT]; done) | (simp [-List.getD_eq_getElem?_getD, fmlT, *]; omega) | (simp_all [-List.getD_eq_getElem?_getD, fmlT]; omega) | omega))⟩, by omega⟩) | skip
  obtain rfl : i = f.terms.length := by omega
  simp (disch := first | omega | (simp only [List.length_take, List.length_drop, List.length_append, List.map_cons, List.map_nil, List.length_map, List.length_cons, List.length_nil, List.length_set, List.length_replicate]; omega) | (simp only [List.length_cons, List.length_nil, Nat.zero_add, Nat.reduceAdd])) only [go_sem, ↓reduceIte, Nat.reduceAdd, Int.reduceNeg, Int.reduceAdd, Int.reduceSub, Int.reduceMul, Int.reduceLT, Int.reduceLE, Int.reduceEq, Int.reduceToNat, Nat.reduceBEq, e_sle, e_sge, e_shl1, e_orI, e_andI, e_shr, wrapu, wrap8, tn1, nat1, ix_s, ix_z, st_s, st_z, fl_s, fl_z, fl1_s, fl1_z, map_s, map_z, true_and]
  refine lp (fun i : Nat => [.sc (.int .i64 i)]) (fun i => i ≤ f.variables.length ∧ allB (fmlV f) i = true) (fun i => f.variables.length - i) 0 rfl ⟨by omega, rfl⟩ ?_
  rintro i ⟨hi, hb⟩
  have h2i := h2 i
  simp only [u_spec_IsFormula_l2]
  repeat' (first | (with_reducible refine jn_in ?_) | (with_reducible refine cl_ok (by assumption) rfl ?_) | (with_reducible refine cl_okP (by assumption) rfl ?_) | (with_reducible refine br_if (fun hbr => ?_) (fun hbr => ?_)) | (with_reducible refine br_ifn (fun hbr => ?_) (fun hbr => ?_)) | (with_reducible refine br_nb (fun hbr => ?_) (fun hbr => ?_)) | (with_reducible refine br_b (fun hbr => ?_) (fun hbr => ?_)) | simp (disch := first | omega | (simp only [List.length_take, List.length_drop, List.length_append, List.map_cons, List.map_nil, List.length_map, List.length_cons, List.length_nil, List.length_set, List.length_replicate]; omega) | (simp only [List.length_cons, List.length_nil, Nat.zero_add, Nat.reduceAdd])) only [go_sem, ↓reduceIte, Nat.reduceAdd, Int.reduceNeg, Int.reduceAdd, Int.reduceSub, Int.reduceMul, Int.reduceLT, Int.reduceLE, Int.reduceEq, Int.reduceToNat, Nat.reduceBEq, e_sle, e_sge, e_shl1, e_orI, e_andI, e_shr, wrapu, wrap8, tn1, nat1, ix_s, ix_z, st_s, st_z, fl_s, fl_z, fl1_s, fl1_z, map_s, map_z, u_spec_IsFormula_j1])
  all_goals first | exact ret_b (fmlB_V (i := i) (by omega) (by (first | (simp [-List.getD_eq_getElem?_getD, fmlV, *]; done) | (simp_all [-List.getD_eq_getElem?_getD, fmlV]; done) | (simp [-List.getD_eq_getElem?_getD, fmlV, *]; omega) | (simp_all [-List.getD_eq_getElem?_getD, fmlV]; omega) | omega))) | exact ⟨i + 1, rfl, ⟨by omega, allB_step hb (by (first | (simp [-List.getD_eq_getElem?_getD, fmlV, *]; done) | (simp_all [-List.getD_eq_getElem?_getD, fmlV]; done) | (simp [-List.getD_eq_getElem?_getD, fmlV, *]; omega) | (simp_all [-List.getD_eq_getElem?_getD, fmlV]; omega) | omega))⟩, by omega⟩ | skip
  obtain rfl : i = f.variables.length := by omega
  refine ret_b ?_
  have hq := Nat.pow_pos (n := f.variables.length) (show 0 < 2 from by decide)
  unfold fmlB; rw [hn, hb, hb2, Bool.eq_iff_iff]
  generalize 2 ^ f.variables.length = q at hq ⊢
  simp [h5, h10]; omega
end Go.Proofs.Ytgmpajfhjnojiaa
