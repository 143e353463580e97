/- Lists of texts, names: impl.textIndex, hasText, IsName; spec.l1In, l1Find, l1Has, IsName. -/
import Derived.Test.YtgmpajfhjnojiaaUTxt
import Derived.Test.YtgmpajfhjnojiaaGen0
import Derived.Test.YtgmpajfhjnojiaaGX
import Derived.Test.YtgmpajfhjnojiaaTxtMath
namespace Go.Proofs.Ytgmpajfhjnojiaa
open Go.RowKit
set_option linter.unusedVariables false
set_option linter.unusedSimpArgs false
set_option maxRecDepth 100000

def encS (s : ByteArray) : List DV := [.sc (.string s)]
def encZ (n : Int) : List DV := [.sc (.int .i64 n)]
def encSs (l : List ByteArray) : DV := .sl 9 1 (l.map encS)
def encZs (l : List Int) : DV := .sl 3 1 (l.map encZ)
theorem ix_s {t : Nat} {l : List ByteArray} {kd : IntKind} {z : Int} (h : 0 ≤ z) (h1 : z < l.length) : eIdx 1 (some (.sl t 1 (l.map encS))) (some (.sc (.int kd z))) = some [.sc (.string (l.getD z.toNat default))] := e_idx_map (fun _ => rfl) h h1
theorem ix_z {t : Nat} {l : List Int} {kd : IntKind} {z : Int} (h : 0 ≤ z) (h1 : z < l.length) : eIdx 1 (some (.sl t 1 (l.map encZ))) (some (.sc (.int kd z))) = some [.sc (.int .i64 (l.getD z.toNat default))] := e_idx_map (fun _ => rfl) h h1
theorem st_s {t : Nat} {l : List ByteArray} {kd : IntKind} {z : Int} {s : ByteArray} (h : 0 ≤ z) (h1 : z < l.length) : eSet 1 0 (some (.sl t 1 (l.map encS))) (some (.sc (.int kd z))) (some [.sc (.string s)]) = some [.sl t 1 ((l.set z.toNat s).map encS)] := by
  rw [e_set_map (e := encS) (fun _ => rfl) h h1 rfl, List.map_set]; rfl
theorem st_z {t : Nat} {l : List Int} {kd : IntKind} {z n : Int} (h : 0 ≤ z) (h1 : z < l.length) : eSet 1 0 (some (.sl t 1 (l.map encZ))) (some (.sc (.int kd z))) (some [.sc (.int .i64 n)]) = some [.sl t 1 ((l.set z.toNat n).map encZ)] := by
  rw [e_set_map (e := encZ) (fun _ => rfl) h h1 rfl, List.map_set]; rfl
theorem fl_s {t k : Nat} {l : List ByteArray} : eFlat (some (.sl t k (l.map encS))) = some [] := e_flat_map fun _ => rfl
theorem fl_z {t k : Nat} {l : List Int} : eFlat (some (.sl t k (l.map encZ))) = some [] := e_flat_map fun _ => rfl
theorem fl1_s {t : Nat} {s : ByteArray} : eFlat (some (.sl t 1 [[.sc (.string s)]])) = some [] := rfl
theorem fl1_z {t : Nat} {kd : IntKind} {n : Int} : eFlat (some (.sl t 1 [[.sc (.int kd n)]])) = some [] := rfl
theorem map_s (l : List ByteArray) (s : ByteArray) : l.map encS ++ [[.sc (.string s)]] = (l ++ [s]).map encS := by rw [List.map_append]; rfl
theorem map_z (l : List Int) (n : Int) : l.map encZ ++ [[.sc (.int .i64 n)]] = (l ++ [n]).map encZ := by rw [List.map_append]; rfl

theorem textIndex_m (t : Nat) (l : List ByteArray) (s : ByteArray) (hl : l.length ≤ 100000000000) : Meets Try.prog 108 [(false, [.sl t 1 (l.map encS)]), (false, [.sc (.string s)])] [(false, [.sc (.int .i64 (find1 l s))], true)] := by
  refine meets_upf Try.func108 u_impl_textIndex_g rfl ?_; simp only [u_impl_textIndex_u]
  simp (disch := first | omega | (simp only [List.length_take, List.length_drop, List.length_append, List.map_cons, List.map_nil, List.length_map, List.length_cons, List.length_nil, List.length_set, List.length_replicate]; omega) | (simp only [List.length_cons, List.length_nil, Nat.zero_add, Nat.reduceAdd])) only [go_sem, ↓reduceIte, Nat.reduceAdd, Int.reduceNeg, Int.reduceAdd, Int.reduceSub, Int.reduceMul, Int.reduceLT, Int.reduceLE, Int.reduceEq, Int.reduceToNat, Nat.reduceBEq, true_and]
  refine lp (fun i : Nat => [.sc (.int .i64 i)]) (fun i => i ≤ l.length ∧ allB (fun j => !decide (l.getD j default = s)) i = true) (fun i => l.length - i) 0 rfl ⟨by omega, rfl⟩ ?_
  rintro i ⟨hi, hb⟩
  simp only [u_impl_textIndex_l0]
  repeat' (first | (with_reducible refine jn_in ?_) | (with_reducible refine cl_ok (by assumption) rfl ?_) | (with_reducible refine cl_okP (by assumption) rfl ?_) | (with_reducible refine br_if (fun hbr => ?_) (fun hbr => ?_)) | (with_reducible refine br_ifn (fun hbr => ?_) (fun hbr => ?_)) | (with_reducible refine br_nb (fun hbr => ?_) (fun hbr => ?_)) | (with_reducible refine br_b (fun hbr => ?_) (fun hbr => ?_)) | simp (disch := first | omega | (simp only [List.length_take, List.length_drop, List.length_append, List.map_cons, List.map_nil, List.length_map, List.length_cons, List.length_nil, List.length_set, List.length_replicate]; omega) | (simp only [List.length_cons, List.length_nil, Nat.zero_add, Nat.reduceAdd])) only [go_sem, ↓reduceIte, Nat.reduceAdd, Int.reduceNeg, Int.reduceAdd, Int.reduceSub, Int.reduceMul, Int.reduceLT, Int.reduceLE, Int.reduceEq, Int.reduceToNat, Nat.reduceBEq, ix_s, nat1])
  · rw [find1_hit hb (by omega) ‹_›]; rfl
  · exact ⟨i + 1, rfl, ⟨by omega, allB_step hb (by simpa using ‹¬ l.getD i default = s›)⟩, by omega⟩
  · obtain rfl : i = l.length := by omega
    rw [find1_miss hb]; rfl
theorem hasText_m (t : Nat) (l : List ByteArray) (s : ByteArray) (hl : l.length ≤ 100000000000) : Meets Try.prog 90 [(false, [.sl t 1 (l.map encS)]), (false, [.sc (.string s)])] [(false, [.sc (.bool (hasB l s))], true)] := by
  have h := textIndex_m t l s hl
  refine meets_upf Try.func90 u_impl_hasText_g rfl ?_; simp only [u_impl_hasText_u]
  repeat' (first | (with_reducible refine jn_in ?_) | (with_reducible refine cl_ok (by assumption) rfl ?_) | (with_reducible refine cl_okP (by assumption) rfl ?_) | (with_reducible refine br_if (fun hbr => ?_) (fun hbr => ?_)) | (with_reducible refine br_ifn (fun hbr => ?_) (fun hbr => ?_)) | (with_reducible refine br_nb (fun hbr => ?_) (fun hbr => ?_)) | (with_reducible refine br_b (fun hbr => ?_) (fun hbr => ?_)) | simp (disch := first | omega | (simp only [List.length_take, List.length_drop, List.length_append, List.map_cons, List.map_nil, List.length_map, List.length_cons, List.length_nil, List.length_set, List.length_replicate]; omega) | (simp only [List.length_cons, List.length_nil, Nat.zero_add, Nat.reduceAdd])) only [go_sem, ↓reduceIte, Nat.reduceAdd, Int.reduceNeg, Int.reduceAdd, Int.reduceSub, Int.reduceMul, Int.reduceLT, Int.reduceLE, Int.reduceEq, Int.reduceToNat, Nat.reduceBEq, true_and])
  rfl
theorem implName_m (s : ByteArray) (hs : s.size ≤ 100000000000) : Meets Try.prog 63 [(false, [.sc (.string s)])] [(false, [.sc (.bool (nameB s))], true)] := by
  refine meets_upf Try.func63 u_impl_IsName_g rfl ?_; simp only [u_impl_IsName_u]
  simp (disch := first | omega | (simp only [List.length_take, List.length_drop, List.length_append, List.map_cons, List.map_nil, List.length_map, List.length_cons, List.length_nil, List.length_set, List.length_replicate]; omega) | (simp only [List.length_cons, List.length_nil, Nat.zero_add, Nat.reduceAdd])) only [go_sem, ↓reduceIte, Nat.reduceAdd, Int.reduceNeg, Int.reduceAdd, Int.reduceSub, Int.reduceMul, Int.reduceLT, Int.reduceLE, Int.reduceEq, Int.reduceToNat, Nat.reduceBEq, true_and]
  refine lp (fun i : Nat => [.sc (.int .i64 i)]) (fun i => i ≤ s.size ∧ allB (nameC s) i = true) (fun i => s.size - i) 0 rfl ⟨by omega, rfl⟩ ?_
  rintro i ⟨hi, hb⟩
  simp only [u_impl_IsName_l0]
  repeat' (first | (with_reducible refine jn_in ?_) | (with_reducible refine cl_ok (by assumption) rfl ?_) | (with_reducible refine cl_okP (by assumption) rfl ?_) | (with_reducible refine br_if (fun hbr => ?_) (fun hbr => ?_)) | (with_reducible refine br_ifn (fun hbr => ?_) (fun hbr => ?_)) | (with_reducible refine br_nb (fun hbr => ?_) (fun hbr => ?_)) | (with_reducible refine br_b (fun hbr => ?_) (fun hbr => ?_)) | simp (disch := first | omega | (simp only [List.length_take, List.length_drop, List.length_append, List.map_cons, List.map_nil, List.length_map, List.length_cons, List.length_nil, List.length_set, List.length_replicate]; omega) | (simp only [List.length_cons, List.length_nil, Nat.zero_add, Nat.reduceAdd])) only [go_sem, ↓reduceIte, Nat.reduceAdd, Int.reduceNeg, Int.reduceAdd, Int.reduceSub, Int.reduceMul, Int.reduceLT, Int.reduceLE, Int.reduceEq, Int.reduceToNat, Nat.reduceBEq, nat1])
  · rw [nameB_no (i := i) (by omega) (by simp [nameC]; omega)]; rfl
  · rw [nameB_no (i := i) (by omega) (by simp [nameC]; omega)]; rfl
  · rw [nameB_no (i := i) (by omega) (by simp [nameC]; omega)]; rfl
  · exact ⟨i + 1, rfl, ⟨by omega, allB_step hb (by simp [nameC]; omega)⟩, by omega⟩
  · obtain rfl : i = s.size := by omega
    refine ret_b ?_
    unfold nameB; rw [hb, Bool.true_and, Bool.eq_iff_iff]
    simp; omega
  · obtain rfl : i = s.size := by omega
    refine ret_b ?_
    unfold nameB; rw [hb, Bool.true_and, Bool.eq_iff_iff]
    simp; omega
theorem l1In_m (x lo hi : Int) : Meets Try.prog 27 [(false, [.sc (.int .i64 x)]), (false, [.sc (.int .i64 lo)]), (false, [.sc (.int .i64 hi)])] [(false, [.sc (.bool (decide (lo ≤ x ∧ x ≤ hi)))], true)] := by
  refine meets_upf Try.func27 u_spec_l1In_g rfl ?_; simp only [u_spec_l1In_u]
  repeat' (first | (with_reducible refine jn_in ?_) | (with_reducible refine cl_ok (by assumption) rfl ?_) | (with_reducible refine cl_okP (by assumption) rfl ?_) | (with_reducible refine br_if (fun hbr => ?_) (fun hbr => ?_)) | (with_reducible refine br_ifn (fun hbr => ?_) (fun hbr => ?_)) | (with_reducible refine br_nb (fun hbr => ?_) (fun hbr => ?_)) | (with_reducible refine br_b (fun hbr => ?_) (fun hbr => ?_)) | simp (disch := first | omega | (simp only [List.length_take, List.length_drop, List.length_append, List.map_cons, List.map_nil, List.length_map, List.length_cons, List.length_nil, List.length_set, List.length_replicate]; omega) | (simp only [List.length_cons, List.length_nil, Nat.zero_add, Nat.reduceAdd])) only [go_sem, ↓reduceIte, Nat.reduceAdd, Int.reduceNeg, Int.reduceAdd, Int.reduceSub, Int.reduceMul, Int.reduceLT, Int.reduceLE, Int.reduceEq, Int.reduceToNat, Nat.reduceBEq, true_and])
  all_goals (refine ret_b ?_; rw [Bool.eq_iff_iff]; simp; omega)
theorem l1Find_m (t : Nat) (l : List ByteArray) (s : ByteArray) (hl : l.length ≤ 100000000000) : Meets Try.prog 72 [(false, [.sl t 1 (l.map encS)]), (false, [.sc (.string s)])] [(false, [.sc (.int .i64 (find1 l s))], true)] := by
  refine meets_upf Try.func72 u_spec_l1Find_g rfl ?_; simp only [u_spec_l1Find_u]
  simp (disch := first | omega | (simp only [List.length_take, List.length_drop, List.length_append, List.map_cons, List.map_nil, List.length_map, List.length_cons, List.length_nil, List.length_set, List.length_replicate]; omega) | (simp only [List.length_cons, List.length_nil, Nat.zero_add, Nat.reduceAdd])) only [go_sem, ↓reduceIte, Nat.reduceAdd, Int.reduceNeg, Int.reduceAdd, Int.reduceSub, Int.reduceMul, Int.reduceLT, Int.reduceLE, Int.reduceEq, Int.reduceToNat, Nat.reduceBEq, true_and]
  refine lp (fun i : Nat => [.sc (.int .i64 i)]) (fun i => i ≤ l.length ∧ allB (fun j => !decide (l.getD j default = s)) i = true) (fun i => l.length - i) 0 rfl ⟨by omega, rfl⟩ ?_
  rintro i ⟨hi, hb⟩
  simp only [u_spec_l1Find_l0]
  repeat' (first | (with_reducible refine jn_in ?_) | (with_reducible refine cl_ok (by assumption) rfl ?_) | (with_reducible refine cl_okP (by assumption) rfl ?_) | (with_reducible refine br_if (fun hbr => ?_) (fun hbr => ?_)) | (with_reducible refine br_ifn (fun hbr => ?_) (fun hbr => ?_)) | (with_reducible refine br_nb (fun hbr => ?_) (fun hbr => ?_)) | (with_reducible refine br_b (fun hbr => ?_) (fun hbr => ?_)) | simp (disch := first | omega | (simp only [List.length_take, List.length_drop, List.length_append, List.map_cons, List.map_nil, List.length_map, List.length_cons, List.length_nil, List.length_set, List.length_replicate]; omega) | (simp only [List.length_cons, List.length_nil, Nat.zero_add, Nat.reduceAdd])) only [go_sem, ↓reduceIte, Nat.reduceAdd, Int.reduceNeg, Int.reduceAdd, Int.reduceSub, Int.reduceMul, Int.reduceLT, Int.reduceLE, Int.reduceEq, Int.reduceToNat, Nat.reduceBEq, ix_s, nat1])
  · rw [find1_hit hb (by omega) ‹_›]; rfl
  · exact ⟨i + 1, rfl, ⟨by omega, allB_step hb (by simpa using ‹¬ l.getD i default = s›)⟩, by omega⟩
  · obtain rfl : i = l.length := by omega
    rw [find1_miss hb]; rfl
theorem l1Has_m (t : Nat) (l : List ByteArray) (s : ByteArray) (hl : l.length ≤ 100000000000) : Meets Try.prog 42 [(false, [.sl t 1 (l.map encS)]), (false, [.sc (.string s)])] [(false, [.sc (.bool (hasB l s))], true)] := by
  have h := l1Find_m t l s hl
  refine meets_upf Try.func42 u_spec_l1Has_g rfl ?_; simp only [u_spec_l1Has_u]
  repeat' (first | (with_reducible refine jn_in ?_) | (with_reducible refine cl_ok (by assumption) rfl ?_) | (with_reducible refine cl_okP (by assumption) rfl ?_) | (with_reducible refine br_if (fun hbr => ?_) (fun hbr => ?_)) | (with_reducible refine br_ifn (fun hbr => ?_) (fun hbr => ?_)) | (with_reducible refine br_nb (fun hbr => ?_) (fun hbr => ?_)) | (with_reducible refine br_b (fun hbr => ?_) (fun hbr => ?_)) | simp (disch := first | omega | (simp only [List.length_take, List.length_drop, List.length_append, List.map_cons, List.map_nil, List.length_map, List.length_cons, List.length_nil, List.length_set, List.length_replicate]; omega) | (simp only [List.length_cons, List.length_nil, Nat.zero_add, Nat.reduceAdd])) only [go_sem, ↓reduceIte, Nat.reduceAdd, Int.reduceNeg, Int.reduceAdd, Int.reduceSub, Int.reduceMul, Int.reduceLT, Int.reduceLE, Int.reduceEq, Int.reduceToNat, Nat.reduceBEq, true_and])
  rfl
theorem specName_m (s : ByteArray) (hs : s.size ≤ 100000000000) : Meets Try.prog 61 [(false, [.sc (.string s)])] [(false, [.sc (.bool (nameB s))], true)] := by
  have h := l1In_m s.size 1 20
  refine meets_upf Try.func61 u_spec_IsName_g rfl ?_; simp only [u_spec_IsName_u]
  simp (disch := first | omega | (simp only [List.length_take, List.length_drop, List.length_append, List.map_cons, List.map_nil, List.length_map, List.length_cons, List.length_nil, List.length_set, List.length_replicate]; omega) | (simp only [List.length_cons, List.length_nil, Nat.zero_add, Nat.reduceAdd])) only [go_sem, ↓reduceIte, Nat.reduceAdd, Int.reduceNeg, Int.reduceAdd, Int.reduceSub, Int.reduceMul, Int.reduceLT, Int.reduceLE, Int.reduceEq, Int.reduceToNat, Nat.reduceBEq, true_and]
  refine lp (fun i : Nat => [.sc (.int .i64 i)]) (fun i => i ≤ s.size ∧ allB (nameC s) i = true) (fun i => s.size - i) 0 rfl ⟨by omega, rfl⟩ ?_
  rintro i ⟨hi, hb⟩
  simp only [u_spec_IsName_l0]
  repeat' (first | (with_reducible refine jn_in ?_) | (with_reducible refine cl_ok (by assumption) rfl ?_) | (with_reducible refine cl_okP (by assumption) rfl ?_) | (with_reducible refine br_if (fun hbr => ?_) (fun hbr => ?_)) | (with_reducible refine br_ifn (fun hbr => ?_) (fun hbr => ?_)) | (with_reducible refine br_nb (fun hbr => ?_) (fun hbr => ?_)) | (with_reducible refine br_b (fun hbr => ?_) (fun hbr => ?_)) | simp (disch := first | omega | (simp only [List.length_take, List.length_drop, List.length_append, List.map_cons, List.map_nil, List.length_map, List.length_cons, List.length_nil, List.length_set, List.length_replicate]; omega) | (simp only [List.length_cons, List.length_nil, Nat.zero_add, Nat.reduceAdd])) only [go_sem, ↓reduceIte, Nat.reduceAdd, Int.reduceNeg, Int.reduceAdd, Int.reduceSub, Int.reduceMul, Int.reduceLT, Int.reduceLE, Int.reduceEq, Int.reduceToNat, Nat.reduceBEq, nat1])
  · rw [nameB_no (i := i) (by omega) (by simp [nameC]; omega)]; rfl
  · rw [nameB_no (i := i) (by omega) (by simp [nameC]; omega)]; rfl
  · rw [nameB_no (i := i) (by omega) (by simp [nameC]; omega)]; rfl
  · exact ⟨i + 1, rfl, ⟨by omega, allB_step hb (by simp [nameC]; omega)⟩, by omega⟩
  · obtain rfl : i = s.size := by omega
    refine ret_b ?_
    unfold nameB; rw [hb, Bool.true_and, Bool.eq_iff_iff]
    simp; omega
end Go.Proofs.Ytgmpajfhjnojiaa
