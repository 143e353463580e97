/- DropTerm of both packages. -/
import Derived.Test.YtgmpajfhjnojiaaUDrop4
import Derived.Test.YtgmpajfhjnojiaaDrop3
namespace Go.Proofs.Ytgmpajfhjnojiaa
open Go.RowKit
set_option linter.unusedVariables false
set_option linter.unusedSimpArgs false
set_option maxRecDepth 100000

def dropT (f : Fml) (k : Nat) : List Int := f.terms.take k ++ f.terms.drop (k + 1)
def dropR (f : Fml) (k : Nat) : Fml := ⟨f.response, f.intercept, varsU (orT (dropT f k)) f.variables f.variables.length, (dropT f k).map (cmpZ (orT (dropT f k)) f.variables.length)⟩
def dropF (f : Fml) (k : Int) : Fml × Bool := if fmlB f = true ∧ 0 ≤ k ∧ k < f.terms.length then (dropR f k.toNat, true) else (⟨⟨#[]⟩, false, [], []⟩, false)
theorem fml_asc {f : Fml} (h : fmlB f = true) : Asc f.terms := by
  refine asc_of fun i hi => ?_
  unfold fmlB at h
  simp only [Bool.and_eq_true] at h
  have := allB_iff.1 h.2.2.2.2.1 (i + 1) hi
  unfold fmlT at this
  simp only [Bool.and_eq_true, Bool.or_eq_true, decide_eq_true_eq, Nat.add_sub_cancel] at this
  rcases this.2 with h | h
  · omega
  · exact h
theorem fml_rng {f : Fml} (h : fmlB f = true) {i : Nat} (hi : i < f.terms.length) : 0 ≤ f.terms.getD i default ∧ (f.terms.getD i default).toNat < 2 ^ f.variables.length := by
  unfold fmlB at h
  simp only [Bool.and_eq_true] at h
  have := allB_iff.1 h.2.2.2.2.1 i hi
  unfold fmlT at this
  simp only [Bool.and_eq_true, decide_eq_true_eq] at this
  omega
theorem dropT_get {f : Fml} {k : Nat} (hk : k < f.terms.length) {P : Int → Prop} (h : ∀ i, i < f.terms.length → P (f.terms.getD i default)) : ∀ i, i < (dropT f k).length → P ((dropT f k).getD i default) := fun i hi => by
  have := cut_len hk
  unfold dropT at hi ⊢
  rw [cut_getD hk]
  exact h _ (by split <;> omega)
theorem sumOf_bd {α : Type} {f : α → Nat} {c : Nat} : ∀ {l : List α}, (∀ y ∈ l, f y ≤ c) → sumOf f l ≤ l.length * c
  | [], _ => Nat.zero_le _
  | x :: l, h => by
    have h1 := h x (List.mem_cons_self ..)
    have h2 := sumOf_bd (l := l) fun y hy => h y (List.mem_cons_of_mem _ hy)
    rw [List.length_cons, Nat.succ_mul]
    simp only [sumOf]; omega
theorem varsU_mem (u : Nat) (V : List ByteArray) : ∀ i, i ≤ V.length → ∀ y ∈ varsU u V i, y ∈ V
  | 0, _, y, hy => by cases hy
  | i + 1, hi, y, hy => by
    rw [varsU] at hy
    split at hy
    · rcases List.mem_append.1 hy with hy | hy
      · exact varsU_mem u V i (by omega) y hy
      · rw [List.mem_singleton.1 hy]; exact getD_mem (by omega)
    · exact varsU_mem u V i (by omega) y hy
theorem fml_name {f : Fml} (h : fmlB f = true) : f.response.size ≤ 20 ∧ ∀ y ∈ f.variables, y.size ≤ 20 := by
  unfold fmlB at h
  simp only [Bool.and_eq_true] at h
  refine ⟨(nameB_size h.1).2, fun y hy => ?_⟩
  obtain ⟨j, hj, rfl⟩ := List.mem_iff_getElem.1 hy
  have := allB_iff.1 h.2.2.2.1 j hj
  unfold fmlV at this
  simp only [Bool.and_eq_true] at this
  have := nameB_size this.1
  rw [List.getD_eq_getElem?_getD, List.getElem?_eq_getElem hj] at this
  exact this.2
theorem dropF_wt (f : Fml) (k : Int) : wtFml (dropF f k).1 ≤ 1000 ∧ (dropF f k).1.variables.length ≤ 5 ∧ (dropF f k).1.terms.length ≤ 10 := by
  unfold dropF
  split
  · rename_i h
    obtain ⟨h1, h2⟩ := fmlB_10 h.1
    obtain ⟨h3, h4⟩ := fml_name h.1
    have hl : (varsU (orT (dropT f k.toNat)) f.variables f.variables.length).length ≤ 5 := by
      rw [varsU_len]; have := cntU_le (orT (dropT f k.toNat)) f.variables.length; omega
    have hc := cut_len (l := f.terms) (k := k.toNat) (by omega)
    have hs := sumOf_bd (f := ByteArray.size) (c := 20) fun y hy => h4 y (varsU_mem (orT (dropT f k.toNat)) f.variables f.variables.length (Nat.le_refl _) y hy)
    have hc2 : (dropT f k.toNat).length ≤ 10 := by unfold dropT; omega
    unfold wtFml dropR wtSs
    simp only [List.length_map]
    omega
  · decide
set_option maxHeartbeats 4000000 in
theorem specDrop_m (f : Fml) (ok : FmlOk f) (k : Int) : Meets Try.prog 7 [(true, encFml f), (false, [.sc (.int .i64 k)])] [(true, encFml (dropF f k).1, true), (false, [.sc (.bool (dropF f k).2)], true)] := by
  have h1 := specFml_m f ok
  have h2 := l1In_m k 0 ((f.terms.length : Int) - 1)
  by_cases hf : fmlB f = true
  rotate_left
  · have hf : fmlB f = false := by simpa using hf
    have hr : dropF f k = (⟨⟨#[]⟩, false, [], []⟩, false) := by unfold dropF; rw [if_neg (by rw [hf]; simp)]
    rw [hf] at h1
    rw [hr]
    obtain ⟨r, b, V, T⟩ := f
    refine meets_upf Try.func7 u_spec_DropTerm_g rfl ?_; simp only [u_spec_DropTerm_u]
    simp only [encFml, encSs, encZs] at h1 ⊢
    repeat' (first | (with_reducible refine jn_in ?_) | (with_reducible refine cl_ok (by assumption) rfl ?_) | (with_reducible refine cl_okP (by assumption) rfl ?_) | (with_reducible refine br_if (fun hbr => ?_) (fun hbr => ?_)) | (with_reducible refine br_ifn (fun hbr => ?_) (fun hbr => ?_)) | (with_reducible refine br_nb (fun hbr => ?_) (fun hbr => ?_)) | (with_reducible refine br_b (fun hbr => ?_) (fun hbr => ?_)) | simp (disch := first | omega | (simp only [List.length_take, List.length_drop, List.length_append, List.map_cons, List.map_nil, List.length_map, List.length_cons, List.length_nil, List.length_set, List.length_replicate]; omega) | (simp only [List.length_cons, List.length_nil, Nat.zero_add, Nat.reduceAdd])) only [go_sem, ↓reduceIte, Nat.reduceAdd, Int.reduceNeg, Int.reduceAdd, Int.reduceSub, Int.reduceMul, Int.reduceLT, Int.reduceLE, Int.reduceEq, Int.reduceToNat, Nat.reduceBEq, e_sle, e_sge, e_shl1, e_orI, e_andI, e_shr, wrapu, wrap8, tn1, nat1, ix_s, ix_z, st_s, st_z, fl_s, fl_z, fl1_s, fl1_z, map_s, map_z, true_and])
    rfl
  by_cases hk : 0 ≤ k ∧ k < f.terms.length
  rotate_left
  · have hr : dropF f k = (⟨⟨#[]⟩, false, [], []⟩, false) := by unfold dropF; rw [if_neg fun h => hk h.2]
    have hd : decide (0 ≤ k ∧ k ≤ (f.terms.length : Int) - 1) = false := decide_eq_false (by omega)
    have ht := (fmlB_10 hf).1
    rw [hf] at h1
    rw [hd] at h2
    rw [hr]
    obtain ⟨r, b, V, T⟩ := f
    simp only at ht hk hd h2
    refine meets_upf Try.func7 u_spec_DropTerm_g rfl ?_; simp only [u_spec_DropTerm_u]
    simp only [encFml, encSs, encZs] at h1 h2 ⊢
    repeat' (first | (with_reducible refine jn_in ?_) | (with_reducible refine cl_ok (by assumption) rfl ?_) | (with_reducible refine cl_okP (by assumption) rfl ?_) | (with_reducible refine br_if (fun hbr => ?_) (fun hbr => ?_)) | (with_reducible refine br_ifn (fun hbr => ?_) (fun hbr => ?_)) | (with_reducible refine br_nb (fun hbr => ?_) (fun hbr => ?_)) | (with_reducible refine br_b (fun hbr => ?_) (fun hbr => ?_)) | simp (disch := first | omega | (simp only [List.length_take, List.length_drop, List.length_append, List.map_cons, List.map_nil, List.length_map, List.length_cons, List.length_nil, List.length_set, List.length_replicate]; omega) | (simp only [List.length_cons, List.length_nil, Nat.zero_add, Nat.reduceAdd])) only [go_sem, ↓reduceIte, Nat.reduceAdd, Int.reduceNeg, Int.reduceAdd, Int.reduceSub, Int.reduceMul, Int.reduceLT, Int.reduceLE, Int.reduceEq, Int.reduceToNat, Nat.reduceBEq, e_sle, e_sge, e_shl1, e_orI, e_andI, e_shr, wrapu, wrap8, tn1, nat1, ix_s, ix_z, st_s, st_z, fl_s, fl_z, fl1_s, fl1_z, map_s, map_z, true_and])
    all_goals first | omega | rfl
  have hr : dropF f k = (dropR f k.toNat, true) := by unfold dropF; rw [if_pos ⟨hf, hk⟩]
  have hd : decide (0 ≤ k ∧ k ≤ (f.terms.length : Int) - 1) = true := decide_eq_true (by omega)
  obtain ⟨b1, b2⟩ := fmlB_10 hf
  obtain ⟨q, rfl⟩ := Int.eq_ofNat_of_zero_le hk.1
  simp only [Int.toNat_natCast] at hr
  have hq : q < f.terms.length := by omega
  have h3 := l21Without_m 3 f.terms (f.terms.getD q default) (by omega)
  rw [without_cut (fml_asc hf) hq] at h3
  have hl := cut_len hq
  have h4 := specTidy_m f.variables (dropT f q) b2 (by unfold dropT; omega) (dropT_get (P := fun x => 0 ≤ x ∧ x < 32) hq fun i hi => by have := fmlB_T' hf hi; exact ⟨by omega, by omega⟩)
  rw [hf] at h1
  rw [hd] at h2
  rw [hr]
  unfold dropR
  have e : dropT f q = f.terms.take q ++ f.terms.drop (q + 1) := rfl
  rw [← e] at h3
  generalize dropT f q = L at *
  obtain ⟨r, b, V, T⟩ := f
  simp only at *
  refine meets_upf Try.func7 u_spec_DropTerm_g rfl ?_; simp only [u_spec_DropTerm_u]
  simp only [encFml, encSs, encZs] at h1 h2 h3 h4 ⊢
  repeat' (first | (with_reducible refine jn_in ?_) | (with_reducible refine cl_ok (by assumption) rfl ?_) | (with_reducible refine cl_okP (by assumption) rfl ?_) | (with_reducible refine br_if (fun hbr => ?_) (fun hbr => ?_)) | (with_reducible refine br_ifn (fun hbr => ?_) (fun hbr => ?_)) | (with_reducible refine br_nb (fun hbr => ?_) (fun hbr => ?_)) | (with_reducible refine br_b (fun hbr => ?_) (fun hbr => ?_)) | simp (disch := first | omega | (simp only [List.length_take, List.length_drop, List.length_append, List.map_cons, List.map_nil, List.length_map, List.length_cons, List.length_nil, List.length_set, List.length_replicate]; omega) | (simp only [List.length_cons, List.length_nil, Nat.zero_add, Nat.reduceAdd])) only [go_sem, ↓reduceIte, Nat.reduceAdd, Int.reduceNeg, Int.reduceAdd, Int.reduceSub, Int.reduceMul, Int.reduceLT, Int.reduceLE, Int.reduceEq, Int.reduceToNat, Nat.reduceBEq, e_sle, e_sge, e_shl1, e_orI, e_andI, e_shr, wrapu, wrap8, tn1, nat1, ix_s, ix_z, st_s, st_z, fl_s, fl_z, fl1_s, fl1_z, map_s, map_z, true_and])
  all_goals first | omega | rfl
set_option maxHeartbeats 4000000 in
theorem implDrop_m (f : Fml) (ok : FmlOk f) (k : Int) : Meets Try.prog 9 [(true, encFml f), (false, [.sc (.int .i64 k)])] [(true, encFml (dropF f k).1, true), (false, [.sc (.bool (dropF f k).2)], true)] := by
  have h1 := implFml_m f ok
  by_cases hf : fmlB f = true
  rotate_left
  · have hf : fmlB f = false := by simpa using hf
    have hr : dropF f k = (⟨⟨#[]⟩, false, [], []⟩, false) := by unfold dropF; rw [if_neg (by rw [hf]; simp)]
    rw [hf] at h1
    rw [hr]
    obtain ⟨r, b, V, T⟩ := f
    refine meets_upf Try.func9 u_impl_DropTerm_g rfl ?_; simp only [u_impl_DropTerm_u]
    simp only [encFml, encSs, encZs] at h1 ⊢
    repeat' (first | (with_reducible refine jn_in ?_) | (with_reducible refine cl_ok (by assumption) rfl ?_) | (with_reducible refine cl_okP (by assumption) rfl ?_) | (with_reducible refine br_if (fun hbr => ?_) (fun hbr => ?_)) | (with_reducible refine br_ifn (fun hbr => ?_) (fun hbr => ?_)) | (with_reducible refine br_nb (fun hbr => ?_) (fun hbr => ?_)) | (with_reducible refine br_b (fun hbr => ?_) (fun hbr => ?_)) | simp (disch := first | omega | (simp only [List.length_take, List.length_drop, List.length_append, List.map_cons, List.map_nil, List.length_map, List.length_cons, List.length_nil, List.length_set, List.length_replicate]; omega) | (simp only [List.length_cons, List.length_nil, Nat.zero_add, Nat.reduceAdd])) only [go_sem, ↓reduceIte, Nat.reduceAdd, Int.reduceNeg, Int.reduceAdd, Int.reduceSub, Int.reduceMul, Int.reduceLT, Int.reduceLE, Int.reduceEq, Int.reduceToNat, Nat.reduceBEq, e_sle, e_sge, e_shl1, e_orI, e_andI, e_shr, wrapu, wrap8, tn1, nat1, ix_s, ix_z, st_s, st_z, fl_s, fl_z, fl1_s, fl1_z, map_s, map_z, true_and])
    rfl
  have ht := (fmlB_10 hf).1
  by_cases hk : 0 ≤ k ∧ k < f.terms.length
  rotate_left
  · have hr : dropF f k = (⟨⟨#[]⟩, false, [], []⟩, false) := by unfold dropF; rw [if_neg fun h => hk h.2]
    rw [hf] at h1
    rw [hr]
    obtain ⟨r, b, V, T⟩ := f
    simp only at ht hk
    refine meets_upf Try.func9 u_impl_DropTerm_g rfl ?_; simp only [u_impl_DropTerm_u]
    simp only [encFml, encSs, encZs] at h1 ⊢
    repeat' (first | (with_reducible refine jn_in ?_) | (with_reducible refine cl_ok (by assumption) rfl ?_) | (with_reducible refine cl_okP (by assumption) rfl ?_) | (with_reducible refine br_if (fun hbr => ?_) (fun hbr => ?_)) | (with_reducible refine br_ifn (fun hbr => ?_) (fun hbr => ?_)) | (with_reducible refine br_nb (fun hbr => ?_) (fun hbr => ?_)) | (with_reducible refine br_b (fun hbr => ?_) (fun hbr => ?_)) | simp (disch := first | omega | (simp only [List.length_take, List.length_drop, List.length_append, List.map_cons, List.map_nil, List.length_map, List.length_cons, List.length_nil, List.length_set, List.length_replicate]; omega) | (simp only [List.length_cons, List.length_nil, Nat.zero_add, Nat.reduceAdd])) only [go_sem, ↓reduceIte, Nat.reduceAdd, Int.reduceNeg, Int.reduceAdd, Int.reduceSub, Int.reduceMul, Int.reduceLT, Int.reduceLE, Int.reduceEq, Int.reduceToNat, Nat.reduceBEq, e_sle, e_sge, e_shl1, e_orI, e_andI, e_shr, wrapu, wrap8, tn1, nat1, ix_s, ix_z, st_s, st_z, fl_s, fl_z, fl1_s, fl1_z, map_s, map_z, true_and])
    all_goals first | omega | rfl
  have hr : dropF f k = (dropR f k.toNat, true) := by unfold dropF; rw [if_pos ⟨hf, hk⟩]
  obtain ⟨b1, b2⟩ := fmlB_10 hf
  obtain ⟨q, rfl⟩ := Int.eq_ofNat_of_zero_le hk.1
  simp only [Int.toNat_natCast] at hr
  have hq : q < f.terms.length := by omega
  have hl := cut_len hq
  have h4 := implNum_m f.response f.intercept f.variables (dropT f q) b2 (by unfold dropT; omega) (dropT_get (P := fun x => 0 ≤ x ∧ x < 32) hq fun i hi => by have := fmlB_T' hf hi; exact ⟨by omega, by omega⟩)
  have hasc : Asc (dropT f q) := asc_cut (fml_asc hf) hq
  rw [asc_id (asc_cmp (n := f.variables.length) hasc (dropT_get (P := fun x => 0 ≤ x ∧ x.toNat < 2 ^ f.variables.length) hq fun i hi => fml_rng hf hi))] at h4
  rw [hf] at h1
  rw [hr]
  unfold dropR
  have e : dropT f q = f.terms.take q ++ f.terms.drop (q + 1) := rfl
  clear hasc
  have hLl : (dropT f q).length = f.terms.length - 1 := by unfold dropT; omega
  have ed : (f.terms.drop (q + 1)).take (f.terms.length - (q + 1)) = f.terms.drop (q + 1) := List.take_of_length_le (by rw [List.length_drop]; omega)
  generalize hL : dropT f q = L at *
  subst e
  obtain ⟨r, b, V, T⟩ := f
  simp only at *
  refine meets_upf Try.func9 u_impl_DropTerm_g rfl ?_; simp only [u_impl_DropTerm_u]
  simp only [encFml, encSs, encZs] at h1 h4 ⊢
  repeat' (first | (with_reducible refine jn_in ?_) | (with_reducible refine cl_ok (by assumption) rfl ?_) | (with_reducible refine cl_okP (by assumption) rfl ?_) | (with_reducible refine br_if (fun hbr => ?_) (fun hbr => ?_)) | (with_reducible refine br_ifn (fun hbr => ?_) (fun hbr => ?_)) | (with_reducible refine br_nb (fun hbr => ?_) (fun hbr => ?_)) | (with_reducible refine br_b (fun hbr => ?_) (fun hbr => ?_)) | simp (disch := first | omega | (simp only [List.length_take, List.length_drop, List.length_append, List.map_cons, List.map_nil, List.length_map, List.length_cons, List.length_nil, List.length_set, List.length_replicate]; omega) | (simp only [List.length_cons, List.length_nil, Nat.zero_add, Nat.reduceAdd])) only [go_sem, ↓reduceIte, Nat.reduceAdd, Int.reduceNeg, Int.reduceAdd, Int.reduceSub, Int.reduceMul, Int.reduceLT, Int.reduceLE, Int.reduceEq, Int.reduceToNat, Nat.reduceBEq, e_sle, e_sge, e_shl1, e_orI, e_andI, e_shr, wrapu, wrap8, tn1, nat1, ix_s, ix_z, st_s, st_z, fl_s, fl_z, fl1_s, fl1_z, map_s, map_z, true_and])
  all_goals first | omega | rfl
end Go.Proofs.Ytgmpajfhjnojiaa
