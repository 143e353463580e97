/- joinTexts, termNames, l21Term, FormatFormula (impl and spec). -/
import Derived.Test.YtbddjkbbnflnkaaUFmf
import Derived.Test.YtbddjkbbnflnkaaHier
import Derived.Test.YtbddjkbbnflnkaaNam
namespace Go.Proofs.Ytbddjkbbnflnkaa
open Go.RowKit
set_option linter.unusedVariables false
set_option linter.unusedSimpArgs false
set_option maxRecDepth 100000

def joinP (l : List ByteArray) (sep : ByteArray) : Nat → ByteArray
  | 0 => ⟨#[]⟩
  | i + 1 => (if i = 0 then joinP l sep i else joinP l sep i ++ sep) ++ l.getD i default
def joinB (l : List ByteArray) (sep : ByteArray) : ByteArray := joinP l sep l.length
theorem joinP_size {l : List ByteArray} {sep : ByteArray} {m : Nat} (hl : ∀ x ∈ l, x.size ≤ m) : ∀ i, (joinP l sep i).size ≤ i * (m + sep.size)
  | 0 => Nat.zero_le _
  | i + 1 => by
    have h1 := joinP_size (sep := sep) hl i
    have h2 := getD_le hl i
    rw [Nat.succ_mul]
    unfold joinP
    rw [ByteArray.size_append]
    split
    · omega
    · rw [ByteArray.size_append]; omega
theorem joinP_app {l : List ByteArray} {y sep : ByteArray} : ∀ i, i ≤ l.length → joinP (l ++ [y]) sep i = joinP l sep i
  | 0, _ => rfl
  | i + 1, h => by
    unfold joinP
    rw [joinP_app i (by omega)]
    have : (l ++ [y]).getD i default = l.getD i default := by
      rw [List.getD_eq_getElem?_getD, List.getD_eq_getElem?_getD, List.getElem?_append_left (by omega)]
    rw [this]
theorem joinB_snoc (l : List ByteArray) (y sep : ByteArray) : joinB (l ++ [y]) sep = (if l = [] then joinB l sep else joinB l sep ++ sep) ++ y := by
  unfold joinB
  rw [List.length_append, List.length_singleton]
  conv => lhs; unfold joinP
  rw [joinP_app _ (Nat.le_refl _)]
  have : (l ++ [y]).getD l.length default = y := by
    rw [List.getD_eq_getElem?_getD, List.getElem?_append_right (Nat.le_refl _)]; simp
  rw [this]
  cases l with
  | nil => rfl
  | cons a l => rfl
theorem joinTexts_m (t : Nat) (l : List ByteArray) (sep : ByteArray) (hl : l.length ≤ 10000000) (hx : ∀ x ∈ l, x.size ≤ 10000000) (hs : sep.size ≤ 10000000) : Meets Try.prog 89 [(false, [.sl t 1 (l.map encS)]), (false, [.sc (.string sep)])] [(false, [.sc (.string (joinB l sep))], true)] := by
  refine meets_upf Try.func89 u_impl_joinTexts_g rfl ?_; simp only [u_impl_joinTexts_u]
  simp (disch := first | omega | (simp only [List.length_take, List.length_drop, List.length_append, List.map_cons, List.map_nil, List.length_map, List.length_cons, List.length_nil, List.length_set, List.length_replicate]; omega) | (simp only [List.length_cons, List.length_nil, Nat.zero_add, Nat.reduceAdd])) only [go_sem, ↓reduceIte, Nat.reduceAdd, Int.reduceNeg, Int.reduceAdd, Int.reduceSub, Int.reduceMul, Int.reduceLT, Int.reduceLE, Int.reduceEq, Int.reduceToNat, Nat.reduceBEq, e_sle, e_sge, e_shl1, e_orI, e_andI, e_shr, wrapu, wrap8, tn1, nat1, ix_s, ix_z, st_s, st_z, fl_s, fl_z, fl1_s, fl1_z, map_s, map_z, true_and]
  refine lp_n l.length (fun i => [.sc (.int .i64 i), .sc (.string (joinP l sep i))]) rfl fun i hi => ?_
  have h1 := joinP_size (sep := sep) hx i
  have h2 := getD_le hx i
  have h3 : i * (10000000 + sep.size) ≤ 10000000 * 20000000 := Nat.mul_le_mul (by omega) (by omega)
  have e1 : (joinP l sep i).size + sep.size ≤ maxLen := by unfold maxLen; omega
  have e2 : (joinP l sep i).size + (l.getD i default).size ≤ maxLen := by unfold maxLen; omega
  have e3 : ((joinP l sep i) ++ sep).size + (l.getD i default).size ≤ maxLen := by rw [ByteArray.size_append]; unfold maxLen; omega
  have hj : joinP l sep (i + 1) = (if i = 0 then joinP l sep i else joinP l sep i ++ sep) ++ l.getD i default := rfl
  simp only [u_impl_joinTexts_l1]
  repeat' (first | (with_reducible refine jn_in ?_) | (with_reducible refine cl_ok (by assumption) rfl ?_) | (with_reducible refine br_if (fun hbr => ?_) (fun hbr => ?_)) | (with_reducible refine br_ifn (fun hbr => ?_) (fun hbr => ?_)) | (with_reducible refine br_nb (fun hbr => ?_) (fun hbr => ?_)) | (with_reducible refine br_b (fun hbr => ?_) (fun hbr => ?_)) | simp (disch := first | omega | (simp only [List.length_take, List.length_drop, List.length_append, List.map_cons, List.map_nil, List.length_map, List.length_cons, List.length_nil, List.length_set, List.length_replicate]; omega) | (simp only [List.length_cons, List.length_nil, Nat.zero_add, Nat.reduceAdd])) only [go_sem, ↓reduceIte, Nat.reduceAdd, Int.reduceNeg, Int.reduceAdd, Int.reduceSub, Int.reduceMul, Int.reduceLT, Int.reduceLE, Int.reduceEq, Int.reduceToNat, Nat.reduceBEq, e_sle, e_sge, e_shl1, e_orI, e_andI, e_shr, wrapu, wrap8, tn1, nat1, ix_s, ix_z, st_s, st_z, fl_s, fl_z, fl1_s, fl1_z, map_s, map_z, e_cat e1, e_cat e2, e_cat e3, u_impl_joinTexts_j0])
  · exact ⟨by rw [hj, if_neg (by omega)], by omega⟩
  · exact ⟨by rw [hj, if_pos (by omega)], by omega⟩
  · obtain rfl : i = l.length := by omega
    rfl

def bitB (x i : Nat) : Bool := decide (x / 2 ^ i % 2 = 1)
def termL (vs : List ByteArray) (x : Nat) : Nat → List ByteArray
  | 0 => []
  | i + 1 => if bitB x i = true then termL vs x i ++ [vs.getD i default] else termL vs x i
theorem termL_len (vs : List ByteArray) (x : Nat) : ∀ i, (termL vs x i).length ≤ i
  | 0 => Nat.le_refl _
  | i + 1 => by
    have := termL_len vs x i
    unfold termL; split
    · simp; omega
    · omega
theorem termL_mem {vs : List ByteArray} {x : Nat} {p : ByteArray → Prop} : ∀ {i}, i ≤ vs.length → (∀ s ∈ vs, p s) → ∀ s ∈ termL vs x i, p s
  | 0, _, _ => by simp [termL]
  | i + 1, hi, h => by
    have ih := termL_mem (x := x) (i := i) (by omega) h
    unfold termL; split
    · intro s hs
      rcases List.mem_append.1 hs with hs | hs
      · exact ih s hs
      · simp at hs; subst hs
        rw [List.getElem?_eq_getElem (by omega)]
        exact h _ (List.getElem_mem _)
    · exact ih
theorem termNames_m (f : Fml) (x : Nat) (hx : x < 32) (hv : f.variables.length ≤ 5) : Meets Try.prog 88 [(true, encFml f), (false, [.sc (.int .i64 x)])] [(false, [encSs (termL f.variables x f.variables.length)], true)] := by
  refine meets_upf Try.func88 u_impl_termNames_g rfl ?_; simp only [u_impl_termNames_u]
  simp only [encFml, encSs]
  simp (disch := first | omega | (simp only [List.length_take, List.length_drop, List.length_append, List.map_cons, List.map_nil, List.length_map, List.length_cons, List.length_nil, List.length_set, List.length_replicate]; omega) | (simp only [List.length_cons, List.length_nil, Nat.zero_add, Nat.reduceAdd])) only [go_sem, ↓reduceIte, Nat.reduceAdd, Int.reduceNeg, Int.reduceAdd, Int.reduceSub, Int.reduceMul, Int.reduceLT, Int.reduceLE, Int.reduceEq, Int.reduceToNat, Nat.reduceBEq, e_sle, e_sge, e_shl1, e_orI, e_andI, e_shr, wrapu, wrap8, tn1, nat1, ix_s, ix_z, st_s, st_z, fl_s, fl_z, fl1_s, fl1_z, map_s, map_z, true_and]
  refine lp_n f.variables.length (fun i => [.sc (.int .i64 i), .sl 9 1 ((termL f.variables x i).map encS)]) rfl fun i hi => ?_
  have h1 := termL_len f.variables x i
  have ha := @e_and false (x / 2 ^ i) 1 (by have := Nat.div_le_self x (2 ^ i); omega)
  simp only [Int.natCast_one, Nat.and_one_is_mod] at ha
  have ht : termL f.variables x (i + 1) = if bitB x i = true then termL f.variables x i ++ [f.variables.getD i default] else termL f.variables x i := rfl
  unfold bitB at ht
  simp only [u_impl_termNames_l1]
  repeat' (first | (with_reducible refine jn_in ?_) | (with_reducible refine cl_ok (by assumption) rfl ?_) | (with_reducible refine br_if (fun hbr => ?_) (fun hbr => ?_)) | (with_reducible refine br_ifn (fun hbr => ?_) (fun hbr => ?_)) | (with_reducible refine br_nb (fun hbr => ?_) (fun hbr => ?_)) | (with_reducible refine br_b (fun hbr => ?_) (fun hbr => ?_)) | simp (disch := first | omega | (simp only [List.length_take, List.length_drop, List.length_append, List.map_cons, List.map_nil, List.length_map, List.length_cons, List.length_nil, List.length_set, List.length_replicate]; omega) | (simp only [List.length_cons, List.length_nil, Nat.zero_add, Nat.reduceAdd])) only [go_sem, ↓reduceIte, Nat.reduceAdd, Int.reduceNeg, Int.reduceAdd, Int.reduceSub, Int.reduceMul, Int.reduceLT, Int.reduceLE, Int.reduceEq, Int.reduceToNat, Nat.reduceBEq, e_sle, e_sge, e_shl1, e_orI, e_andI, e_shr, wrapu, wrap8, tn1, nat1, ix_s, ix_z, st_s, st_z, fl_s, fl_z, fl1_s, fl1_z, map_s, map_z, ha, u_impl_termNames_j0])
  · exact ⟨by rw [ht, if_pos (by rw [decide_eq_true_eq]; omega)], by omega⟩
  · exact ⟨by rw [ht, if_neg (by rw [decide_eq_true_eq]; omega)], by omega⟩
  · obtain rfl : i = f.variables.length := by omega
    rfl

def termS (f : Fml) (x i : Nat) : ByteArray := joinB ((termL f.variables x i).map fmtName) ⟨#[58]⟩
theorem termS_succ (f : Fml) (x i : Nat) : termS f x (i + 1) = if bitB x i = true then (if termL f.variables x i = [] then termS f x i else termS f x i ++ ⟨#[58]⟩) ++ fmtName (f.variables.getD i default) else termS f x i := by
  unfold termS
  conv => lhs; unfold termL
  split
  · rw [List.map_append, List.map_singleton, joinB_snoc]
    cases termL f.variables x i <;> rfl
  · rfl
theorem map_le {l : List ByteArray} : ∀ x ∈ l.map fmtName, x.size ≤ 22 := by
  intro x hx
  obtain ⟨y, _, rfl⟩ := List.mem_map.1 hx
  exact fmtName_size y
theorem termS_size (f : Fml) (x i : Nat) (h : i ≤ 5) : (termS f x i).size ≤ 115 := by
  unfold termS joinB
  have h1 := joinP_size (sep := ⟨#[58]⟩) (map_le (l := termL f.variables x i)) ((termL f.variables x i).map fmtName).length
  have h2 := termL_len f.variables x i
  have e : (⟨#[58]⟩ : ByteArray).size = 1 := rfl
  rw [List.length_map, e] at h1
  have h3 : (termL f.variables x i).length * (22 + 1) ≤ 5 * 23 := Nat.mul_le_mul (by omega) (by omega)
  rw [List.length_map]; omega
theorem ba_size0 {s : ByteArray} : s = ⟨#[]⟩ ↔ s.size = 0 := by
  constructor
  · rintro rfl; rfl
  · intro h
    obtain ⟨a⟩ := s
    have : a.size = 0 := h
    have := Array.eq_empty_of_size_eq_zero this
    subst this; rfl
theorem termS_empty {f : Fml} {x i : Nat} (hi : i ≤ f.variables.length) (hn : ∀ s ∈ f.variables, nameB s = true) : termS f x i = ⟨#[]⟩ ↔ termL f.variables x i = [] := by
  have hm := termL_mem (x := x) (p := fun s => nameB s = true) hi hn
  unfold termS
  generalize termL f.variables x i = l at hm
  rcases List.eq_nil_or_concat l with rfl | ⟨l', y, rfl⟩
  · simp [joinB, joinP]
  · constructor
    · intro h
      rw [List.concat_eq_append, List.map_append, List.map_singleton, joinB_snoc] at h
      have h1 := congrArg ByteArray.size h
      rw [ByteArray.size_append] at h1
      have h2 := fmtName_pos (hm y (by simp))
      have e : (⟨#[]⟩ : ByteArray).size = 0 := rfl
      omega
    · intro h; simp at h
theorem l21Term_m (f : Fml) (x : Nat) (hx : x < 32) (hv : f.variables.length ≤ 5) (hn : ∀ s ∈ f.variables, nameB s = true) : Meets Try.prog 86 [(true, encFml f), (false, [.sc (.int .i64 x)]), (false, [.sc (.string ⟨#[58]⟩)])] [(false, [.sc (.string (termS f x f.variables.length))], true)] := by
  have hF := fun i => specFmtName_m (f.variables.getD i default) (getD_le (m := 100000000000) (fun s hs => by have := nameB_size (hn s hs); omega) i)
  refine meets_upf Try.func86 u_spec_l21Term_g rfl ?_; simp only [u_spec_l21Term_u]
  simp only [encFml, encSs]
  simp (disch := first | omega | (simp only [List.length_take, List.length_drop, List.length_append, List.map_cons, List.map_nil, List.length_map, List.length_cons, List.length_nil, List.length_set, List.length_replicate]; omega) | (simp only [List.length_cons, List.length_nil, Nat.zero_add, Nat.reduceAdd])) only [go_sem, ↓reduceIte, Nat.reduceAdd, Int.reduceNeg, Int.reduceAdd, Int.reduceSub, Int.reduceMul, Int.reduceLT, Int.reduceLE, Int.reduceEq, Int.reduceToNat, Nat.reduceBEq, e_sle, e_sge, e_shl1, e_orI, e_andI, e_shr, wrapu, wrap8, tn1, nat1, ix_s, ix_z, st_s, st_z, fl_s, fl_z, fl1_s, fl1_z, map_s, map_z, true_and]
  refine lp_n f.variables.length (fun i => [.sc (.int .i64 i), .sc (.string (termS f x i))]) rfl fun i hi => ?_
  have h1 := termS_size f x i (by omega)
  have h2 := fmtName_size (f.variables.getD i default)
  have ha := @e_and false (x / 2 ^ i) 1 (by have := Nat.div_le_self x (2 ^ i); omega)
  simp only [Int.natCast_one, Nat.and_one_is_mod] at ha
  have ht := termS_succ f x i
  have he := termS_empty (x := x) hi hn
  unfold bitB at ht
  have e : (⟨#[58]⟩ : ByteArray).size = 1 := rfl
  have e1 : (termS f x i).size + (⟨#[58]⟩ : ByteArray).size ≤ maxLen := by unfold maxLen; omega
  have e2 : (termS f x i).size + (fmtName (f.variables.getD i default)).size ≤ maxLen := by unfold maxLen; omega
  have e3 : (termS f x i ++ ⟨#[58]⟩).size + (fmtName (f.variables.getD i default)).size ≤ maxLen := by rw [ByteArray.size_append]; unfold maxLen; omega
  have hFi := hF i
  simp only [u_spec_l21Term_l1]
  repeat' (first | (with_reducible refine jn_in ?_) | (with_reducible refine cl_ok (by assumption) rfl ?_) | (with_reducible refine br_if (fun hbr => ?_) (fun hbr => ?_)) | (with_reducible refine br_ifn (fun hbr => ?_) (fun hbr => ?_)) | (with_reducible refine br_nb (fun hbr => ?_) (fun hbr => ?_)) | (with_reducible refine br_b (fun hbr => ?_) (fun hbr => ?_)) | simp (disch := first | omega | (simp only [List.length_take, List.length_drop, List.length_append, List.map_cons, List.map_nil, List.length_map, List.length_cons, List.length_nil, List.length_set, List.length_replicate]; omega) | (simp only [List.length_cons, List.length_nil, Nat.zero_add, Nat.reduceAdd])) only [go_sem, ↓reduceIte, Nat.reduceAdd, Int.reduceNeg, Int.reduceAdd, Int.reduceSub, Int.reduceMul, Int.reduceLT, Int.reduceLE, Int.reduceEq, Int.reduceToNat, Nat.reduceBEq, e_sle, e_sge, e_shl1, e_orI, e_andI, e_shr, wrapu, wrap8, tn1, nat1, ix_s, ix_z, st_s, st_z, fl_s, fl_z, fl1_s, fl1_z, map_s, map_z, ha, e_cat e1, e_cat e2, e_cat e3, u_spec_l21Term_j0])
  · exact ⟨by rw [ht, if_pos (by rw [decide_eq_true_eq]; omega), if_pos (he.1 ‹_›)], by omega⟩
  · exact ⟨by rw [ht, if_pos (by rw [decide_eq_true_eq]; omega), if_neg (fun h => absurd (he.2 h) ‹_›)], by omega⟩
  · exact ⟨by rw [ht, if_neg (by rw [decide_eq_true_eq]; omega)], by omega⟩
  · obtain rfl : i = f.variables.length := by omega
    rfl

def headS (f : Fml) : ByteArray := fmtName f.response ++ (if f.intercept = true then ⟨#[32, 126, 32, 49]⟩ else ⟨#[32, 126, 32, 48]⟩)
def fmtP (f : Fml) : Nat → ByteArray
  | 0 => headS f
  | i + 1 => (fmtP f i ++ ⟨#[32, 43, 32]⟩) ++ termS f (f.terms.getD i default).toNat f.variables.length
def fmtF (f : Fml) : ByteArray := if fmlB f = true then fmtP f f.terms.length else ⟨#[]⟩
theorem fmtP_size {f : Fml} (hv : f.variables.length ≤ 5) : ∀ i, (fmtP f i).size ≤ 26 + i * 118
  | 0 => by
    unfold fmtP headS
    rw [ByteArray.size_append]
    have := fmtName_size f.response
    split
    · have e : (⟨#[32, 126, 32, 49]⟩ : ByteArray).size = 4 := rfl
      omega
    · have e : (⟨#[32, 126, 32, 48]⟩ : ByteArray).size = 4 := rfl
      omega
  | i + 1 => by
    have := fmtP_size hv i
    have h2 := termS_size f (f.terms.getD i default).toNat f.variables.length hv
    have e : (⟨#[32, 43, 32]⟩ : ByteArray).size = 3 := rfl
    unfold fmtP
    rw [ByteArray.size_append, ByteArray.size_append, Nat.succ_mul]; omega
theorem fmlB_names {f : Fml} (h : fmlB f = true) : ∀ s ∈ f.variables, nameB s = true := by
  unfold fmlB at h
  simp only [Bool.and_eq_true, decide_eq_true_eq] at h
  intro s hs
  obtain ⟨i, hi, rfl⟩ := List.mem_iff_getElem.1 hs
  have h1 := allB_iff.1 h.2.2.2.1 i hi
  unfold fmlV at h1
  simp only [Bool.and_eq_true] at h1
  have h2 := h1.1
  rwa [List.getD_eq_getElem?_getD, List.getElem?_eq_getElem hi] at h2
theorem fmlB_resp {f : Fml} (h : fmlB f = true) : nameB f.response = true := by
  unfold fmlB at h
  simp only [Bool.and_eq_true] at h
  exact h.1

set_option maxHeartbeats 2000000 in
theorem specFmtF_m (f : Fml) (ok : FmlOk f) : Meets Try.prog 31 [(true, encFml f)] [(false, [.sc (.string (fmtF f))], true)] := by
  have h1 := specFml_m f ok
  have hP := specFmtName_m f.response (by have := ok.1; omega)
  unfold fmtF
  cases hf : fmlB f
  · rw [hf] at h1
    refine meets_upf Try.func31 u_spec_FormatFormula_g rfl ?_; simp only [u_spec_FormatFormula_u]
    simp only [encFml] at h1 ⊢
    repeat' (first | (with_reducible refine jn_in ?_) | (with_reducible refine cl_ok (by assumption) rfl ?_) | (with_reducible refine br_if (fun hbr => ?_) (fun hbr => ?_)) | (with_reducible refine br_ifn (fun hbr => ?_) (fun hbr => ?_)) | (with_reducible refine br_nb (fun hbr => ?_) (fun hbr => ?_)) | (with_reducible refine br_b (fun hbr => ?_) (fun hbr => ?_)) | simp (disch := first | omega | (simp only [List.length_take, List.length_drop, List.length_append, List.map_cons, List.map_nil, List.length_map, List.length_cons, List.length_nil, List.length_set, List.length_replicate]; omega) | (simp only [List.length_cons, List.length_nil, Nat.zero_add, Nat.reduceAdd])) only [go_sem, ↓reduceIte, Nat.reduceAdd, Int.reduceNeg, Int.reduceAdd, Int.reduceSub, Int.reduceMul, Int.reduceLT, Int.reduceLE, Int.reduceEq, Int.reduceToNat, Nat.reduceBEq, true_and])
    rfl
  rw [hf] at h1
  obtain ⟨b1, b2⟩ := fmlB_10 hf
  have hn := fmlB_names hf
  have hT := fun x hx => l21Term_m f x hx b2 hn
  have hs := fmtName_size f.response
  have e1 : (fmtName f.response).size + (⟨#[32, 126, 32, 48]⟩ : ByteArray).size ≤ maxLen := by
    have e : (⟨#[32, 126, 32, 48]⟩ : ByteArray).size = 4 := rfl
    unfold maxLen; omega
  have e2 : (fmtName f.response).size + (⟨#[32, 126, 32, 49]⟩ : ByteArray).size ≤ maxLen := by
    have e : (⟨#[32, 126, 32, 49]⟩ : ByteArray).size = 4 := rfl
    unfold maxLen; omega
  refine meets_upf Try.func31 u_spec_FormatFormula_g rfl ?_; simp only [u_spec_FormatFormula_u]
  simp only [encFml, encSs, encZs] at h1 hT ⊢
  simp (disch := first | omega | (simp only [List.length_take, List.length_drop, List.length_append, List.map_cons, List.map_nil, List.length_map, List.length_cons, List.length_nil, List.length_set, List.length_replicate]; omega) | (simp only [List.length_cons, List.length_nil, Nat.zero_add, Nat.reduceAdd])) only [go_sem, ↓reduceIte, Nat.reduceAdd, Int.reduceNeg, Int.reduceAdd, Int.reduceSub, Int.reduceMul, Int.reduceLT, Int.reduceLE, Int.reduceEq, Int.reduceToNat, Nat.reduceBEq, e_sle, e_sge, e_shl1, e_orI, e_andI, e_shr, wrapu, wrap8, tn1, nat1, ix_s, ix_z, st_s, st_z, fl_s, fl_z, fl1_s, fl1_z, map_s, map_z, true_and]
  refine cl_ok h1 rfl ?_
  simp (disch := first | omega | (simp only [List.length_take, List.length_drop, List.length_append, List.map_cons, List.map_nil, List.length_map, List.length_cons, List.length_nil, List.length_set, List.length_replicate]; omega) | (simp only [List.length_cons, List.length_nil, Nat.zero_add, Nat.reduceAdd])) only [go_sem, ↓reduceIte, Nat.reduceAdd, Int.reduceNeg, Int.reduceAdd, Int.reduceSub, Int.reduceMul, Int.reduceLT, Int.reduceLE, Int.reduceEq, Int.reduceToNat, Nat.reduceBEq, e_sle, e_sge, e_shl1, e_orI, e_andI, e_shr, wrapu, wrap8, tn1, nat1, ix_s, ix_z, st_s, st_z, fl_s, fl_z, fl1_s, fl1_z, map_s, map_z, true_and]
  refine cl_ok hP rfl ?_
  simp (disch := first | omega | (simp only [List.length_take, List.length_drop, List.length_append, List.map_cons, List.map_nil, List.length_map, List.length_cons, List.length_nil, List.length_set, List.length_replicate]; omega) | (simp only [List.length_cons, List.length_nil, Nat.zero_add, Nat.reduceAdd])) only [go_sem, ↓reduceIte, Nat.reduceAdd, Int.reduceNeg, Int.reduceAdd, Int.reduceSub, Int.reduceMul, Int.reduceLT, Int.reduceLE, Int.reduceEq, Int.reduceToNat, Nat.reduceBEq, e_sle, e_sge, e_shl1, e_orI, e_andI, e_shr, wrapu, wrap8, tn1, nat1, ix_s, ix_z, st_s, st_z, fl_s, fl_z, fl1_s, fl1_z, map_s, map_z, e_cat e1]
  refine jn_eq [.sc (.string (headS f))] ?_ ?_
  · cases hI : f.intercept
    · simp (disch := first | omega | (simp only [List.length_take, List.length_drop, List.length_append, List.map_cons, List.map_nil, List.length_map, List.length_cons, List.length_nil, List.length_set, List.length_replicate]; omega) | (simp only [List.length_cons, List.length_nil, Nat.zero_add, Nat.reduceAdd])) only [go_sem, ↓reduceIte, Nat.reduceAdd, Int.reduceNeg, Int.reduceAdd, Int.reduceSub, Int.reduceMul, Int.reduceLT, Int.reduceLE, Int.reduceEq, Int.reduceToNat, Nat.reduceBEq, e_sle, e_sge, e_shl1, e_orI, e_andI, e_shr, wrapu, wrap8, tn1, nat1, ix_s, ix_z, st_s, st_z, fl_s, fl_z, fl1_s, fl1_z, map_s, map_z, true_and]
      unfold headS; rw [hI]; rfl
    · simp (disch := first | omega | (simp only [List.length_take, List.length_drop, List.length_append, List.map_cons, List.map_nil, List.length_map, List.length_cons, List.length_nil, List.length_set, List.length_replicate]; omega) | (simp only [List.length_cons, List.length_nil, Nat.zero_add, Nat.reduceAdd])) only [go_sem, ↓reduceIte, Nat.reduceAdd, Int.reduceNeg, Int.reduceAdd, Int.reduceSub, Int.reduceMul, Int.reduceLT, Int.reduceLE, Int.reduceEq, Int.reduceToNat, Nat.reduceBEq, e_sle, e_sge, e_shl1, e_orI, e_andI, e_shr, wrapu, wrap8, tn1, nat1, ix_s, ix_z, st_s, st_z, fl_s, fl_z, fl1_s, fl1_z, map_s, map_z, true_and]
      refine cl_ok hP rfl ?_
      simp (disch := first | omega | (simp only [List.length_take, List.length_drop, List.length_append, List.map_cons, List.map_nil, List.length_map, List.length_cons, List.length_nil, List.length_set, List.length_replicate]; omega) | (simp only [List.length_cons, List.length_nil, Nat.zero_add, Nat.reduceAdd])) only [go_sem, ↓reduceIte, Nat.reduceAdd, Int.reduceNeg, Int.reduceAdd, Int.reduceSub, Int.reduceMul, Int.reduceLT, Int.reduceLE, Int.reduceEq, Int.reduceToNat, Nat.reduceBEq, e_sle, e_sge, e_shl1, e_orI, e_andI, e_shr, wrapu, wrap8, tn1, nat1, ix_s, ix_z, st_s, st_z, fl_s, fl_z, fl1_s, fl1_z, map_s, map_z, e_cat e2]
      unfold headS; rw [hI]; rfl
  simp only [u_spec_FormatFormula_j1]
  simp (disch := first | omega | (simp only [List.length_take, List.length_drop, List.length_append, List.map_cons, List.map_nil, List.length_map, List.length_cons, List.length_nil, List.length_set, List.length_replicate]; omega) | (simp only [List.length_cons, List.length_nil, Nat.zero_add, Nat.reduceAdd])) only [go_sem, ↓reduceIte, Nat.reduceAdd, Int.reduceNeg, Int.reduceAdd, Int.reduceSub, Int.reduceMul, Int.reduceLT, Int.reduceLE, Int.reduceEq, Int.reduceToNat, Nat.reduceBEq, e_sle, e_sge, e_shl1, e_orI, e_andI, e_shr, wrapu, wrap8, tn1, nat1, ix_s, ix_z, st_s, st_z, fl_s, fl_z, fl1_s, fl1_z, map_s, map_z, true_and]
  refine lp_n f.terms.length (fun i => [.sc (.int .i64 i), .sc (.string (fmtP f i))]) rfl fun i hi => ?_
  simp only [u_spec_FormatFormula_l0]
  by_cases hlt : i < f.terms.length
  · obtain ⟨b3, b4, -⟩ := fmlB_T' hf hlt
    have h3 := fmtP_size (f := f) b2 i
    have hj : fmtP f (i + 1) = (fmtP f i ++ ⟨#[32, 43, 32]⟩) ++ termS f (f.terms.getD i default).toNat f.variables.length := rfl
    obtain ⟨x, hx⟩ := Int.eq_ofNat_of_zero_le (show 0 ≤ f.terms.getD i default from by omega)
    rw [hx] at hj b3 b4
    simp only [Int.toNat_natCast] at hj
    have h4 := termS_size f x f.variables.length b2
    have e : (⟨#[32, 43, 32]⟩ : ByteArray).size = 3 := rfl
    have e3 : (fmtP f i).size + (⟨#[32, 43, 32]⟩ : ByteArray).size ≤ maxLen := by unfold maxLen; omega
    have e4 : (fmtP f i ++ ⟨#[32, 43, 32]⟩).size + (termS f x f.variables.length).size ≤ maxLen := by rw [ByteArray.size_append]; unfold maxLen; omega
    have hTx := hT x (by omega)
    simp (disch := first | omega | (simp only [List.length_take, List.length_drop, List.length_append, List.map_cons, List.map_nil, List.length_map, List.length_cons, List.length_nil, List.length_set, List.length_replicate]; omega) | (simp only [List.length_cons, List.length_nil, Nat.zero_add, Nat.reduceAdd])) only [go_sem, ↓reduceIte, Nat.reduceAdd, Int.reduceNeg, Int.reduceAdd, Int.reduceSub, Int.reduceMul, Int.reduceLT, Int.reduceLE, Int.reduceEq, Int.reduceToNat, Nat.reduceBEq, e_sle, e_sge, e_shl1, e_orI, e_andI, e_shr, wrapu, wrap8, tn1, nat1, ix_s, ix_z, st_s, st_z, fl_s, fl_z, fl1_s, fl1_z, map_s, map_z, true_and]
    refine br_if (fun hbr => ?_) (fun hbr => absurd hbr (by omega))
    repeat' (first | (with_reducible refine jn_in ?_) | (with_reducible refine cl_ok (by assumption) rfl ?_) | (with_reducible refine br_if (fun hbr => ?_) (fun hbr => ?_)) | (with_reducible refine br_ifn (fun hbr => ?_) (fun hbr => ?_)) | (with_reducible refine br_nb (fun hbr => ?_) (fun hbr => ?_)) | (with_reducible refine br_b (fun hbr => ?_) (fun hbr => ?_)) | simp (disch := first | omega | (simp only [List.length_take, List.length_drop, List.length_append, List.map_cons, List.map_nil, List.length_map, List.length_cons, List.length_nil, List.length_set, List.length_replicate]; omega) | (simp only [List.length_cons, List.length_nil, Nat.zero_add, Nat.reduceAdd])) only [go_sem, ↓reduceIte, Nat.reduceAdd, Int.reduceNeg, Int.reduceAdd, Int.reduceSub, Int.reduceMul, Int.reduceLT, Int.reduceLE, Int.reduceEq, Int.reduceToNat, Nat.reduceBEq, e_sle, e_sge, e_shl1, e_orI, e_andI, e_shr, wrapu, wrap8, tn1, nat1, ix_s, ix_z, st_s, st_z, fl_s, fl_z, fl1_s, fl1_z, map_s, map_z, e_cat e3, e_cat e4, hx])
    exact ⟨by rw [hj], hlt⟩
  · obtain rfl : i = f.terms.length := by omega
    simp (disch := first | omega | (simp only [List.length_take, List.length_drop, List.length_append, List.map_cons, List.map_nil, List.length_map, List.length_cons, List.length_nil, List.length_set, List.length_replicate]; omega) | (simp only [List.length_cons, List.length_nil, Nat.zero_add, Nat.reduceAdd])) only [go_sem, ↓reduceIte, Nat.reduceAdd, Int.reduceNeg, Int.reduceAdd, Int.reduceSub, Int.reduceMul, Int.reduceLT, Int.reduceLE, Int.reduceEq, Int.reduceToNat, Nat.reduceBEq, e_sle, e_sge, e_shl1, e_orI, e_andI, e_shr, wrapu, wrap8, tn1, nat1, ix_s, ix_z, st_s, st_z, fl_s, fl_z, fl1_s, fl1_z, map_s, map_z, true_and]
    refine br_if (fun hbr => absurd hbr (by omega)) (fun hbr => ?_)
    simp (disch := first | omega | (simp only [List.length_take, List.length_drop, List.length_append, List.map_cons, List.map_nil, List.length_map, List.length_cons, List.length_nil, List.length_set, List.length_replicate]; omega) | (simp only [List.length_cons, List.length_nil, Nat.zero_add, Nat.reduceAdd])) only [go_sem, ↓reduceIte, Nat.reduceAdd, Int.reduceNeg, Int.reduceAdd, Int.reduceSub, Int.reduceMul, Int.reduceLT, Int.reduceLE, Int.reduceEq, Int.reduceToNat, Nat.reduceBEq, e_sle, e_sge, e_shl1, e_orI, e_andI, e_shr, wrapu, wrap8, tn1, nat1, ix_s, ix_z, st_s, st_z, fl_s, fl_z, fl1_s, fl1_z, map_s, map_z, true_and]
    rfl
set_option maxHeartbeats 2000000 in
theorem implFmtF_m (f : Fml) (ok : FmlOk f) : Meets Try.prog 32 [(true, encFml f)] [(false, [.sc (.string (fmtF f))], true)] := by
  have h1 := implFml_m f ok
  have hP := implFmtName_m f.response (by have := ok.1; omega)
  unfold fmtF
  cases hf : fmlB f
  · rw [hf] at h1
    refine meets_upf Try.func32 u_impl_FormatFormula_g rfl ?_; simp only [u_impl_FormatFormula_u]
    simp only [encFml] at h1 ⊢
    repeat' (first | (with_reducible refine jn_in ?_) | (with_reducible refine cl_ok (by assumption) rfl ?_) | (with_reducible refine br_if (fun hbr => ?_) (fun hbr => ?_)) | (with_reducible refine br_ifn (fun hbr => ?_) (fun hbr => ?_)) | (with_reducible refine br_nb (fun hbr => ?_) (fun hbr => ?_)) | (with_reducible refine br_b (fun hbr => ?_) (fun hbr => ?_)) | simp (disch := first | omega | (simp only [List.length_take, List.length_drop, List.length_append, List.map_cons, List.map_nil, List.length_map, List.length_cons, List.length_nil, List.length_set, List.length_replicate]; omega) | (simp only [List.length_cons, List.length_nil, Nat.zero_add, Nat.reduceAdd])) only [go_sem, ↓reduceIte, Nat.reduceAdd, Int.reduceNeg, Int.reduceAdd, Int.reduceSub, Int.reduceMul, Int.reduceLT, Int.reduceLE, Int.reduceEq, Int.reduceToNat, Nat.reduceBEq, true_and])
    rfl
  rw [hf] at h1
  obtain ⟨b1, b2⟩ := fmlB_10 hf
  have hn := fmlB_names hf
  have hT := fun x hx => termNames_m f x hx b2
  have hs := fmtName_size f.response
  have e1 : (fmtName f.response).size + (⟨#[32, 126, 32, 48]⟩ : ByteArray).size ≤ maxLen := by
    have e : (⟨#[32, 126, 32, 48]⟩ : ByteArray).size = 4 := rfl
    unfold maxLen; omega
  have e2 : (fmtName f.response).size + (⟨#[32, 126, 32, 49]⟩ : ByteArray).size ≤ maxLen := by
    have e : (⟨#[32, 126, 32, 49]⟩ : ByteArray).size = 4 := rfl
    unfold maxLen; omega
  refine meets_upf Try.func32 u_impl_FormatFormula_g rfl ?_; simp only [u_impl_FormatFormula_u]
  simp only [encFml, encSs, encZs] at h1 hT ⊢
  simp (disch := first | omega | (simp only [List.length_take, List.length_drop, List.length_append, List.map_cons, List.map_nil, List.length_map, List.length_cons, List.length_nil, List.length_set, List.length_replicate]; omega) | (simp only [List.length_cons, List.length_nil, Nat.zero_add, Nat.reduceAdd])) only [go_sem, ↓reduceIte, Nat.reduceAdd, Int.reduceNeg, Int.reduceAdd, Int.reduceSub, Int.reduceMul, Int.reduceLT, Int.reduceLE, Int.reduceEq, Int.reduceToNat, Nat.reduceBEq, e_sle, e_sge, e_shl1, e_orI, e_andI, e_shr, wrapu, wrap8, tn1, nat1, ix_s, ix_z, st_s, st_z, fl_s, fl_z, fl1_s, fl1_z, map_s, map_z, true_and]
  refine cl_ok h1 rfl ?_
  simp (disch := first | omega | (simp only [List.length_take, List.length_drop, List.length_append, List.map_cons, List.map_nil, List.length_map, List.length_cons, List.length_nil, List.length_set, List.length_replicate]; omega) | (simp only [List.length_cons, List.length_nil, Nat.zero_add, Nat.reduceAdd])) only [go_sem, ↓reduceIte, Nat.reduceAdd, Int.reduceNeg, Int.reduceAdd, Int.reduceSub, Int.reduceMul, Int.reduceLT, Int.reduceLE, Int.reduceEq, Int.reduceToNat, Nat.reduceBEq, e_sle, e_sge, e_shl1, e_orI, e_andI, e_shr, wrapu, wrap8, tn1, nat1, ix_s, ix_z, st_s, st_z, fl_s, fl_z, fl1_s, fl1_z, map_s, map_z, true_and]
  refine cl_ok hP rfl ?_
  simp (disch := first | omega | (simp only [List.length_take, List.length_drop, List.length_append, List.map_cons, List.map_nil, List.length_map, List.length_cons, List.length_nil, List.length_set, List.length_replicate]; omega) | (simp only [List.length_cons, List.length_nil, Nat.zero_add, Nat.reduceAdd])) only [go_sem, ↓reduceIte, Nat.reduceAdd, Int.reduceNeg, Int.reduceAdd, Int.reduceSub, Int.reduceMul, Int.reduceLT, Int.reduceLE, Int.reduceEq, Int.reduceToNat, Nat.reduceBEq, e_sle, e_sge, e_shl1, e_orI, e_andI, e_shr, wrapu, wrap8, tn1, nat1, ix_s, ix_z, st_s, st_z, fl_s, fl_z, fl1_s, fl1_z, map_s, map_z, e_cat e1]
  refine jn_eq [.sc (.string (headS f))] ?_ ?_
  · cases hI : f.intercept
    · simp (disch := first | omega | (simp only [List.length_take, List.length_drop, List.length_append, List.map_cons, List.map_nil, List.length_map, List.length_cons, List.length_nil, List.length_set, List.length_replicate]; omega) | (simp only [List.length_cons, List.length_nil, Nat.zero_add, Nat.reduceAdd])) only [go_sem, ↓reduceIte, Nat.reduceAdd, Int.reduceNeg, Int.reduceAdd, Int.reduceSub, Int.reduceMul, Int.reduceLT, Int.reduceLE, Int.reduceEq, Int.reduceToNat, Nat.reduceBEq, e_sle, e_sge, e_shl1, e_orI, e_andI, e_shr, wrapu, wrap8, tn1, nat1, ix_s, ix_z, st_s, st_z, fl_s, fl_z, fl1_s, fl1_z, map_s, map_z, true_and]
      unfold headS; rw [hI]; rfl
    · simp (disch := first | omega | (simp only [List.length_take, List.length_drop, List.length_append, List.map_cons, List.map_nil, List.length_map, List.length_cons, List.length_nil, List.length_set, List.length_replicate]; omega) | (simp only [List.length_cons, List.length_nil, Nat.zero_add, Nat.reduceAdd])) only [go_sem, ↓reduceIte, Nat.reduceAdd, Int.reduceNeg, Int.reduceAdd, Int.reduceSub, Int.reduceMul, Int.reduceLT, Int.reduceLE, Int.reduceEq, Int.reduceToNat, Nat.reduceBEq, e_sle, e_sge, e_shl1, e_orI, e_andI, e_shr, wrapu, wrap8, tn1, nat1, ix_s, ix_z, st_s, st_z, fl_s, fl_z, fl1_s, fl1_z, map_s, map_z, true_and]
      refine cl_ok hP rfl ?_
      simp (disch := first | omega | (simp only [List.length_take, List.length_drop, List.length_append, List.map_cons, List.map_nil, List.length_map, List.length_cons, List.length_nil, List.length_set, List.length_replicate]; omega) | (simp only [List.length_cons, List.length_nil, Nat.zero_add, Nat.reduceAdd])) only [go_sem, ↓reduceIte, Nat.reduceAdd, Int.reduceNeg, Int.reduceAdd, Int.reduceSub, Int.reduceMul, Int.reduceLT, Int.reduceLE, Int.reduceEq, Int.reduceToNat, Nat.reduceBEq, e_sle, e_sge, e_shl1, e_orI, e_andI, e_shr, wrapu, wrap8, tn1, nat1, ix_s, ix_z, st_s, st_z, fl_s, fl_z, fl1_s, fl1_z, map_s, map_z, e_cat e2]
      unfold headS; rw [hI]; rfl
  simp only [u_impl_FormatFormula_j2]
  simp (disch := first | omega | (simp only [List.length_take, List.length_drop, List.length_append, List.map_cons, List.map_nil, List.length_map, List.length_cons, List.length_nil, List.length_set, List.length_replicate]; omega) | (simp only [List.length_cons, List.length_nil, Nat.zero_add, Nat.reduceAdd])) only [go_sem, ↓reduceIte, Nat.reduceAdd, Int.reduceNeg, Int.reduceAdd, Int.reduceSub, Int.reduceMul, Int.reduceLT, Int.reduceLE, Int.reduceEq, Int.reduceToNat, Nat.reduceBEq, e_sle, e_sge, e_shl1, e_orI, e_andI, e_shr, wrapu, wrap8, tn1, nat1, ix_s, ix_z, st_s, st_z, fl_s, fl_z, fl1_s, fl1_z, map_s, map_z, true_and]
  refine lp_n f.terms.length (fun i => [.sc (.int .i64 i), .sc (.string (fmtP f i))]) rfl fun i hi => ?_
  simp only [u_impl_FormatFormula_l1]
  by_cases hlt : i < f.terms.length
  · obtain ⟨b3, b4, -⟩ := fmlB_T' hf hlt
    have h3 := fmtP_size (f := f) b2 i
    have hj : fmtP f (i + 1) = (fmtP f i ++ ⟨#[32, 43, 32]⟩) ++ termS f (f.terms.getD i default).toNat f.variables.length := rfl
    obtain ⟨x, hx⟩ := Int.eq_ofNat_of_zero_le (show 0 ≤ f.terms.getD i default from by omega)
    rw [hx] at hj b3 b4
    simp only [Int.toNat_natCast] at hj
    have h4 := termS_size f x f.variables.length b2
    have e : (⟨#[32, 43, 32]⟩ : ByteArray).size = 3 := rfl
    have e3 : (fmtP f i).size + (⟨#[32, 43, 32]⟩ : ByteArray).size ≤ maxLen := by unfold maxLen; omega
    have e4 : (fmtP f i ++ ⟨#[32, 43, 32]⟩).size + (termS f x f.variables.length).size ≤ maxLen := by rw [ByteArray.size_append]; unfold maxLen; omega
    have hTx := hT x (by omega)
    unfold termS at e4 h4 hj
    have htl := termL_len f.variables x f.variables.length
    have htm := termL_mem (x := x) (p := fun s => nameB s = true) (Nat.le_refl _) hn
    generalize termL f.variables x f.variables.length = T at *
    have hJ := joinTexts_m 9 (T.map fmtName) ⟨#[58]⟩ (by rw [List.length_map]; omega) (fun s hs => by have := map_le s hs; omega) (by decide)
    simp (disch := first | omega | (simp only [List.length_take, List.length_drop, List.length_append, List.map_cons, List.map_nil, List.length_map, List.length_cons, List.length_nil, List.length_set, List.length_replicate]; omega) | (simp only [List.length_cons, List.length_nil, Nat.zero_add, Nat.reduceAdd])) only [go_sem, ↓reduceIte, Nat.reduceAdd, Int.reduceNeg, Int.reduceAdd, Int.reduceSub, Int.reduceMul, Int.reduceLT, Int.reduceLE, Int.reduceEq, Int.reduceToNat, Nat.reduceBEq, e_sle, e_sge, e_shl1, e_orI, e_andI, e_shr, wrapu, wrap8, tn1, nat1, ix_s, ix_z, st_s, st_z, fl_s, fl_z, fl1_s, fl1_z, map_s, map_z, true_and]
    refine br_if (fun hbr => ?_) (fun hbr => absurd hbr (by omega))
    simp (disch := first | omega | (simp only [List.length_take, List.length_drop, List.length_append, List.map_cons, List.map_nil, List.length_map, List.length_cons, List.length_nil, List.length_set, List.length_replicate]; omega) | (simp only [List.length_cons, List.length_nil, Nat.zero_add, Nat.reduceAdd])) only [go_sem, ↓reduceIte, Nat.reduceAdd, Int.reduceNeg, Int.reduceAdd, Int.reduceSub, Int.reduceMul, Int.reduceLT, Int.reduceLE, Int.reduceEq, Int.reduceToNat, Nat.reduceBEq, e_sle, e_sge, e_shl1, e_orI, e_andI, e_shr, wrapu, wrap8, tn1, nat1, ix_s, ix_z, st_s, st_z, fl_s, fl_z, fl1_s, fl1_z, map_s, map_z, hx]
    refine cl_ok hTx rfl ?_
    simp (disch := first | omega | (simp only [List.length_take, List.length_drop, List.length_append, List.map_cons, List.map_nil, List.length_map, List.length_cons, List.length_nil, List.length_set, List.length_replicate]; omega) | (simp only [List.length_cons, List.length_nil, Nat.zero_add, Nat.reduceAdd])) only [go_sem, ↓reduceIte, Nat.reduceAdd, Int.reduceNeg, Int.reduceAdd, Int.reduceSub, Int.reduceMul, Int.reduceLT, Int.reduceLE, Int.reduceEq, Int.reduceToNat, Nat.reduceBEq, e_sle, e_sge, e_shl1, e_orI, e_andI, e_shr, wrapu, wrap8, tn1, nat1, ix_s, ix_z, st_s, st_z, fl_s, fl_z, fl1_s, fl1_z, map_s, map_z, true_and]
    refine lp_n T.length (fun k => [.sc (.int .i64 k), .sl 9 1 (((T.take k).map fmtName).map encS)]) rfl fun k hk => ?_
    simp only [u_impl_FormatFormula_l0]
    by_cases hkt : k < T.length
    · have hN := implFmtName_m (T.getD k default) (by have := nameB_size (htm _ (getD_mem hkt)); omega)
      have htk : (T.take (k + 1)).map fmtName = (T.take k).map fmtName ++ [fmtName (T.getD k default)] := by
        rw [List.take_succ_eq_append_getElem hkt, List.map_append, List.getD_eq_getElem?_getD, List.getElem?_eq_getElem hkt]; rfl
      simp (disch := first | omega | (simp only [List.length_take, List.length_drop, List.length_append, List.map_cons, List.map_nil, List.length_map, List.length_cons, List.length_nil, List.length_set, List.length_replicate]; omega) | (simp only [List.length_cons, List.length_nil, Nat.zero_add, Nat.reduceAdd])) only [go_sem, ↓reduceIte, Nat.reduceAdd, Int.reduceNeg, Int.reduceAdd, Int.reduceSub, Int.reduceMul, Int.reduceLT, Int.reduceLE, Int.reduceEq, Int.reduceToNat, Nat.reduceBEq, e_sle, e_sge, e_shl1, e_orI, e_andI, e_shr, wrapu, wrap8, tn1, nat1, ix_s, ix_z, st_s, st_z, fl_s, fl_z, fl1_s, fl1_z, map_s, map_z, true_and]
      refine br_if (fun hbr => ?_) (fun hbr => absurd hbr (by omega))
      repeat' (first | (with_reducible refine jn_in ?_) | (with_reducible refine cl_ok (by assumption) rfl ?_) | (with_reducible refine br_if (fun hbr => ?_) (fun hbr => ?_)) | (with_reducible refine br_ifn (fun hbr => ?_) (fun hbr => ?_)) | (with_reducible refine br_nb (fun hbr => ?_) (fun hbr => ?_)) | (with_reducible refine br_b (fun hbr => ?_) (fun hbr => ?_)) | simp (disch := first | omega | (simp only [List.length_take, List.length_drop, List.length_append, List.map_cons, List.map_nil, List.length_map, List.length_cons, List.length_nil, List.length_set, List.length_replicate]; omega) | (simp only [List.length_cons, List.length_nil, Nat.zero_add, Nat.reduceAdd])) only [go_sem, ↓reduceIte, Nat.reduceAdd, Int.reduceNeg, Int.reduceAdd, Int.reduceSub, Int.reduceMul, Int.reduceLT, Int.reduceLE, Int.reduceEq, Int.reduceToNat, Nat.reduceBEq, e_sle, e_sge, e_shl1, e_orI, e_andI, e_shr, wrapu, wrap8, tn1, nat1, ix_s, ix_z, st_s, st_z, fl_s, fl_z, fl1_s, fl1_z, map_s, map_z, true_and])
      exact ⟨by rw [htk], hkt⟩
    · obtain rfl : k = T.length := by omega
      rw [List.take_length]
      simp (disch := first | omega | (simp only [List.length_take, List.length_drop, List.length_append, List.map_cons, List.map_nil, List.length_map, List.length_cons, List.length_nil, List.length_set, List.length_replicate]; omega) | (simp only [List.length_cons, List.length_nil, Nat.zero_add, Nat.reduceAdd])) only [go_sem, ↓reduceIte, Nat.reduceAdd, Int.reduceNeg, Int.reduceAdd, Int.reduceSub, Int.reduceMul, Int.reduceLT, Int.reduceLE, Int.reduceEq, Int.reduceToNat, Nat.reduceBEq, e_sle, e_sge, e_shl1, e_orI, e_andI, e_shr, wrapu, wrap8, tn1, nat1, ix_s, ix_z, st_s, st_z, fl_s, fl_z, fl1_s, fl1_z, map_s, map_z, true_and]
      refine br_if (fun hbr => absurd hbr (by omega)) (fun hbr => ?_)
      repeat' (first | (with_reducible refine jn_in ?_) | (with_reducible refine cl_ok (by assumption) rfl ?_) | (with_reducible refine br_if (fun hbr => ?_) (fun hbr => ?_)) | (with_reducible refine br_ifn (fun hbr => ?_) (fun hbr => ?_)) | (with_reducible refine br_nb (fun hbr => ?_) (fun hbr => ?_)) | (with_reducible refine br_b (fun hbr => ?_) (fun hbr => ?_)) | simp (disch := first | omega | (simp only [List.length_take, List.length_drop, List.length_append, List.map_cons, List.map_nil, List.length_map, List.length_cons, List.length_nil, List.length_set, List.length_replicate]; omega) | (simp only [List.length_cons, List.length_nil, Nat.zero_add, Nat.reduceAdd])) only [go_sem, ↓reduceIte, Nat.reduceAdd, Int.reduceNeg, Int.reduceAdd, Int.reduceSub, Int.reduceMul, Int.reduceLT, Int.reduceLE, Int.reduceEq, Int.reduceToNat, Nat.reduceBEq, e_sle, e_sge, e_shl1, e_orI, e_andI, e_shr, wrapu, wrap8, tn1, nat1, ix_s, ix_z, st_s, st_z, fl_s, fl_z, fl1_s, fl1_z, map_s, map_z, e_cat e3, e_cat e4])
      exact ⟨by rw [hj], hlt⟩
  · obtain rfl : i = f.terms.length := by omega
    simp (disch := first | omega | (simp only [List.length_take, List.length_drop, List.length_append, List.map_cons, List.map_nil, List.length_map, List.length_cons, List.length_nil, List.length_set, List.length_replicate]; omega) | (simp only [List.length_cons, List.length_nil, Nat.zero_add, Nat.reduceAdd])) only [go_sem, ↓reduceIte, Nat.reduceAdd, Int.reduceNeg, Int.reduceAdd, Int.reduceSub, Int.reduceMul, Int.reduceLT, Int.reduceLE, Int.reduceEq, Int.reduceToNat, Nat.reduceBEq, e_sle, e_sge, e_shl1, e_orI, e_andI, e_shr, wrapu, wrap8, tn1, nat1, ix_s, ix_z, st_s, st_z, fl_s, fl_z, fl1_s, fl1_z, map_s, map_z, true_and]
    refine br_if (fun hbr => absurd hbr (by omega)) (fun hbr => ?_)
    simp (disch := first | omega | (simp only [List.length_take, List.length_drop, List.length_append, List.map_cons, List.map_nil, List.length_map, List.length_cons, List.length_nil, List.length_set, List.length_replicate]; omega) | (simp only [List.length_cons, List.length_nil, Nat.zero_add, Nat.reduceAdd])) only [go_sem, ↓reduceIte, Nat.reduceAdd, Int.reduceNeg, Int.reduceAdd, Int.reduceSub, Int.reduceMul, Int.reduceLT, Int.reduceLE, Int.reduceEq, Int.reduceToNat, Nat.reduceBEq, e_sle, e_sge, e_shl1, e_orI, e_andI, e_shr, wrapu, wrap8, tn1, nat1, ix_s, ix_z, st_s, st_z, fl_s, fl_z, fl1_s, fl1_z, map_s, map_z, true_and]
    rfl
end Go.Proofs.Ytbddjkbbnflnkaa
