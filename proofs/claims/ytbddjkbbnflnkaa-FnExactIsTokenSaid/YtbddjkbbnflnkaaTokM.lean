/- IsToken, FormatTokens (impl and spec). -/
import Derived.Test.YtbddjkbbnflnkaaUTokM
import Derived.Test.YtbddjkbbnflnkaaPInt
import Derived.Test.YtbddjkbbnflnkaaQuo
import Derived.Test.YtbddjkbbnflnkaaFmf
import Derived.Test.YtbddjkbbnflnkaaTTok
namespace Go.Proofs.Ytbddjkbbnflnkaa
open Go.RowKit
set_option linter.unusedVariables false
set_option linter.unusedSimpArgs false
set_option maxRecDepth 100000

def sigL : List ByteArray := [⟨#[60, 60, 45]⟩, ⟨#[37, 47, 37]⟩, ⟨#[60, 45]⟩, ⟨#[60, 61]⟩, ⟨#[62, 61]⟩, ⟨#[61, 61]⟩, ⟨#[33, 61]⟩, ⟨#[38, 38]⟩, ⟨#[124, 124]⟩, ⟨#[37, 37]⟩, ⟨#[60]⟩, ⟨#[62]⟩, ⟨#[61]⟩, ⟨#[33]⟩, ⟨#[38]⟩, ⟨#[124]⟩, ⟨#[43]⟩, ⟨#[45]⟩, ⟨#[42]⟩, ⟨#[47]⟩, ⟨#[94]⟩, ⟨#[58]⟩, ⟨#[126]⟩, ⟨#[36]⟩, ⟨#[40]⟩, ⟨#[41]⟩, ⟨#[91]⟩, ⟨#[93]⟩, ⟨#[123]⟩, ⟨#[125]⟩, ⟨#[44]⟩]
theorem allSigns_m : Meets Try.prog 152 [] [(false, [encSs sigL], true)] := by
  refine meets_upf Try.func152 u_impl_allSigns_g rfl ?_; simp only [u_impl_allSigns_u]
  repeat' (first | (with_reducible refine jn_in ?_) | (with_reducible refine cl_ok (by assumption) rfl ?_) | (with_reducible refine br_if (fun hbr => ?_) (fun hbr => ?_)) | (with_reducible refine br_ifn (fun hbr => ?_) (fun hbr => ?_)) | (with_reducible refine br_nb (fun hbr => ?_) (fun hbr => ?_)) | (with_reducible refine br_b (fun hbr => ?_) (fun hbr => ?_)) | simp (disch := first | omega | (simp only [List.length_take, List.length_drop, List.length_append, List.map_cons, List.map_nil, List.length_map, List.length_cons, List.length_nil, List.length_set, List.length_replicate]; omega) | (simp only [List.length_cons, List.length_nil, Nat.zero_add, Nat.reduceAdd])) only [go_sem, ↓reduceIte, Nat.reduceAdd, Int.reduceNeg, Int.reduceAdd, Int.reduceSub, Int.reduceMul, Int.reduceLT, Int.reduceLE, Int.reduceEq, Int.reduceToNat, Nat.reduceBEq, true_and])
  rfl
theorem l15Signs_m : Meets Try.prog 99 [] [(false, [encSs sigL], true)] := by
  refine meets_upf Try.func99 u_spec_l15Signs_g rfl ?_; simp only [u_spec_l15Signs_u]
  repeat' (first | (with_reducible refine jn_in ?_) | (with_reducible refine cl_ok (by assumption) rfl ?_) | (with_reducible refine br_if (fun hbr => ?_) (fun hbr => ?_)) | (with_reducible refine br_ifn (fun hbr => ?_) (fun hbr => ?_)) | (with_reducible refine br_nb (fun hbr => ?_) (fun hbr => ?_)) | (with_reducible refine br_b (fun hbr => ?_) (fun hbr => ?_)) | simp (disch := first | omega | (simp only [List.length_take, List.length_drop, List.length_append, List.map_cons, List.map_nil, List.length_map, List.length_cons, List.length_nil, List.length_set, List.length_replicate]; omega) | (simp only [List.length_cons, List.length_nil, Nat.zero_add, Nat.reduceAdd])) only [go_sem, ↓reduceIte, Nat.reduceAdd, Int.reduceNeg, Int.reduceAdd, Int.reduceSub, Int.reduceMul, Int.reduceLT, Int.reduceLE, Int.reduceEq, Int.reduceToNat, Nat.reduceBEq, true_and])
  rfl
theorem isSign_m (s : ByteArray) : Meets Try.prog 102 [(false, [.sc (.string s)])] [(false, [.sc (.bool (hasB sigL s))], true)] := by
  have h1 := allSigns_m
  have h2 := hasText_m 9 sigL s (by decide)
  simp only [encSs] at h1
  refine meets_upf Try.func102 u_impl_isSign_g rfl ?_; simp only [u_impl_isSign_u]
  repeat' (first | (with_reducible refine jn_in ?_) | (with_reducible refine cl_ok (by assumption) rfl ?_) | (with_reducible refine br_if (fun hbr => ?_) (fun hbr => ?_)) | (with_reducible refine br_ifn (fun hbr => ?_) (fun hbr => ?_)) | (with_reducible refine br_nb (fun hbr => ?_) (fun hbr => ?_)) | (with_reducible refine br_b (fun hbr => ?_) (fun hbr => ?_)) | simp (disch := first | omega | (simp only [List.length_take, List.length_drop, List.length_append, List.map_cons, List.map_nil, List.length_map, List.length_cons, List.length_nil, List.length_set, List.length_replicate]; omega) | (simp only [List.length_cons, List.length_nil, Nat.zero_add, Nat.reduceAdd])) only [go_sem, ↓reduceIte, Nat.reduceAdd, Int.reduceNeg, Int.reduceAdd, Int.reduceSub, Int.reduceMul, Int.reduceLT, Int.reduceLE, Int.reduceEq, Int.reduceToNat, Nat.reduceBEq, true_and])
  rfl
theorem isWord_m (s : ByteArray) : Meets Try.prog 101 [(false, [.sc (.string s)])] [(false, [.sc (.bool (resB s))], true)] := by
  have h2 := isReserved_m s
  refine meets_upf Try.func101 u_impl_isWord_g rfl ?_; simp only [u_impl_isWord_u]
  repeat' (first | (with_reducible refine jn_in ?_) | (with_reducible refine cl_ok (by assumption) rfl ?_) | (with_reducible refine br_if (fun hbr => ?_) (fun hbr => ?_)) | (with_reducible refine br_ifn (fun hbr => ?_) (fun hbr => ?_)) | (with_reducible refine br_nb (fun hbr => ?_) (fun hbr => ?_)) | (with_reducible refine br_b (fun hbr => ?_) (fun hbr => ?_)) | simp (disch := first | omega | (simp only [List.length_take, List.length_drop, List.length_append, List.map_cons, List.map_nil, List.length_map, List.length_cons, List.length_nil, List.length_set, List.length_replicate]; omega) | (simp only [List.length_cons, List.length_nil, Nat.zero_add, Nat.reduceAdd])) only [go_sem, ↓reduceIte, Nat.reduceAdd, Int.reduceNeg, Int.reduceAdd, Int.reduceSub, Int.reduceMul, Int.reduceLT, Int.reduceLE, Int.reduceEq, Int.reduceToNat, Nat.reduceBEq, true_and])
  rfl
def tokB (x : Tok) : Bool :=
  if x.kind = 1 then prsB x.text && decide (0 ≤ (if prsB x.text = true then prsV x.text else 0))
  else if x.kind = 2 then decide (x.text.size ≤ 60) else if x.kind = 3 then nameB x.text else if x.kind = 4 then resB x.text else if x.kind = 5 then hasB sigL x.text else if x.kind = 6 then decide (x.text = ⟨#[59]⟩) else false
theorem prs_pos {s : ByteArray} (h : prsB s = true) : 1 ≤ s.size := by
  unfold prsB at h
  simp only [Bool.and_eq_true, decide_eq_true_eq] at h
  omega
theorem prs_head {s : ByteArray} (h : prsB s = true) (h0 : 0 ≤ prsV s) : ¬ byteAt s 0 = 45 := by
  intro hc
  have hp := prs_pos h
  have hk : pk s = 1 := by unfold pk; rw [if_pos ⟨by omega, hc⟩]
  unfold prsB at h
  simp only [Bool.and_eq_true, decide_eq_true_eq] at h
  have hv : prsV s = 0 := by unfold prsV at h0 ⊢; rw [if_pos hk] at h0 ⊢; omega
  have h2 := h.2.2
  rw [hv] at h2
  rw [← h2] at hc
  exact absurd hc (by decide)
theorem implTok_m (x : Tok) (hx : x.text.size ≤ 100000000000) : Meets Try.prog 41 [(true, encTok x)] [(false, [.sc (.bool (tokB x))], true)] := by
  have h1 := implPrs_m x.text hx
  have h2 := implName_m x.text hx
  have h3 := isWord_m x.text
  have h4 := isSign_m x.text
  refine meets_upf Try.func41 u_impl_IsToken_g rfl ?_; simp only [u_impl_IsToken_u]
  simp only [encTok]
  unfold tokB
  generalize (if prsB x.text = true then prsV x.text else 0) = z at *
  repeat' (first | (with_reducible refine jn_in ?_) | (with_reducible refine cl_ok (by assumption) rfl ?_) | (with_reducible refine br_if (fun hbr => ?_) (fun hbr => ?_)) | (with_reducible refine br_ifn (fun hbr => ?_) (fun hbr => ?_)) | (with_reducible refine br_nb (fun hbr => ?_) (fun hbr => ?_)) | (with_reducible refine br_b (fun hbr => ?_) (fun hbr => ?_)) | simp (disch := first | omega | (simp only [List.length_take, List.length_drop, List.length_append, List.map_cons, List.map_nil, List.length_map, List.length_cons, List.length_nil, List.length_set, List.length_replicate]; omega) | (simp only [List.length_cons, List.length_nil, Nat.zero_add, Nat.reduceAdd])) only [go_sem, ↓reduceIte, Nat.reduceAdd, Int.reduceNeg, Int.reduceAdd, Int.reduceSub, Int.reduceMul, Int.reduceLT, Int.reduceLE, Int.reduceEq, Int.reduceToNat, Nat.reduceBEq, true_and])
  all_goals (refine ret_b ?_; simp [*])
  all_goals omega
theorem specTok_m (x : Tok) (hx : x.text.size ≤ 100000000000) : Meets Try.prog 39 [(true, encTok x)] [(false, [.sc (.bool (tokB x))], true)] := by
  have h1 := specPrs_m x.text hx
  have h2 := specName_m x.text hx
  have h3 := l1Reserved_m x.text
  have h4 := l15Signs_m
  have h5 := l1Has_m 9 sigL x.text (by decide)
  have hpos := @prs_pos x.text
  have hhead := @prs_head x.text
  simp only [encSs] at h4
  refine meets_upf Try.func39 u_spec_IsToken_g rfl ?_; simp only [u_spec_IsToken_u]
  simp only [encTok]
  unfold tokB
  cases hp : prsB x.text
  · rw [hp] at h1
    simp only [Bool.false_eq_true, if_false] at h1
    repeat' (first | (with_reducible refine jn_in ?_) | (with_reducible refine cl_ok (by assumption) rfl ?_) | (with_reducible refine br_if (fun hbr => ?_) (fun hbr => ?_)) | (with_reducible refine br_ifn (fun hbr => ?_) (fun hbr => ?_)) | (with_reducible refine br_nb (fun hbr => ?_) (fun hbr => ?_)) | (with_reducible refine br_b (fun hbr => ?_) (fun hbr => ?_)) | simp (disch := first | omega | (simp only [List.length_take, List.length_drop, List.length_append, List.map_cons, List.map_nil, List.length_map, List.length_cons, List.length_nil, List.length_set, List.length_replicate]; omega) | (simp only [List.length_cons, List.length_nil, Nat.zero_add, Nat.reduceAdd])) only [go_sem, ↓reduceIte, Nat.reduceAdd, Int.reduceNeg, Int.reduceAdd, Int.reduceSub, Int.reduceMul, Int.reduceLT, Int.reduceLE, Int.reduceEq, Int.reduceToNat, Nat.reduceBEq, true_and])
    all_goals (refine ret_b ?_; simp [*])
    all_goals omega
  · rw [hp] at h1
    simp only [if_true] at h1
    have hps := hpos hp
    have hhd := hhead hp
    generalize prsV x.text = z at *
    repeat' (first | (with_reducible refine jn_in ?_) | (with_reducible refine cl_ok (by assumption) rfl ?_) | (with_reducible refine br_if (fun hbr => ?_) (fun hbr => ?_)) | (with_reducible refine br_ifn (fun hbr => ?_) (fun hbr => ?_)) | (with_reducible refine br_nb (fun hbr => ?_) (fun hbr => ?_)) | (with_reducible refine br_b (fun hbr => ?_) (fun hbr => ?_)) | simp (disch := first | omega | (simp only [List.length_take, List.length_drop, List.length_append, List.map_cons, List.map_nil, List.length_map, List.length_cons, List.length_nil, List.length_set, List.length_replicate]; omega) | (simp only [List.length_cons, List.length_nil, Nat.zero_add, Nat.reduceAdd])) only [go_sem, ↓reduceIte, Nat.reduceAdd, Int.reduceNeg, Int.reduceAdd, Int.reduceSub, Int.reduceMul, Int.reduceLT, Int.reduceLE, Int.reduceEq, Int.reduceToNat, Nat.reduceBEq, true_and])
    all_goals (refine ret_b ?_; simp_all)
    all_goals omega

def tokT (x : Tok) : ByteArray := if x.kind = 2 then quoteB x.text else if x.kind = 3 then fmtName x.text else x.text
theorem tokT_size {x : Tok} (h : x.text.size ≤ 1048576) : (tokT x).size ≤ 10000000 := by
  unfold tokT
  split
  · have := quoteB_size x.text; omega
  · split
    · have := fmtName_size x.text; omega
    · omega
def allTok (l : List Tok) (i : Nat) : Bool := tokB (l.getD i default)
def fmtTs (l : List Tok) : ByteArray := if allB (allTok l) l.length = true then joinB (l.map tokT) ⟨#[32]⟩ else ⟨#[]⟩
theorem fmtTs_no {l : List Tok} {i : Nat} (h : i < l.length) (hb : tokB (l.getD i default) = false) : fmtTs l = ⟨#[]⟩ := by
  unfold fmtTs; rw [allB_no h hb]; rfl
theorem mapT_le {l : List Tok} (h : wtToks l ≤ 1048576) : ∀ s ∈ l.map tokT, s.size ≤ 10000000 := by
  intro s hs
  obtain ⟨x, hx, rfl⟩ := List.mem_map.1 hs
  have : x.text.size ≤ sumOf wtTok l := sumOf_mem wtTok hx
  unfold wtToks at h
  exact tokT_size (by omega)
theorem mapT_get {l : List Tok} {i : Nat} (h : i < l.length) : (l.map tokT).getD i default = tokT (l.getD i default) := by
  rw [List.getD_eq_getElem?_getD, List.getElem?_map, getD_some h]; rfl
theorem mapT_take {l : List Tok} {i : Nat} (h : i < l.length) : (l.map tokT).take (i + 1) = (l.map tokT).take i ++ [tokT (l.getD i default)] := by
  rw [List.take_succ_eq_append_getElem (by simpa using h), ← mapT_get h, List.getD_eq_getElem?_getD, List.getElem?_eq_getElem (by simpa using h)]; rfl
theorem l15Text_m (x : Tok) (hx : x.text.size ≤ 1048576) : Meets Try.prog 103 [(true, encTok x)] [(false, [.sc (.string (tokT x))], true)] := by
  have h1 := specQuo_m x.text (by omega)
  have h2 := specFmtName_m x.text (by omega)
  refine meets_upf Try.func103 u_spec_l15Text_g rfl ?_; simp only [u_spec_l15Text_u]
  simp only [encTok]
  unfold tokT
  repeat' (first | (with_reducible refine jn_in ?_) | (with_reducible refine cl_ok (by assumption) rfl ?_) | (with_reducible refine br_if (fun hbr => ?_) (fun hbr => ?_)) | (with_reducible refine br_ifn (fun hbr => ?_) (fun hbr => ?_)) | (with_reducible refine br_nb (fun hbr => ?_) (fun hbr => ?_)) | (with_reducible refine br_b (fun hbr => ?_) (fun hbr => ?_)) | simp (disch := first | omega | (simp only [List.length_take, List.length_drop, List.length_append, List.map_cons, List.map_nil, List.length_map, List.length_cons, List.length_nil, List.length_set, List.length_replicate]; omega) | (simp only [List.length_cons, List.length_nil, Nat.zero_add, Nat.reduceAdd])) only [go_sem, ↓reduceIte, Nat.reduceAdd, Int.reduceNeg, Int.reduceAdd, Int.reduceSub, Int.reduceMul, Int.reduceLT, Int.reduceLE, Int.reduceEq, Int.reduceToNat, Nat.reduceBEq, true_and])
  all_goals (refine ret_s ?_; simp [*])
set_option maxHeartbeats 2000000 in
theorem specTs_m (l : List Tok) (hw : wtToks l ≤ 1048576) : Meets Try.prog 43 [(false, [encToks l])] [(false, [.sc (.string (fmtTs l))], true)] := by
  have hl : l.length ≤ 1048576 := by unfold wtToks at hw; omega
  have hx : ∀ x ∈ l, x.text.size ≤ 1048576 := fun x hx => by have : x.text.size ≤ sumOf wtTok l := sumOf_mem wtTok hx; unfold wtToks at hw; omega
  have hm := mapT_le hw
  refine meets_upf Try.func43 u_spec_FormatTokens_g rfl ?_; simp only [u_spec_FormatTokens_u]
  simp only [encToks]
  simp (disch := first | omega | (simp only [List.length_take, List.length_drop, List.length_append, List.map_cons, List.map_nil, List.length_map, List.length_cons, List.length_nil, List.length_set, List.length_replicate]; omega) | (simp only [List.length_cons, List.length_nil, Nat.zero_add, Nat.reduceAdd])) only [go_sem, ↓reduceIte, Nat.reduceAdd, Int.reduceNeg, Int.reduceAdd, Int.reduceSub, Int.reduceMul, Int.reduceLT, Int.reduceLE, Int.reduceEq, Int.reduceToNat, Nat.reduceBEq, e_sle, e_sge, e_shl1, e_orI, e_andI, e_shr, wrapu, wrap8, tn1, nat1, ix_s, ix_z, st_s, st_z, fl_s, fl_z, fl1_s, fl1_z, map_s, map_z, true_and]
  refine lp (fun i : Nat => [.sc (.int .i64 i), .sc (.string (joinP (l.map tokT) ⟨#[32]⟩ i))]) (fun i => i ≤ l.length ∧ allB (allTok l) i = true) (fun i => l.length - i) 0 rfl ⟨by omega, rfl⟩ ?_
  rintro i ⟨hi, hb⟩
  simp only [u_spec_FormatTokens_l1]
  by_cases hlt : i < l.length
  · have h1 := specTok_m (l.getD i default) (by have := hx _ (getD_mem hlt); omega)
    have h2 := l15Text_m (l.getD i default) (hx _ (getD_mem hlt))
    have hno := @fmtTs_no l i hlt
    have hst : tokB (l.getD i default) = true → allB (allTok l) (i + 1) = true := fun h => allB_step hb h
    have hj : joinP (l.map tokT) ⟨#[32]⟩ (i + 1) = (if i = 0 then joinP (l.map tokT) ⟨#[32]⟩ i else joinP (l.map tokT) ⟨#[32]⟩ i ++ ⟨#[32]⟩) ++ tokT (l.getD i default) := by
      show (if i = 0 then _ else _) ++ (l.map tokT).getD i default = _
      rw [mapT_get hlt]
    have hJ := joinP_size (sep := ⟨#[32]⟩) hm i
    have z : (⟨#[32]⟩ : ByteArray).size = 1 := rfl
    have hts := tokT_size (hx _ (getD_mem hlt))
    have hix := @ix_Tok 52 l .i64 (i : Int) (by omega) (by omega)
    rw [Int.toNat_natCast] at hix
    generalize l.getD i default = x at *
    have h3 : i * (10000000 + (⟨#[32]⟩ : ByteArray).size) ≤ 1048576 * 10000001 := Nat.mul_le_mul (by omega) (by omega)
    have e1 : (joinP (l.map tokT) ⟨#[32]⟩ i).size + (⟨#[32]⟩ : ByteArray).size ≤ maxLen := by unfold maxLen; omega
    have e2 : (joinP (l.map tokT) ⟨#[32]⟩ i).size + (tokT x).size ≤ maxLen := by unfold maxLen; omega
    have e3 : (joinP (l.map tokT) ⟨#[32]⟩ i ++ ⟨#[32]⟩).size + (tokT x).size ≤ maxLen := by rw [ByteArray.size_append]; unfold maxLen; omega
    simp only [encTok] at h1 h2 hix
    repeat' (first | (with_reducible refine jn_in ?_) | (with_reducible refine cl_ok (by assumption) rfl ?_) | (with_reducible refine br_if (fun hbr => ?_) (fun hbr => ?_)) | (with_reducible refine br_ifn (fun hbr => ?_) (fun hbr => ?_)) | (with_reducible refine br_nb (fun hbr => ?_) (fun hbr => ?_)) | (with_reducible refine br_b (fun hbr => ?_) (fun hbr => ?_)) | simp (disch := first | omega | (simp only [List.length_take, List.length_drop, List.length_append, List.map_cons, List.map_nil, List.length_map, List.length_cons, List.length_nil, List.length_set, List.length_replicate]; omega) | (simp only [List.length_cons, List.length_nil, Nat.zero_add, Nat.reduceAdd])) only [go_sem, ↓reduceIte, Nat.reduceAdd, Int.reduceNeg, Int.reduceAdd, Int.reduceSub, Int.reduceMul, Int.reduceLT, Int.reduceLE, Int.reduceEq, Int.reduceToNat, Nat.reduceBEq, e_sle, e_sge, e_shl1, e_orI, e_andI, e_shr, wrapu, wrap8, tn1, nat1, ix_s, ix_z, st_s, st_z, fl_s, fl_z, fl1_s, fl1_z, map_s, map_z, hix, e_cat e1, e_cat e2, e_cat e3, u_spec_FormatTokens_j0])
    all_goals first
      | omega
      | exact ret_s (hno ‹_›)
      | exact ⟨i + 1, by rw [hj, if_neg (by omega)], ⟨by omega, hst ‹_›⟩, by omega⟩
      | exact ⟨i + 1, by rw [hj, if_pos (by omega)], ⟨by omega, hst ‹_›⟩, by omega⟩
      | skip
  · obtain rfl : i = l.length := by omega
    simp (disch := first | omega | (simp only [List.length_take, List.length_drop, List.length_append, List.map_cons, List.map_nil, List.length_map, List.length_cons, List.length_nil, List.length_set, List.length_replicate]; omega) | (simp only [List.length_cons, List.length_nil, Nat.zero_add, Nat.reduceAdd])) only [go_sem, ↓reduceIte, Nat.reduceAdd, Int.reduceNeg, Int.reduceAdd, Int.reduceSub, Int.reduceMul, Int.reduceLT, Int.reduceLE, Int.reduceEq, Int.reduceToNat, Nat.reduceBEq, e_sle, e_sge, e_shl1, e_orI, e_andI, e_shr, wrapu, wrap8, tn1, nat1, ix_s, ix_z, st_s, st_z, fl_s, fl_z, fl1_s, fl1_z, map_s, map_z, true_and]
    refine br_if (fun hbr => absurd hbr (by omega)) (fun hbr => ?_)
    simp (disch := first | omega | (simp only [List.length_take, List.length_drop, List.length_append, List.map_cons, List.map_nil, List.length_map, List.length_cons, List.length_nil, List.length_set, List.length_replicate]; omega) | (simp only [List.length_cons, List.length_nil, Nat.zero_add, Nat.reduceAdd])) only [go_sem, ↓reduceIte, Nat.reduceAdd, Int.reduceNeg, Int.reduceAdd, Int.reduceSub, Int.reduceMul, Int.reduceLT, Int.reduceLE, Int.reduceEq, Int.reduceToNat, Nat.reduceBEq, e_sle, e_sge, e_shl1, e_orI, e_andI, e_shr, wrapu, wrap8, tn1, nat1, ix_s, ix_z, st_s, st_z, fl_s, fl_z, fl1_s, fl1_z, map_s, map_z, true_and]
    refine ret_s ?_
    unfold fmtTs joinB; rw [if_pos hb, List.length_map]
set_option maxHeartbeats 2000000 in
theorem implTs_m (l : List Tok) (hw : wtToks l ≤ 1048576) : Meets Try.prog 45 [(false, [encToks l])] [(false, [.sc (.string (fmtTs l))], true)] := by
  have hl : l.length ≤ 1048576 := by unfold wtToks at hw; omega
  have hx : ∀ x ∈ l, x.text.size ≤ 1048576 := fun x hx => by have : x.text.size ≤ sumOf wtTok l := sumOf_mem wtTok hx; unfold wtToks at hw; omega
  have hm := mapT_le hw
  have hJ := joinTexts_m 9 (l.map tokT) ⟨#[32]⟩ (by rw [List.length_map]; omega) hm (by decide)
  refine meets_upf Try.func45 u_impl_FormatTokens_g rfl ?_; simp only [u_impl_FormatTokens_u]
  simp only [encToks]
  simp (disch := first | omega | (simp only [List.length_take, List.length_drop, List.length_append, List.map_cons, List.map_nil, List.length_map, List.length_cons, List.length_nil, List.length_set, List.length_replicate]; omega) | (simp only [List.length_cons, List.length_nil, Nat.zero_add, Nat.reduceAdd])) only [go_sem, ↓reduceIte, Nat.reduceAdd, Int.reduceNeg, Int.reduceAdd, Int.reduceSub, Int.reduceMul, Int.reduceLT, Int.reduceLE, Int.reduceEq, Int.reduceToNat, Nat.reduceBEq, e_sle, e_sge, e_shl1, e_orI, e_andI, e_shr, wrapu, wrap8, tn1, nat1, ix_s, ix_z, st_s, st_z, fl_s, fl_z, fl1_s, fl1_z, map_s, map_z, true_and]
  refine lp (fun i : Nat => [.sc (.int .i64 i), .sl 9 1 (((l.map tokT).take i).map encS)]) (fun i => i ≤ l.length ∧ allB (allTok l) i = true) (fun i => l.length - i) 0 rfl ⟨by omega, rfl⟩ ?_
  rintro i ⟨hi, hb⟩
  simp only [u_impl_FormatTokens_l1]
  by_cases hlt : i < l.length
  · have h1 := implTok_m (l.getD i default) (by have := hx _ (getD_mem hlt); omega)
    have hxx := hx _ (getD_mem hlt)
    have h2 := implQuo_m (l.getD i default).text (by omega)
    have h3 := implFmtName_m (l.getD i default).text (by omega)
    have hno := @fmtTs_no l i hlt
    have hst : tokB (l.getD i default) = true → allB (allTok l) (i + 1) = true := fun h => allB_step hb h
    have hj := mapT_take hlt
    have hix := @ix_Tok 52 l .i64 (i : Int) (by omega) (by omega)
    rw [Int.toNat_natCast] at hix
    generalize l.getD i default = x at *
    simp only [encTok] at h1 hix
    have hT : tokT x = if x.kind = 2 then quoteB x.text else if x.kind = 3 then fmtName x.text else x.text := rfl
    repeat' (first | (with_reducible refine jn_in ?_) | (with_reducible refine cl_ok (by assumption) rfl ?_) | (with_reducible refine br_if (fun hbr => ?_) (fun hbr => ?_)) | (with_reducible refine br_ifn (fun hbr => ?_) (fun hbr => ?_)) | (with_reducible refine br_nb (fun hbr => ?_) (fun hbr => ?_)) | (with_reducible refine br_b (fun hbr => ?_) (fun hbr => ?_)) | simp (disch := first | omega | (simp only [List.length_take, List.length_drop, List.length_append, List.map_cons, List.map_nil, List.length_map, List.length_cons, List.length_nil, List.length_set, List.length_replicate]; omega) | (simp only [List.length_cons, List.length_nil, Nat.zero_add, Nat.reduceAdd])) only [go_sem, ↓reduceIte, Nat.reduceAdd, Int.reduceNeg, Int.reduceAdd, Int.reduceSub, Int.reduceMul, Int.reduceLT, Int.reduceLE, Int.reduceEq, Int.reduceToNat, Nat.reduceBEq, e_sle, e_sge, e_shl1, e_orI, e_andI, e_shr, wrapu, wrap8, tn1, nat1, ix_s, ix_z, st_s, st_z, fl_s, fl_z, fl1_s, fl1_z, map_s, map_z, hix, u_impl_FormatTokens_j0])
    all_goals first
      | omega
      | exact ret_s (hno ‹_›)
      | exact ⟨i + 1, by rw [hj, hT, if_pos ‹_›], ⟨by omega, hst ‹_›⟩, by omega⟩
      | exact ⟨i + 1, by rw [hj, hT, if_neg ‹_›, if_pos ‹_›], ⟨by omega, hst ‹_›⟩, by omega⟩
      | exact ⟨i + 1, by rw [hj, hT, if_neg ‹¬ x.kind = 2›, if_neg ‹¬ x.kind = 3›], ⟨by omega, hst ‹_›⟩, by omega⟩
      | skip
  · obtain rfl : i = l.length := by omega
    have e : (l.map tokT).take l.length = l.map tokT := by rw [← List.length_map (f := tokT), List.take_length]
    rw [e]
    simp (disch := first | omega | (simp only [List.length_take, List.length_drop, List.length_append, List.map_cons, List.map_nil, List.length_map, List.length_cons, List.length_nil, List.length_set, List.length_replicate]; omega) | (simp only [List.length_cons, List.length_nil, Nat.zero_add, Nat.reduceAdd])) only [go_sem, ↓reduceIte, Nat.reduceAdd, Int.reduceNeg, Int.reduceAdd, Int.reduceSub, Int.reduceMul, Int.reduceLT, Int.reduceLE, Int.reduceEq, Int.reduceToNat, Nat.reduceBEq, e_sle, e_sge, e_shl1, e_orI, e_andI, e_shr, wrapu, wrap8, tn1, nat1, ix_s, ix_z, st_s, st_z, fl_s, fl_z, fl1_s, fl1_z, map_s, map_z, true_and]
    refine br_if (fun hbr => absurd hbr (by omega)) (fun hbr => ?_)
    repeat' (first | (with_reducible refine jn_in ?_) | (with_reducible refine cl_ok (by assumption) rfl ?_) | (with_reducible refine br_if (fun hbr => ?_) (fun hbr => ?_)) | (with_reducible refine br_ifn (fun hbr => ?_) (fun hbr => ?_)) | (with_reducible refine br_nb (fun hbr => ?_) (fun hbr => ?_)) | (with_reducible refine br_b (fun hbr => ?_) (fun hbr => ?_)) | simp (disch := first | omega | (simp only [List.length_take, List.length_drop, List.length_append, List.map_cons, List.map_nil, List.length_map, List.length_cons, List.length_nil, List.length_set, List.length_replicate]; omega) | (simp only [List.length_cons, List.length_nil, Nat.zero_add, Nat.reduceAdd])) only [go_sem, ↓reduceIte, Nat.reduceAdd, Int.reduceNeg, Int.reduceAdd, Int.reduceSub, Int.reduceMul, Int.reduceLT, Int.reduceLE, Int.reduceEq, Int.reduceToNat, Nat.reduceBEq, e_sle, e_sge, e_shl1, e_orI, e_andI, e_shr, wrapu, wrap8, tn1, nat1, ix_s, ix_z, st_s, st_z, fl_s, fl_z, fl1_s, fl1_z, map_s, map_z, true_and])
    refine ret_s ?_
    unfold fmtTs; rw [if_pos hb]
end Go.Proofs.Ytbddjkbbnflnkaa
