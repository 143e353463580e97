/- Lists of names that grow: plain; addText, l19Put. -/
import Derived.Test.YtbikbjgbpeipmaaUAsg1
import Derived.Test.YtbikbjgbpeipmaaSub1
namespace Go.Proofs.Ytbikbjgbpeipmaa
open Go.RowKit
set_option linter.unusedVariables false
set_option linter.unusedSimpArgs false
set_option maxRecDepth 100000

def putB (l : List ByteArray) (s : ByteArray) : List ByteArray := if hasB l s = true then l else l ++ [s]
theorem putB_len (l : List ByteArray) (s : ByteArray) : (putB l s).length ≤ l.length + 1 := by
  unfold putB
  split
  · omega
  · simp
theorem fold_take {α β : Type} [Inhabited α] (f : β → α → β) (b : β) {L : List α} {i : Nat} (h : i < L.length) : (L.take (i + 1)).foldl f b = f ((L.take i).foldl f b) (L.getD i default) := by
  rw [List.take_succ_eq_append_getElem h, List.foldl_append, List.getD_eq_getElem?_getD, List.getElem?_eq_getElem h]; rfl
theorem fold_len {α : Type} {f : List ByteArray → α → List ByteArray} {g : α → Nat} (h : ∀ l x, (f l x).length ≤ l.length + g x) : ∀ (L : List α) (l : List ByteArray), (L.foldl f l).length ≤ l.length + sumOf g L
  | [], l => by simp [sumOf]
  | x :: L, l => by
    have h1 := fold_len h L (f l x)
    have h2 := h l x
    simp only [List.foldl_cons, sumOf]
    omega
theorem sumOf_mono {α : Type} {f g : α → Nat} (h : ∀ x, f x ≤ g x) : ∀ L : List α, sumOf f L ≤ sumOf g L
  | [] => by simp [sumOf]
  | x :: L => by
    have := sumOf_mono h L
    have := h x
    simp only [sumOf]; omega
theorem sumOf_one {α : Type} : ∀ L : List α, sumOf (fun _ => 1) L = L.length
  | [] => rfl
  | x :: L => by have := sumOf_one L; simp only [sumOf, List.length_cons]; omega
def c1 (x : Nod) : Nat := 1 + x.labels.length
theorem c1_le : ∀ t : List Nod, sumOf c1 t ≤ wtNods t
  | [] => by simp [sumOf]
  | x :: t => by
    have h := c1_le t
    have h1 : x.labels.length ≤ wtSs x.labels := wtSs_len (Nat.le_refl _)
    have h2 : wtNod x = x.text.size + wtSs x.labels := rfl
    unfold wtNods at h ⊢
    simp only [sumOf, List.length_cons, c1] at h ⊢
    omega
def asgL : List Int := [18, 22, 23, 24, 25, 26, 27]
def asgN (l : List ByteArray) (x : Nod) : List ByteArray := if x.kind ∈ asgL then putB l x.text else if x.kind = 8 then x.labels.foldl putB l else l
def asgT (t : List Nod) (i : Nat) : List ByteArray := (t.take i).foldl asgN []
def asgB (t : List Nod) : List ByteArray := if treeB t = true then asgT t t.length else []
theorem asgN_len (l : List ByteArray) (x : Nod) : (asgN l x).length ≤ l.length + c1 x := by
  unfold asgN c1
  split
  · have := putB_len l x.text; omega
  · split
    · have := fold_len (g := fun _ => 1) putB_len x.labels l
      rw [sumOf_one] at this; omega
    · omega
theorem asgT_len {t : List Nod} (h : wtNods t ≤ 1048576) (i : Nat) : (asgT t i).length ≤ 1048576 := by
  have h1 := fold_len asgN_len (t.take i) []
  have h2 := sumOf_le c1 t i
  have h3 := c1_le t
  unfold asgT
  simp only [List.length_nil] at h1
  omega
theorem asgB_len {t : List Nod} (h : wtNods t ≤ 1048576) : (asgB t).length ≤ 4000000 := by
  unfold asgB
  split
  · have := asgT_len h t.length; omega
  · simp
theorem tree_nB {t : List Nod} (h : treeB t = true) {i : Nat} (hi : i < t.length) : nB (t.getD i default) = true := by
  obtain ⟨k, -, -, -, h⟩ := lenT_step h hi
  exact h
theorem nB_name {x : Nod} (h : nB x = true) (hk : namK x.kind = true) : nameB x.text = true := by
  unfold nB nodB at h
  simp only [Bool.and_eq_true] at h
  have h := h.2.2.2.1
  unfold txtB at h
  rw [if_pos (.inr hk)] at h
  unfold namK at hk
  have hk := of_decide_eq_true hk
  unfold txtR at h
  rw [if_neg (by rintro e; rw [e] at hk; revert hk; decide), if_neg (by rintro e; rw [e] at hk; revert hk; decide), if_neg (by rintro e; rw [e] at hk; revert hk; decide), if_neg (by rintro e; rw [e] at hk; revert hk; decide)] at h
  exact h
theorem nB_labs {x : Nod} (h : nB x = true) (hk : x.kind = 8) {i : Nat} (hi : i < x.labels.length) : nameB (x.labels.getD i default) = true := by
  unfold nB nodB at h
  simp only [Bool.and_eq_true] at h
  have h := h.2.2.2.2
  rw [if_pos (by rw [hk]; decide)] at h
  unfold labR at h
  rw [if_pos hk] at h
  have := allB_iff.1 h i hi
  unfold labN at this
  simp only [Bool.and_eq_true] at this
  exact this.1
theorem nB_lab0 {x : Nod} (h : nB x = true) (hk : x.kind = 27) : x.labels.length = 1 ∧ nameB (x.labels.getD 0 default) = true := by
  unfold nB nodB at h
  simp only [Bool.and_eq_true] at h
  have h := h.2.2.2.2
  rw [if_pos (by rw [hk]; decide)] at h
  unfold labR at h
  rw [if_neg (by omega), if_neg (by omega), if_neg (by omega), if_pos hk] at h
  simp only [Bool.and_eq_true, decide_eq_true_eq] at h
  exact ⟨h.1, h.2.1⟩
theorem name_ne {s : ByteArray} (h : nameB s = true) : s ≠ ⟨#[]⟩ := by
  rintro rfl
  have := nameB_size h
  have e : (⟨#[]⟩ : ByteArray).size = 0 := rfl
  omega
theorem flat_s (l : List ByteArray) : Flat (l.map encS).flatten := flat_map (fun x d hd => by simp [encS] at hd; exact ⟨_, hd⟩) l
theorem implPut_m (l : List ByteArray) (s : ByteArray) (hl : l.length ≤ 10000000000) : MeetsP Try.prog 25 [(false, [encSs l]), (false, [.sc (.string s)])] [(false, [encSs (putB l s)], true)] := by
  have h := hasText_m 9 l s (by omega)
  refine meets_uppf Try.func25 u_impl_addText_g rfl (flat_s l) (by simp) ?_; simp only [u_impl_addText_u]
  simp only [encSs]
  unfold putB
  cases hb : hasB l s
  · rw [hb] at h
    repeat' (first | (with_reducible refine jn_in ?_) | (with_reducible refine cl_ok (by assumption) rfl ?_) | (with_reducible refine cl_okP (by assumption) rfl ?_) | (with_reducible refine br_if (fun hbr => ?_) (fun hbr => ?_)) | (with_reducible refine br_ifn (fun hbr => ?_) (fun hbr => ?_)) | (with_reducible refine br_nb (fun hbr => ?_) (fun hbr => ?_)) | (with_reducible refine br_b (fun hbr => ?_) (fun hbr => ?_)) | simp (disch := first | omega | (simp only [List.length_take, List.length_drop, List.length_append, List.map_cons, List.map_nil, List.length_map, List.length_cons, List.length_nil, List.length_set, List.length_replicate]; omega) | (simp only [List.length_cons, List.length_nil, Nat.zero_add, Nat.reduceAdd])) only [go_sem, ↓reduceIte, Nat.reduceAdd, Int.reduceNeg, Int.reduceAdd, Int.reduceSub, Int.reduceMul, Int.reduceLT, Int.reduceLE, Int.reduceEq, Int.reduceToNat, Nat.reduceBEq, e_sle, e_sge, e_shl1, e_orI, e_andI, e_shr, wrapu, wrap8, tn1, nat1, ix_s, ix_z, st_s, st_z, fl_s, fl_z, fl1_s, fl1_z, map_s, map_z, true_and])
    rfl
  · rw [hb] at h
    repeat' (first | (with_reducible refine jn_in ?_) | (with_reducible refine cl_ok (by assumption) rfl ?_) | (with_reducible refine cl_okP (by assumption) rfl ?_) | (with_reducible refine br_if (fun hbr => ?_) (fun hbr => ?_)) | (with_reducible refine br_ifn (fun hbr => ?_) (fun hbr => ?_)) | (with_reducible refine br_nb (fun hbr => ?_) (fun hbr => ?_)) | (with_reducible refine br_b (fun hbr => ?_) (fun hbr => ?_)) | simp (disch := first | omega | (simp only [List.length_take, List.length_drop, List.length_append, List.map_cons, List.map_nil, List.length_map, List.length_cons, List.length_nil, List.length_set, List.length_replicate]; omega) | (simp only [List.length_cons, List.length_nil, Nat.zero_add, Nat.reduceAdd])) only [go_sem, ↓reduceIte, Nat.reduceAdd, Int.reduceNeg, Int.reduceAdd, Int.reduceSub, Int.reduceMul, Int.reduceLT, Int.reduceLE, Int.reduceEq, Int.reduceToNat, Nat.reduceBEq, e_sle, e_sge, e_shl1, e_orI, e_andI, e_shr, wrapu, wrap8, tn1, nat1, ix_s, ix_z, st_s, st_z, fl_s, fl_z, fl1_s, fl1_z, map_s, map_z, true_and])
    rfl
theorem specPut_m (l : List ByteArray) (s : ByteArray) (hl : l.length ≤ 10000000000) (hs : s ≠ ⟨#[]⟩) : MeetsP Try.prog 22 [(false, [encSs l]), (false, [.sc (.string s)])] [(false, [encSs (putB l s)], true)] := by
  have h := l1Has_m 9 l s (by omega)
  refine meets_uppf Try.func22 u_spec_l19Put_g rfl (flat_s l) (by simp) ?_; simp only [u_spec_l19Put_u]
  simp only [encSs]
  unfold putB
  cases hb : hasB l s
  · rw [hb] at h
    repeat' (first | (with_reducible refine jn_in ?_) | (with_reducible refine cl_ok (by assumption) rfl ?_) | (with_reducible refine cl_okP (by assumption) rfl ?_) | (with_reducible refine br_if (fun hbr => ?_) (fun hbr => ?_)) | (with_reducible refine br_ifn (fun hbr => ?_) (fun hbr => ?_)) | (with_reducible refine br_nb (fun hbr => ?_) (fun hbr => ?_)) | (with_reducible refine br_b (fun hbr => ?_) (fun hbr => ?_)) | simp (disch := first | omega | (simp only [List.length_take, List.length_drop, List.length_append, List.map_cons, List.map_nil, List.length_map, List.length_cons, List.length_nil, List.length_set, List.length_replicate]; omega) | (simp only [List.length_cons, List.length_nil, Nat.zero_add, Nat.reduceAdd])) only [go_sem, ↓reduceIte, Nat.reduceAdd, Int.reduceNeg, Int.reduceAdd, Int.reduceSub, Int.reduceMul, Int.reduceLT, Int.reduceLE, Int.reduceEq, Int.reduceToNat, Nat.reduceBEq, e_sle, e_sge, e_shl1, e_orI, e_andI, e_shr, wrapu, wrap8, tn1, nat1, ix_s, ix_z, st_s, st_z, fl_s, fl_z, fl1_s, fl1_z, map_s, map_z, hs])
    all_goals first | rfl | contradiction
  · rw [hb] at h
    repeat' (first | (with_reducible refine jn_in ?_) | (with_reducible refine cl_ok (by assumption) rfl ?_) | (with_reducible refine cl_okP (by assumption) rfl ?_) | (with_reducible refine br_if (fun hbr => ?_) (fun hbr => ?_)) | (with_reducible refine br_ifn (fun hbr => ?_) (fun hbr => ?_)) | (with_reducible refine br_nb (fun hbr => ?_) (fun hbr => ?_)) | (with_reducible refine br_b (fun hbr => ?_) (fun hbr => ?_)) | simp (disch := first | omega | (simp only [List.length_take, List.length_drop, List.length_append, List.map_cons, List.map_nil, List.length_map, List.length_cons, List.length_nil, List.length_set, List.length_replicate]; omega) | (simp only [List.length_cons, List.length_nil, Nat.zero_add, Nat.reduceAdd])) only [go_sem, ↓reduceIte, Nat.reduceAdd, Int.reduceNeg, Int.reduceAdd, Int.reduceSub, Int.reduceMul, Int.reduceLT, Int.reduceLE, Int.reduceEq, Int.reduceToNat, Nat.reduceBEq, e_sle, e_sge, e_shl1, e_orI, e_andI, e_shr, wrapu, wrap8, tn1, nat1, ix_s, ix_z, st_s, st_z, fl_s, fl_z, fl1_s, fl1_z, map_s, map_z, hs])
    all_goals first | rfl | contradiction
end Go.Proofs.Ytbikbjgbpeipmaa
