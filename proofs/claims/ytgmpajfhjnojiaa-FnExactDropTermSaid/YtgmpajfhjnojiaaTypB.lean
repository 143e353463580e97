/- The laws' sizes, conversions, comparisons: []string, []int. -/
import Derived.Test.YtgmpajfhjnojiaaUTypB
import Derived.Test.YtgmpajfhjnojiaaTxt
import Derived.Test.YtgmpajfhjnojiaaRdT
import Derived.Test.YtgmpajfhjnojiaaFillL
namespace Go.Proofs.Ytgmpajfhjnojiaa
open Go.RowKit
set_option linter.unusedVariables false
set_option linter.unusedSimpArgs false
set_option maxRecDepth 100000


def sumOf {α : Type} (f : α → Nat) : List α → Nat
  | [] => 0
  | x :: l => f x + sumOf f l
theorem sumOf_app {α : Type} (f : α → Nat) (l m : List α) : sumOf f (l ++ m) = sumOf f l + sumOf f m := by
  induction l with
  | nil => simp [sumOf]
  | cons x l ih => simp only [List.cons_append, sumOf, ih]; omega
theorem sumOf_take {α : Type} [Inhabited α] (f : α → Nat) {l : List α} {i : Nat} (h : i < l.length) : sumOf f (l.take (i + 1)) = sumOf f (l.take i) + f (l.getD i default) := by
  rw [List.take_succ_eq_append_getElem h, sumOf_app, List.getD_eq_getElem?_getD, List.getElem?_eq_getElem h]; simp [sumOf]
theorem sumOf_le {α : Type} (f : α → Nat) (l : List α) (i : Nat) : sumOf f (l.take i) ≤ sumOf f l := by
  have := sumOf_app f (l.take i) (l.drop i)
  rw [List.take_append_drop] at this; omega
theorem sumOf_mem {α : Type} (f : α → Nat) {l : List α} {x : α} (h : x ∈ l) : f x ≤ sumOf f l := by
  induction l with
  | nil => cases h
  | cons y l ih => rcases List.mem_cons.1 h with rfl | h
                   · simp [sumOf]
                   · have := ih h; simp only [sumOf]; omega
theorem getD_mem {α : Type} [Inhabited α] {l : List α} {i : Nat} (h : i < l.length) : l.getD i default ∈ l := by
  rw [List.getD_eq_getElem?_getD, List.getElem?_eq_getElem h]; exact List.getElem_mem h
theorem fill0 {α β : Type} (l : List α) (e : α → β) (z : β) : List.replicate l.length z = fillL (l.map e) 0 z := by simp [fillL]
theorem fillL_endm {α β : Type} (l : List α) (e : α → β) (z : β) : fillL (l.map e) l.length z = l.map e := by have := fillL_end (l.map e) z; rwa [List.length_map] at this
theorem e_fill {α : Type} [Inhabited α] {e : α → List DV} {l : List α} {t k i : Nat} {kd : IntKind} {z ds : List DV} (hd : ds = e (l.getD i default)) (hz : z.length = k) (he : ∀ x, (e x).length = k) (h : i < l.length) :
    eSet k 0 (some (.sl t k (fillL (l.map e) i z))) (some (.sc (.int kd (i : Int)))) (some ds) = some [.sl t k (fillL (l.map e) (i + 1) z)] := by
  subst hd
  have h1 : (l.map e)[i]? = some (e (l.getD i default)) := by rw [List.getElem?_map, getD_some h]; rfl
  rw [e_set (e := z) (by omega) (by rw [he]; omega) (by rw [Int.toNat_natCast]; exact fillL_get (by simpa using h)), Int.toNat_natCast]
  have h2 : plug 0 (e (l.getD i default)) z = e (l.getD i default) := by
    unfold plug
    simp only [List.take_zero, List.nil_append, Nat.zero_add]
    rw [List.drop_of_length_le (by rw [he, hz]; exact Nat.le_refl _), List.append_nil]
  rw [h2, fillL_set h1]
theorem e_chkF {α : Type} {e : α → List DV} {l : List α} {t k i : Nat} {kd : IntKind} {z : List DV} (h : i < l.length) : eChk k (some (.sl t k (fillL (l.map e) i z))) (some (.sc (.int kd (i : Int)))) = some [] :=
  e_chk (by omega) (by rw [fillL_len (by simp; omega)]; simp; omega)
theorem e_makeL {α : Type} {e : α → List DV} {l : List α} {el k b : Nat} {zz : List DV} (h1 : l.length ≤ 1000000000) (hb : b ≤ 140) : eMake el k b zz (some (.sc (.int .i64 (l.length : Int)))) = some [.sl el k (fillL (l.map e) 0 zz)] := by
  rw [e_make (by omega) (by omega) hb, ← fill0, Int.toNat_natCast]

def wtSs (l : List ByteArray) : Nat := l.length + sumOf ByteArray.size l
def OkSs (l : List ByteArray) : Prop := l.length ≤ 9223372036854775807 ∧ ∀ s ∈ l, s.size ≤ 9223372036854775807
def OkZs (l : List Int) : Prop := l.length ≤ 9223372036854775807 ∧ ∀ n ∈ l, In64 n
theorem wtSs_len {l : List ByteArray} {n : Nat} (h : wtSs l ≤ n) : l.length ≤ n := by unfold wtSs at h; omega
theorem wtSs_size {l : List ByteArray} {n : Nat} (h : wtSs l ≤ n) : ∀ s ∈ l, s.size ≤ n := fun s hs => by have := sumOf_mem ByteArray.size hs; unfold wtSs at h; omega
theorem hasB_take {F : List ByteArray} {i : Nat} (h : i < F.length) : hasB (F.take i) (F.getD i default) = decide (find1 F (F.getD i default) < i) := by
  have hm := getD_mem (l := F) h
  rcases find1_spec F (F.getD i default) with ⟨_, h2⟩ | ⟨k, h1, h2, h3⟩
  · exact absurd hm h2
  · rw [h1]
    rw [Bool.eq_iff_iff, hasB_iff, decide_eq_true_eq]
    constructor
    · intro hx
      obtain ⟨j, hj⟩ := List.getElem?_of_mem hx
      have hj2 := (List.getElem?_eq_some_iff.1 hj).1
      rw [List.length_take] at hj2
      rw [List.getElem?_take, if_pos (by omega)] at hj
      rcases Nat.lt_or_ge j k with g | g
      · exact absurd hj (h3 j g)
      · omega
    · intro hk
      refine List.mem_of_getElem? (i := k) ?_
      rw [List.getElem?_take, if_pos (by omega)]; exact h2
theorem opD_Ss : OpD (fun l => [encSs l]) OkSs Try.prog 22 := opD_slice (e := encS) 9 Try.underlying22 (by kernel_rfl) (by decide) (fun _ => rfl) (opD_str Try.underlying9)
theorem opD_Zs : OpD (fun l => [encZs l]) OkZs Try.prog 23 := opD_slice (e := encZ) 3 Try.underlying23 (by kernel_rfl) (by decide) (fun _ => rfl) (opD_int Try.underlying3)

theorem szSs_m (l : List ByteArray) (left : Int) (ok : OkSs l) (h0 : 0 ≤ left) (h1 : left ≤ 1048576) : Meets Try.prog 24 [(false, [encSs l]), (false, [.sc (.int .i64 left)])] [(false, [.sc (.int .i64 (szF left (wtSs l)))], true)] := by
  obtain ⟨k1, k2⟩ := ok
  refine meets_upf Try.func24 u_laws_szStringS_g rfl ?_; simp only [u_laws_szStringS_u]
  simp only [encSs]
  simp (disch := first | omega | (simp only [List.length_take, List.length_drop, List.length_append, List.map_cons, List.map_nil, List.length_map, List.length_cons, List.length_nil, List.length_set, List.length_replicate]; omega) | (simp only [List.length_cons, List.length_nil, Nat.zero_add, Nat.reduceAdd])) only [go_sem, ↓reduceIte, Nat.reduceAdd, Int.reduceNeg, Int.reduceAdd, Int.reduceSub, Int.reduceMul, Int.reduceLT, Int.reduceLE, Int.reduceEq, Int.reduceToNat, Nat.reduceBEq, e_sle, e_sge, e_shl1, e_orI, e_andI, e_shr, wrapu, wrap8, tn1, nat1, ix_s, ix_z, st_s, st_z, fl_s, fl_z, fl1_s, fl1_z, map_s, map_z, true_and]
  refine br_if (fun hbr => ?_) (fun hbr => ?_)
  · simp (disch := first | omega | (simp only [List.length_take, List.length_drop, List.length_append, List.map_cons, List.map_nil, List.length_map, List.length_cons, List.length_nil, List.length_set, List.length_replicate]; omega) | (simp only [List.length_cons, List.length_nil, Nat.zero_add, Nat.reduceAdd])) only [go_sem, ↓reduceIte, Nat.reduceAdd, Int.reduceNeg, Int.reduceAdd, Int.reduceSub, Int.reduceMul, Int.reduceLT, Int.reduceLE, Int.reduceEq, Int.reduceToNat, Nat.reduceBEq, e_sle, e_sge, e_shl1, e_orI, e_andI, e_shr, wrapu, wrap8, tn1, nat1, ix_s, ix_z, st_s, st_z, fl_s, fl_z, fl1_s, fl1_z, map_s, map_z, true_and]
    exact ret_z (szF_gt (by unfold wtSs; omega))
  simp (disch := first | omega | (simp only [List.length_take, List.length_drop, List.length_append, List.map_cons, List.map_nil, List.length_map, List.length_cons, List.length_nil, List.length_set, List.length_replicate]; omega) | (simp only [List.length_cons, List.length_nil, Nat.zero_add, Nat.reduceAdd])) only [go_sem, ↓reduceIte, Nat.reduceAdd, Int.reduceNeg, Int.reduceAdd, Int.reduceSub, Int.reduceMul, Int.reduceLT, Int.reduceLE, Int.reduceEq, Int.reduceToNat, Nat.reduceBEq, e_sle, e_sge, e_shl1, e_orI, e_andI, e_shr, wrapu, wrap8, tn1, nat1, ix_s, ix_z, st_s, st_z, fl_s, fl_z, fl1_s, fl1_z, map_s, map_z, true_and]
  refine lp (fun i : Nat => [.sc (.int .i64 i), .sc (.int .i64 (left - (l.length : Int) - (sumOf ByteArray.size (l.take i) : Nat)))]) (fun i => i ≤ l.length ∧ (sumOf ByteArray.size (l.take i) : Nat) ≤ left - (l.length : Int)) (fun i => l.length - i) 0 (by simp [gL, sumOf]) ⟨by omega, by simp [sumOf]; omega⟩ ?_
  rintro i ⟨hi, hs⟩
  simp only [u_laws_szStringS_l0]
  by_cases hlt : i < l.length
  · have h3 := sumOf_take ByteArray.size hlt
    have h4 := k2 _ (getD_mem hlt)
    have h5 := sumOf_le ByteArray.size l (i + 1)
    repeat' (first | (with_reducible refine jn_in ?_) | (with_reducible refine cl_ok (by assumption) rfl ?_) | (with_reducible refine cl_okP (by assumption) rfl ?_) | (with_reducible refine br_if (fun hbr => ?_) (fun hbr => ?_)) | (with_reducible refine br_ifn (fun hbr => ?_) (fun hbr => ?_)) | (with_reducible refine br_nb (fun hbr => ?_) (fun hbr => ?_)) | (with_reducible refine br_b (fun hbr => ?_) (fun hbr => ?_)) | simp (disch := first | omega | (simp only [List.length_take, List.length_drop, List.length_append, List.map_cons, List.map_nil, List.length_map, List.length_cons, List.length_nil, List.length_set, List.length_replicate]; omega) | (simp only [List.length_cons, List.length_nil, Nat.zero_add, Nat.reduceAdd])) only [go_sem, ↓reduceIte, Nat.reduceAdd, Int.reduceNeg, Int.reduceAdd, Int.reduceSub, Int.reduceMul, Int.reduceLT, Int.reduceLE, Int.reduceEq, Int.reduceToNat, Nat.reduceBEq, e_sle, e_sge, e_shl1, e_orI, e_andI, e_shr, wrapu, wrap8, tn1, nat1, ix_s, ix_z, st_s, st_z, fl_s, fl_z, fl1_s, fl1_z, map_s, map_z, show left - (l.length : Int) - (sumOf ByteArray.size (l.take i) : Nat) - ((l.getD i default).size : Int) = left - (l.length : Int) - (sumOf ByteArray.size (l.take (i + 1)) : Nat) from by omega])
    · exact ret_z (szF_gt (by unfold wtSs; omega))
    · exact ⟨i + 1, rfl, ⟨by omega, by omega⟩, by omega⟩
    · omega
  · obtain rfl : i = l.length := by omega
    rw [List.take_length] at hs ⊢
    repeat' (first | (with_reducible refine jn_in ?_) | (with_reducible refine cl_ok (by assumption) rfl ?_) | (with_reducible refine cl_okP (by assumption) rfl ?_) | (with_reducible refine br_if (fun hbr => ?_) (fun hbr => ?_)) | (with_reducible refine br_ifn (fun hbr => ?_) (fun hbr => ?_)) | (with_reducible refine br_nb (fun hbr => ?_) (fun hbr => ?_)) | (with_reducible refine br_b (fun hbr => ?_) (fun hbr => ?_)) | simp (disch := first | omega | (simp only [List.length_take, List.length_drop, List.length_append, List.map_cons, List.map_nil, List.length_map, List.length_cons, List.length_nil, List.length_set, List.length_replicate]; omega) | (simp only [List.length_cons, List.length_nil, Nat.zero_add, Nat.reduceAdd])) only [go_sem, ↓reduceIte, Nat.reduceAdd, Int.reduceNeg, Int.reduceAdd, Int.reduceSub, Int.reduceMul, Int.reduceLT, Int.reduceLE, Int.reduceEq, Int.reduceToNat, Nat.reduceBEq, e_sle, e_sge, e_shl1, e_orI, e_andI, e_shr, wrapu, wrap8, tn1, nat1, ix_s, ix_z, st_s, st_z, fl_s, fl_z, fl1_s, fl1_z, map_s, map_z, true_and])
    all_goals first | omega | exact ret_z (by rw [szF_le (by unfold wtSs; omega)]; unfold wtSs; omega)
theorem szZs_m (l : List Int) (left : Int) (ok : l.length ≤ 9223372036854775807) (h0 : 0 ≤ left) (h1 : left ≤ 1048576) : Meets Try.prog 25 [(false, [encZs l]), (false, [.sc (.int .i64 left)])] [(false, [.sc (.int .i64 (szF left l.length))], true)] := by
  refine meets_upf Try.func25 u_laws_szIntS_g rfl ?_; simp only [u_laws_szIntS_u]
  simp only [encZs]
  repeat' (first | (with_reducible refine jn_in ?_) | (with_reducible refine cl_ok (by assumption) rfl ?_) | (with_reducible refine cl_okP (by assumption) rfl ?_) | (with_reducible refine br_if (fun hbr => ?_) (fun hbr => ?_)) | (with_reducible refine br_ifn (fun hbr => ?_) (fun hbr => ?_)) | (with_reducible refine br_nb (fun hbr => ?_) (fun hbr => ?_)) | (with_reducible refine br_b (fun hbr => ?_) (fun hbr => ?_)) | simp (disch := first | omega | (simp only [List.length_take, List.length_drop, List.length_append, List.map_cons, List.map_nil, List.length_map, List.length_cons, List.length_nil, List.length_set, List.length_replicate]; omega) | (simp only [List.length_cons, List.length_nil, Nat.zero_add, Nat.reduceAdd])) only [go_sem, ↓reduceIte, Nat.reduceAdd, Int.reduceNeg, Int.reduceAdd, Int.reduceSub, Int.reduceMul, Int.reduceLT, Int.reduceLE, Int.reduceEq, Int.reduceToNat, Nat.reduceBEq, e_sle, e_sge, e_shl1, e_orI, e_andI, e_shr, wrapu, wrap8, tn1, nat1, ix_s, ix_z, st_s, st_z, fl_s, fl_z, fl1_s, fl1_z, map_s, map_z, true_and])
  · exact ret_z (szF_gt (by omega))
  · exact ret_z (by rw [szF_le (by omega)])
theorem toSs_m (l : List ByteArray) (h : l.length ≤ 1048576) : Meets Try.prog 30 [(false, [encSs l])] [(false, [encSs l], true)] := by
  refine meets_upf Try.func30 u_laws_toStringS_g rfl ?_; simp only [u_laws_toStringS_u]
  simp only [encSs]
  have hm := fun b (hb : b ≤ 140) => e_makeL (e := encS) (l := l) (el := 9) (k := 1) (b := b) (zz := [.sc (.string ⟨#[]⟩)]) (by omega) hb
  have hm1 := hm 16 (by decide)
  simp (disch := first | omega | (simp only [List.length_take, List.length_drop, List.length_append, List.map_cons, List.map_nil, List.length_map, List.length_cons, List.length_nil, List.length_set, List.length_replicate]; omega) | (simp only [List.length_cons, List.length_nil, Nat.zero_add, Nat.reduceAdd])) only [go_sem, ↓reduceIte, Nat.reduceAdd, Int.reduceNeg, Int.reduceAdd, Int.reduceSub, Int.reduceMul, Int.reduceLT, Int.reduceLE, Int.reduceEq, Int.reduceToNat, Nat.reduceBEq, e_sle, e_sge, e_shl1, e_orI, e_andI, e_shr, wrapu, wrap8, tn1, nat1, ix_s, ix_z, st_s, st_z, fl_s, fl_z, fl1_s, fl1_z, map_s, map_z, hm1]
  refine lp_n l.length (fun i => [.sc (.int .i64 i), .sl 9 1 (fillL (l.map encS) i [.sc (.string ⟨#[]⟩)])]) rfl fun i hi => ?_
  simp only [u_laws_toStringS_l0]
  by_cases hlt : i < l.length
  · have e1 := e_chkF (e := encS) (t := 9) (k := 1) (kd := .i64) (z := [.sc (.string ⟨#[]⟩)]) hlt
    have e2 := e_fill (e := encS) (t := 9) (k := 1) (kd := .i64) (z := [.sc (.string ⟨#[]⟩)]) rfl rfl (fun _ => rfl) hlt
    simp only [encS] at e2
    repeat' (first | (with_reducible refine jn_in ?_) | (with_reducible refine cl_ok (by assumption) rfl ?_) | (with_reducible refine cl_okP (by assumption) rfl ?_) | (with_reducible refine br_if (fun hbr => ?_) (fun hbr => ?_)) | (with_reducible refine br_ifn (fun hbr => ?_) (fun hbr => ?_)) | (with_reducible refine br_nb (fun hbr => ?_) (fun hbr => ?_)) | (with_reducible refine br_b (fun hbr => ?_) (fun hbr => ?_)) | simp (disch := first | omega | (simp only [List.length_take, List.length_drop, List.length_append, List.map_cons, List.map_nil, List.length_map, List.length_cons, List.length_nil, List.length_set, List.length_replicate]; omega) | (simp only [List.length_cons, List.length_nil, Nat.zero_add, Nat.reduceAdd])) only [go_sem, ↓reduceIte, Nat.reduceAdd, Int.reduceNeg, Int.reduceAdd, Int.reduceSub, Int.reduceMul, Int.reduceLT, Int.reduceLE, Int.reduceEq, Int.reduceToNat, Nat.reduceBEq, e_sle, e_sge, e_shl1, e_orI, e_andI, e_shr, wrapu, wrap8, tn1, nat1, ix_s, ix_z, st_s, st_z, fl_s, fl_z, fl1_s, fl1_z, map_s, map_z, e1, encS, e2])
    · omega
    · omega
  · obtain rfl : i = l.length := by omega
    repeat' (first | (with_reducible refine jn_in ?_) | (with_reducible refine cl_ok (by assumption) rfl ?_) | (with_reducible refine cl_okP (by assumption) rfl ?_) | (with_reducible refine br_if (fun hbr => ?_) (fun hbr => ?_)) | (with_reducible refine br_ifn (fun hbr => ?_) (fun hbr => ?_)) | (with_reducible refine br_nb (fun hbr => ?_) (fun hbr => ?_)) | (with_reducible refine br_b (fun hbr => ?_) (fun hbr => ?_)) | simp (disch := first | omega | (simp only [List.length_take, List.length_drop, List.length_append, List.map_cons, List.map_nil, List.length_map, List.length_cons, List.length_nil, List.length_set, List.length_replicate]; omega) | (simp only [List.length_cons, List.length_nil, Nat.zero_add, Nat.reduceAdd])) only [go_sem, ↓reduceIte, Nat.reduceAdd, Int.reduceNeg, Int.reduceAdd, Int.reduceSub, Int.reduceMul, Int.reduceLT, Int.reduceLE, Int.reduceEq, Int.reduceToNat, Nat.reduceBEq, e_sle, e_sge, e_shl1, e_orI, e_andI, e_shr, wrapu, wrap8, tn1, nat1, ix_s, ix_z, st_s, st_z, fl_s, fl_z, fl1_s, fl1_z, map_s, map_z, fillL_endm])
    · omega
    · rfl
theorem toZs_m (l : List Int) (h : l.length ≤ 1048576) : Meets Try.prog 31 [(false, [encZs l])] [(false, [encZs l], true)] := by
  refine meets_upf Try.func31 u_laws_toIntS_g rfl ?_; simp only [u_laws_toIntS_u]
  simp only [encZs]
  have hm := fun b (hb : b ≤ 140) => e_makeL (e := encZ) (l := l) (el := 3) (k := 1) (b := b) (zz := [.sc (.int .i64 0)]) (by omega) hb
  have hm1 := hm 8 (by decide)
  simp (disch := first | omega | (simp only [List.length_take, List.length_drop, List.length_append, List.map_cons, List.map_nil, List.length_map, List.length_cons, List.length_nil, List.length_set, List.length_replicate]; omega) | (simp only [List.length_cons, List.length_nil, Nat.zero_add, Nat.reduceAdd])) only [go_sem, ↓reduceIte, Nat.reduceAdd, Int.reduceNeg, Int.reduceAdd, Int.reduceSub, Int.reduceMul, Int.reduceLT, Int.reduceLE, Int.reduceEq, Int.reduceToNat, Nat.reduceBEq, e_sle, e_sge, e_shl1, e_orI, e_andI, e_shr, wrapu, wrap8, tn1, nat1, ix_s, ix_z, st_s, st_z, fl_s, fl_z, fl1_s, fl1_z, map_s, map_z, hm1]
  refine lp_n l.length (fun i => [.sc (.int .i64 i), .sl 3 1 (fillL (l.map encZ) i [.sc (.int .i64 0)])]) rfl fun i hi => ?_
  simp only [u_laws_toIntS_l0]
  by_cases hlt : i < l.length
  · have e1 := e_chkF (e := encZ) (t := 3) (k := 1) (kd := .i64) (z := [.sc (.int .i64 0)]) hlt
    have e2 := e_fill (e := encZ) (t := 3) (k := 1) (kd := .i64) (z := [.sc (.int .i64 0)]) rfl rfl (fun _ => rfl) hlt
    simp only [encZ] at e2
    repeat' (first | (with_reducible refine jn_in ?_) | (with_reducible refine cl_ok (by assumption) rfl ?_) | (with_reducible refine cl_okP (by assumption) rfl ?_) | (with_reducible refine br_if (fun hbr => ?_) (fun hbr => ?_)) | (with_reducible refine br_ifn (fun hbr => ?_) (fun hbr => ?_)) | (with_reducible refine br_nb (fun hbr => ?_) (fun hbr => ?_)) | (with_reducible refine br_b (fun hbr => ?_) (fun hbr => ?_)) | simp (disch := first | omega | (simp only [List.length_take, List.length_drop, List.length_append, List.map_cons, List.map_nil, List.length_map, List.length_cons, List.length_nil, List.length_set, List.length_replicate]; omega) | (simp only [List.length_cons, List.length_nil, Nat.zero_add, Nat.reduceAdd])) only [go_sem, ↓reduceIte, Nat.reduceAdd, Int.reduceNeg, Int.reduceAdd, Int.reduceSub, Int.reduceMul, Int.reduceLT, Int.reduceLE, Int.reduceEq, Int.reduceToNat, Nat.reduceBEq, e_sle, e_sge, e_shl1, e_orI, e_andI, e_shr, wrapu, wrap8, tn1, nat1, ix_s, ix_z, st_s, st_z, fl_s, fl_z, fl1_s, fl1_z, map_s, map_z, e1, encZ, e2])
    · omega
    · omega
  · obtain rfl : i = l.length := by omega
    repeat' (first | (with_reducible refine jn_in ?_) | (with_reducible refine cl_ok (by assumption) rfl ?_) | (with_reducible refine cl_okP (by assumption) rfl ?_) | (with_reducible refine br_if (fun hbr => ?_) (fun hbr => ?_)) | (with_reducible refine br_ifn (fun hbr => ?_) (fun hbr => ?_)) | (with_reducible refine br_nb (fun hbr => ?_) (fun hbr => ?_)) | (with_reducible refine br_b (fun hbr => ?_) (fun hbr => ?_)) | simp (disch := first | omega | (simp only [List.length_take, List.length_drop, List.length_append, List.map_cons, List.map_nil, List.length_map, List.length_cons, List.length_nil, List.length_set, List.length_replicate]; omega) | (simp only [List.length_cons, List.length_nil, Nat.zero_add, Nat.reduceAdd])) only [go_sem, ↓reduceIte, Nat.reduceAdd, Int.reduceNeg, Int.reduceAdd, Int.reduceSub, Int.reduceMul, Int.reduceLT, Int.reduceLE, Int.reduceEq, Int.reduceToNat, Nat.reduceBEq, e_sle, e_sge, e_shl1, e_orI, e_andI, e_shr, wrapu, wrap8, tn1, nat1, ix_s, ix_z, st_s, st_z, fl_s, fl_z, fl1_s, fl1_z, map_s, map_z, fillL_endm])
    · omega
    · rfl
theorem eqSs_m (l : List ByteArray) (h : l.length ≤ 100000000000) : Meets Try.prog 34 [(false, [encSs l]), (false, [encSs l])] [(false, [.sc (.bool true)], true)] := by
  refine meets_upf Try.func34 u_laws_eqStringS_g rfl ?_; simp only [u_laws_eqStringS_u]
  simp only [encSs]
  simp (disch := first | omega | (simp only [List.length_take, List.length_drop, List.length_append, List.map_cons, List.map_nil, List.length_map, List.length_cons, List.length_nil, List.length_set, List.length_replicate]; omega) | (simp only [List.length_cons, List.length_nil, Nat.zero_add, Nat.reduceAdd])) only [go_sem, ↓reduceIte, Nat.reduceAdd, Int.reduceNeg, Int.reduceAdd, Int.reduceSub, Int.reduceMul, Int.reduceLT, Int.reduceLE, Int.reduceEq, Int.reduceToNat, Nat.reduceBEq, e_sle, e_sge, e_shl1, e_orI, e_andI, e_shr, wrapu, wrap8, tn1, nat1, ix_s, ix_z, st_s, st_z, fl_s, fl_z, fl1_s, fl1_z, map_s, map_z, eq_self]
  refine lp_n l.length (fun i => [.sc (.int .i64 i)]) rfl fun i hi => ?_
  simp only [u_laws_eqStringS_l0]
  repeat' (first | (with_reducible refine jn_in ?_) | (with_reducible refine cl_ok (by assumption) rfl ?_) | (with_reducible refine cl_okP (by assumption) rfl ?_) | (with_reducible refine br_if (fun hbr => ?_) (fun hbr => ?_)) | (with_reducible refine br_ifn (fun hbr => ?_) (fun hbr => ?_)) | (with_reducible refine br_nb (fun hbr => ?_) (fun hbr => ?_)) | (with_reducible refine br_b (fun hbr => ?_) (fun hbr => ?_)) | simp (disch := first | omega | (simp only [List.length_take, List.length_drop, List.length_append, List.map_cons, List.map_nil, List.length_map, List.length_cons, List.length_nil, List.length_set, List.length_replicate]; omega) | (simp only [List.length_cons, List.length_nil, Nat.zero_add, Nat.reduceAdd])) only [go_sem, ↓reduceIte, Nat.reduceAdd, Int.reduceNeg, Int.reduceAdd, Int.reduceSub, Int.reduceMul, Int.reduceLT, Int.reduceLE, Int.reduceEq, Int.reduceToNat, Nat.reduceBEq, e_sle, e_sge, e_shl1, e_orI, e_andI, e_shr, wrapu, wrap8, tn1, nat1, ix_s, ix_z, st_s, st_z, fl_s, fl_z, fl1_s, fl1_z, map_s, map_z, eq_self])
  · omega
  · rfl
theorem eqZs_m (l : List Int) (h : l.length ≤ 100000000000) : Meets Try.prog 35 [(false, [encZs l]), (false, [encZs l])] [(false, [.sc (.bool true)], true)] := by
  refine meets_upf Try.func35 u_laws_eqIntS_g rfl ?_; simp only [u_laws_eqIntS_u]
  simp only [encZs]
  simp (disch := first | omega | (simp only [List.length_take, List.length_drop, List.length_append, List.map_cons, List.map_nil, List.length_map, List.length_cons, List.length_nil, List.length_set, List.length_replicate]; omega) | (simp only [List.length_cons, List.length_nil, Nat.zero_add, Nat.reduceAdd])) only [go_sem, ↓reduceIte, Nat.reduceAdd, Int.reduceNeg, Int.reduceAdd, Int.reduceSub, Int.reduceMul, Int.reduceLT, Int.reduceLE, Int.reduceEq, Int.reduceToNat, Nat.reduceBEq, e_sle, e_sge, e_shl1, e_orI, e_andI, e_shr, wrapu, wrap8, tn1, nat1, ix_s, ix_z, st_s, st_z, fl_s, fl_z, fl1_s, fl1_z, map_s, map_z, eq_self]
  refine lp_n l.length (fun i => [.sc (.int .i64 i)]) rfl fun i hi => ?_
  simp only [u_laws_eqIntS_l0]
  repeat' (first | (with_reducible refine jn_in ?_) | (with_reducible refine cl_ok (by assumption) rfl ?_) | (with_reducible refine cl_okP (by assumption) rfl ?_) | (with_reducible refine br_if (fun hbr => ?_) (fun hbr => ?_)) | (with_reducible refine br_ifn (fun hbr => ?_) (fun hbr => ?_)) | (with_reducible refine br_nb (fun hbr => ?_) (fun hbr => ?_)) | (with_reducible refine br_b (fun hbr => ?_) (fun hbr => ?_)) | simp (disch := first | omega | (simp only [List.length_take, List.length_drop, List.length_append, List.map_cons, List.map_nil, List.length_map, List.length_cons, List.length_nil, List.length_set, List.length_replicate]; omega) | (simp only [List.length_cons, List.length_nil, Nat.zero_add, Nat.reduceAdd])) only [go_sem, ↓reduceIte, Nat.reduceAdd, Int.reduceNeg, Int.reduceAdd, Int.reduceSub, Int.reduceMul, Int.reduceLT, Int.reduceLE, Int.reduceEq, Int.reduceToNat, Nat.reduceBEq, e_sle, e_sge, e_shl1, e_orI, e_andI, e_shr, wrapu, wrap8, tn1, nat1, ix_s, ix_z, st_s, st_z, fl_s, fl_z, fl1_s, fl1_z, map_s, map_z, eq_self])
  · omega
  · rfl
end Go.Proofs.Ytgmpajfhjnojiaa
