/- Proved: for every input the law 'FnExactIsStore' returns true and its arguments read behind the call as before: part 4 of its proof. No condition. -/
import Derived.WalkKit
import Derived.Lib.Hide
import Derived.WalkSpells
import Derived.Laws.OwnMore
import Derived.Deep.AppendLies
import Derived.Deep.Draws
import Derived.Maps.AppendAt
import Derived.RegionTactic
import Derived.OwnWalk
import Derived.Below
import Derived.Laws.AppendOwnNone
import Derived.Deep.QuietTactic
import Derived.BigQuiet
import Derived.StillTailTactics
import Derived.Laws.Cells
import Derived.Laws.IdiomCopy
import Derived.ChangeKeysEq
import Derived.Laws.BytesArg
import Derived.Laws.StructEq
import Derived.Laws.Tables
import Derived.Great.BuildSlice
import Derived.StillTail
import Derived.OrdersHeld
import Derived.Test.YtkhibgknpcgneaaProg
import Derived.Deep.Slices
import Derived.Deep.Fields
import Derived.ChangeSame
import Derived.OpenShut
import Derived.Laws.ResultCell
import Derived.Deep.RegionWith
import Derived.Test.YtkhibgknpcgneaaExIsStoreQ3
set_option linter.unusedVariables false
set_option linter.unusedSimpArgs false
namespace Go.Proofs.Ytkhibgknpcgneaa
open Go.RowKit
def szF (left : Int) (wt : Nat) : Int := if (wt : Int) ≤ left then left - wt else -1
theorem szF_le {left : Int} {wt : Nat} (h : (wt : Int) ≤ left) : szF left wt = left - wt := if_pos h
theorem szF_gt {left : Int} {wt : Nat} (h : left < wt) : szF left wt = -1 := if_neg (by omega)
def fillL {α : Type} (l : List α) (k : Nat) (z : α) : List α := l.take k ++ List.replicate (l.length - k) z
theorem fillL_len {α : Type} {l : List α} {k : Nat} {z : α} (h : k ≤ l.length) : (fillL l k z).length = l.length := by simp [fillL]; omega
theorem fillL_get {α : Type} {l : List α} {k : Nat} {z : α} (h : k < l.length) : (fillL l k z)[k]? = some z := by
  unfold fillL
  rw [List.getElem?_append_right (by simp; omega), List.length_take, Nat.min_eq_left (by omega), Nat.sub_self, List.getElem?_replicate, if_pos (by omega)]
theorem fillL_set {α : Type} {l : List α} {k : Nat} {x z : α} (h : l[k]? = some x) : (fillL l k z).set k x = fillL l (k + 1) z := by
  have hk : k < l.length := (List.getElem?_eq_some_iff.1 h).1
  apply List.ext_getElem?
  intro j
  rw [List.getElem?_set]
  unfold fillL
  by_cases hj : k = j
  · subst hj
    rw [if_pos rfl, if_pos (by simp; omega), List.getElem?_append_left (by simp; omega)]
    rw [List.getElem?_take, if_pos (by omega), h]
  · rw [if_neg hj]
    by_cases hlt : j < k
    · rw [List.getElem?_append_left (by simp; omega), List.getElem?_append_left (by simp; omega), List.getElem?_take, List.getElem?_take, if_pos hlt, if_pos (by omega)]
    · rw [List.getElem?_append_right (by simp; omega), List.getElem?_append_right (by simp; omega)]
      simp only [List.length_take, List.getElem?_replicate]
      have e1 : (j - min k l.length < l.length - k) ↔ (j - min (k + 1) l.length < l.length - (k + 1)) := by omega
      by_cases h2 : j - min k l.length < l.length - k
      · rw [if_pos h2, if_pos (e1.1 h2)]
      · rw [if_neg h2, if_neg (fun h => h2 (e1.2 h))]
theorem fillL_end {α : Type} (l : List α) (z : α) : fillL l l.length z = l := by simp [fillL]
end Go.Proofs.Ytkhibgknpcgneaa

namespace Go.Proofs.Ytkhibgknpcgneaa
open List (length_take length_drop length_append map_cons map_nil length_map length_cons length_nil length_set length_replicate)
open Go.RowKit
set_option maxRecDepth 100000
def sumOf {α : Type} (f : α → Nat) : List α → Nat
  | [] => 0
  | x :: l => f x + sumOf f l
theorem sumOf_app {α : Type} (f : α → Nat) (l m : List α) : sumOf f (l ++ m) = sumOf f l + sumOf f m := by
  induction l with
  | nil => simp [sumOf]
  | cons x l ih => simp only [List.cons_append, sumOf, ih]; omega
theorem sumOf_take {α : Type} [Inhabited α] (f : α → Nat) {l : List α} {i : Nat} (h : i < l.length) : sumOf f (l.take (i + 1)) = sumOf f (l.take i) + f (l.getD i default) := by
  rw [List.take_succ_eq_append_getElem h, sumOf_app, List.getD_eq_getElem?_getD, List.getElem?_eq_getElem h]; simp [sumOf]
theorem sumOf_le {α : Type} (f : α → Nat) (l : List α) (i : Nat) : sumOf f (l.take i) ≤ sumOf f l := by
  have := sumOf_app f (l.take i) (l.drop i)
  rw [List.take_append_drop] at this; omega
theorem sumOf_mem {α : Type} (f : α → Nat) {l : List α} {x : α} (h : x ∈ l) : f x ≤ sumOf f l := by
  induction l with
  | nil => cases h
  | cons y l ih => rcases List.mem_cons.1 h with rfl | h
                   · simp [sumOf]
                   · have := ih h; simp only [sumOf]; omega
theorem getD_mem {α : Type} [Inhabited α] {l : List α} {i : Nat} (h : i < l.length) : l.getD i default ∈ l := by
  rw [List.getD_eq_getElem?_getD, List.getElem?_eq_getElem h]; exact List.getElem_mem h
theorem fill0 {α β : Type} (l : List α) (e : α → β) (z : β) : List.replicate l.length z = fillL (l.map e) 0 z := by simp [fillL]
theorem fillL_endm {α β : Type} (l : List α) (e : α → β) (z : β) : fillL (l.map e) l.length z = l.map e := by have := fillL_end (l.map e) z; rwa [List.length_map] at this
theorem e_fill {α : Type} [Inhabited α] {e : α → List DV} {l : List α} {t k i : Nat} {kd : IntKind} {z ds : List DV} (hd : ds = e (l.getD i default)) (hz : z.length = k) (he : ∀ x, (e x).length = k) (h : i < l.length) :
    eSet k 0 (some (.sl t k (fillL (l.map e) i z))) (some (.sc (.int kd (i : Int)))) (some ds) = some [.sl t k (fillL (l.map e) (i + 1) z)] := by
  subst hd
  have h1 : (l.map e)[i]? = some (e (l.getD i default)) := by rw [List.getElem?_map, getD_some h]; rfl
  rw [e_set (e := z) (by omega) (by rw [he]; omega) (by rw [Int.toNat_natCast]; exact fillL_get (by simpa using h)), Int.toNat_natCast]
  have h2 : plug 0 (e (l.getD i default)) z = e (l.getD i default) := by
    unfold plug
    simp only [List.take_zero, List.nil_append, Nat.zero_add]
    rw [List.drop_of_length_le (by rw [he, hz]; exact Nat.le_refl _), List.append_nil]
  rw [h2, fillL_set h1]
theorem e_chkF {α : Type} {e : α → List DV} {l : List α} {t k i : Nat} {kd : IntKind} {z : List DV} (h : i < l.length) : eChk k (some (.sl t k (fillL (l.map e) i z))) (some (.sc (.int kd (i : Int)))) = some [] :=
  e_chk (by omega) (by rw [fillL_len (by simp; omega)]; simp; omega)
theorem e_makeL {α : Type} {e : α → List DV} {l : List α} {el k b : Nat} {zz : List DV} (h1 : l.length ≤ 1000000000) (hb : b ≤ 140) : eMake el k b zz (some (.sc (.int .i64 (l.length : Int)))) = some [.sl el k (fillL (l.map e) 0 zz)] := by
  rw [e_make (by omega) (by omega) hb, ← fill0, Int.toNat_natCast]
def wtSs (l : List ByteArray) : Nat := l.length + sumOf ByteArray.size l
def OkSs (l : List ByteArray) : Prop := l.length ≤ 9223372036854775807 ∧ ∀ s ∈ l, s.size ≤ 9223372036854775807
def OkZs (l : List Int) : Prop := l.length ≤ 9223372036854775807 ∧ ∀ n ∈ l, In64 n
theorem wtSs_len {l : List ByteArray} {n : Nat} (h : wtSs l ≤ n) : l.length ≤ n := by unfold wtSs at h; omega
theorem wtSs_size {l : List ByteArray} {n : Nat} (h : wtSs l ≤ n) : ∀ s ∈ l, s.size ≤ n := fun s hs => by have := sumOf_mem ByteArray.size hs; unfold wtSs at h; omega
theorem hasB_take {F : List ByteArray} {i : Nat} (h : i < F.length) : hasB (F.take i) (F.getD i default) = decide (find1 F (F.getD i default) < i) := by
  have hm := getD_mem (l := F) h
  rcases find1_spec F (F.getD i default) with ⟨_, h2⟩ | ⟨k, h1, h2, h3⟩
  · exact absurd hm h2
  · rw [h1]
    rw [Bool.eq_iff_iff, hasB_iff, decide_eq_true_eq]
    constructor
    · intro hx
      obtain ⟨j, hj⟩ := List.getElem?_of_mem hx
      have hj2 := (List.getElem?_eq_some_iff.1 hj).1
      rw [List.length_take] at hj2
      rw [List.getElem?_take, if_pos (by omega)] at hj
      rcases Nat.lt_or_ge j k with g | g
      · exact absurd hj (h3 j g)
      · omega
    · intro hk
      refine List.mem_of_getElem? (i := k) ?_
      rw [List.getElem?_take, if_pos (by omega)]; exact h2
theorem opD_Ss : OpD (fun l => [encSs l]) OkSs Try.prog 40 := opD_slice (e := encS) 9 Try.underlying40 (by kernel_rfl) (by decide) (fun _ => rfl) (opD_str Try.underlying9)
theorem opD_Zs : OpD (fun l => [encZs l]) OkZs Try.prog 70 := opD_slice (e := encZ) 3 Try.underlying70 (by kernel_rfl) (by decide) (fun _ => rfl) (opD_int Try.underlying3)
theorem szSs_m (l : List ByteArray) (left : Int) (ok : OkSs l) (h0 : 0 ≤ left) (h1 : left ≤ 1048576) : Meets Try.prog 39 [(false, [encSs l]), (false, [.sc (.int .i64 left)])] [(false, [.sc (.int .i64 (szF left (wtSs l)))], true)] := by
  obtain ⟨k1, k2⟩ := ok
  refine meets_upf Try.func39 u_laws_szStringS_g rfl ?_; simp only [u_laws_szStringS_u]
  simp only [encSs]
  simp (disch := first | omega | (simp only [length_take, length_drop, length_append, map_cons, map_nil, length_map, length_cons, length_nil, length_set, length_replicate]; omega) | (simp only [length_cons, length_nil, Nat.zero_add, Nat.reduceAdd])) only [go_sem, ↓reduceIte, Nat.reduceAdd, Int.reduceNeg, Int.reduceAdd, Int.reduceSub, Int.reduceMul, Int.reduceLT, Int.reduceLE, Int.reduceEq, Int.reduceToNat, Nat.reduceBEq, nat1, true_and]
  refine br_if (fun hbr => ?_) (fun hbr => ?_)
  · simp (disch := first | omega | (simp only [length_take, length_drop, length_append, map_cons, map_nil, length_map, length_cons, length_nil, length_set, length_replicate]; omega) | (simp only [length_cons, length_nil, Nat.zero_add, Nat.reduceAdd])) only [go_sem, ↓reduceIte, Nat.reduceAdd, Int.reduceNeg, Int.reduceAdd, Int.reduceSub, Int.reduceMul, Int.reduceLT, Int.reduceLE, Int.reduceEq, Int.reduceToNat, Nat.reduceBEq, nat1, true_and]
    exact ret_z (szF_gt (by unfold wtSs; omega))
  simp (disch := first | omega | (simp only [length_take, length_drop, length_append, map_cons, map_nil, length_map, length_cons, length_nil, length_set, length_replicate]; omega) | (simp only [length_cons, length_nil, Nat.zero_add, Nat.reduceAdd])) only [go_sem, ↓reduceIte, Nat.reduceAdd, Int.reduceNeg, Int.reduceAdd, Int.reduceSub, Int.reduceMul, Int.reduceLT, Int.reduceLE, Int.reduceEq, Int.reduceToNat, Nat.reduceBEq, nat1, true_and]
  refine lp (fun i : Nat => [.sc (.int .i64 i), .sc (.int .i64 (left - (l.length : Int) - (sumOf ByteArray.size (l.take i) : Nat)))]) (fun i => i ≤ l.length ∧ (sumOf ByteArray.size (l.take i) : Nat) ≤ left - (l.length : Int)) (fun i => l.length - i) 0 (by simp [gL, sumOf]) ⟨by omega, by simp [sumOf]; omega⟩ ?_
  rintro i ⟨hi, hs⟩
  simp only [u_laws_szStringS_l0]
  by_cases hlt : i < l.length
  · have h3 := sumOf_take ByteArray.size hlt
    have h4 := k2 _ (getD_mem hlt)
    have h5 := sumOf_le ByteArray.size l (i + 1)
    repeat' (first | (with_reducible first | refine jn_in ?_ | refine cl_ok (by assumption) rfl ?_ | refine cl_okP (by assumption) rfl ?_ | refine br_if (fun hbr => ?_) fun hbr => ?_ | refine br_ifn (fun hbr => ?_) fun hbr => ?_ | refine br_nb (fun hbr => ?_) fun hbr => ?_ | refine br_b (fun hbr => ?_) fun hbr => ?_) | simp (disch := first | omega | (simp only [length_take, length_drop, length_append, map_cons, map_nil, length_map, length_cons, length_nil, length_set, length_replicate]; omega) | (simp only [length_cons, length_nil, Nat.zero_add, Nat.reduceAdd])) only [go_sem, ↓reduceIte, Nat.reduceAdd, Int.reduceNeg, Int.reduceAdd, Int.reduceSub, Int.reduceMul, Int.reduceLT, Int.reduceLE, Int.reduceEq, Int.reduceToNat, Nat.reduceBEq, nat1, show left - (l.length : Int) - (sumOf ByteArray.size (l.take i) : Nat) - ((l.getD i default).size : Int) = left - (l.length : Int) - (sumOf ByteArray.size (l.take (i + 1)) : Nat) from by omega])
    · exact ret_z (szF_gt (by unfold wtSs; omega))
    · exact ⟨i + 1, rfl, ⟨by omega, by omega⟩, by omega⟩
    · omega
  · obtain rfl : i = l.length := by omega
    rw [List.take_length] at hs ⊢
    repeat' (first | (with_reducible first | refine jn_in ?_ | refine cl_ok (by assumption) rfl ?_ | refine cl_okP (by assumption) rfl ?_ | refine br_if (fun hbr => ?_) fun hbr => ?_ | refine br_ifn (fun hbr => ?_) fun hbr => ?_ | refine br_nb (fun hbr => ?_) fun hbr => ?_ | refine br_b (fun hbr => ?_) fun hbr => ?_) | simp (disch := first | omega | (simp only [length_take, length_drop, length_append, map_cons, map_nil, length_map, length_cons, length_nil, length_set, length_replicate]; omega) | (simp only [length_cons, length_nil, Nat.zero_add, Nat.reduceAdd])) only [go_sem, ↓reduceIte, Nat.reduceAdd, Int.reduceNeg, Int.reduceAdd, Int.reduceSub, Int.reduceMul, Int.reduceLT, Int.reduceLE, Int.reduceEq, Int.reduceToNat, Nat.reduceBEq, nat1, true_and])
    all_goals first | omega | exact ret_z (by rw [szF_le (by unfold wtSs; omega)]; unfold wtSs; omega)
theorem szZs_m (l : List Int) (left : Int) (ok : l.length ≤ 9223372036854775807) (h0 : 0 ≤ left) (h1 : left ≤ 1048576) : Meets Try.prog 73 [(false, [encZs l]), (false, [.sc (.int .i64 left)])] [(false, [.sc (.int .i64 (szF left l.length))], true)] := by
  refine meets_upf Try.func73 u_laws_szIntS_g rfl ?_; simp only [u_laws_szIntS_u]
  simp only [encZs]
  repeat' (first | (with_reducible first | refine jn_in ?_ | refine cl_ok (by assumption) rfl ?_ | refine cl_okP (by assumption) rfl ?_ | refine br_if (fun hbr => ?_) fun hbr => ?_ | refine br_ifn (fun hbr => ?_) fun hbr => ?_ | refine br_nb (fun hbr => ?_) fun hbr => ?_ | refine br_b (fun hbr => ?_) fun hbr => ?_) | simp (disch := first | omega | (simp only [length_take, length_drop, length_append, map_cons, map_nil, length_map, length_cons, length_nil, length_set, length_replicate]; omega) | (simp only [length_cons, length_nil, Nat.zero_add, Nat.reduceAdd])) only [go_sem, ↓reduceIte, Nat.reduceAdd, Int.reduceNeg, Int.reduceAdd, Int.reduceSub, Int.reduceMul, Int.reduceLT, Int.reduceLE, Int.reduceEq, Int.reduceToNat, Nat.reduceBEq, nat1, true_and])
  · exact ret_z (szF_gt (by omega))
  · exact ret_z (by rw [szF_le (by omega)])
theorem toSs_m (l : List ByteArray) (h : l.length ≤ 1048576) : Meets Try.prog 45 [(false, [encSs l])] [(false, [encSs l], true)] := by
  refine meets_upf Try.func45 u_laws_toStringS_g rfl ?_; simp only [u_laws_toStringS_u]
  simp only [encSs]
  have hm := fun b (hb : b ≤ 140) => e_makeL (e := encS) (l := l) (el := 9) (k := 1) (b := b) (zz := [.sc (.string ⟨#[]⟩)]) (by omega) hb
  have hm1 := hm 16 (by decide)
  simp (disch := first | omega | (simp only [length_take, length_drop, length_append, map_cons, map_nil, length_map, length_cons, length_nil, length_set, length_replicate]; omega) | (simp only [length_cons, length_nil, Nat.zero_add, Nat.reduceAdd])) only [go_sem, ↓reduceIte, Nat.reduceAdd, Int.reduceNeg, Int.reduceAdd, Int.reduceSub, Int.reduceMul, Int.reduceLT, Int.reduceLE, Int.reduceEq, Int.reduceToNat, Nat.reduceBEq, nat1, hm1]
  refine lp_n l.length (fun i => [.sc (.int .i64 i), .sl 9 1 (fillL (l.map encS) i [.sc (.string ⟨#[]⟩)])]) rfl fun i hi => ?_
  simp only [u_laws_toStringS_l0]
  by_cases hlt : i < l.length
  · have e1 := e_chkF (e := encS) (t := 9) (k := 1) (kd := .i64) (z := [.sc (.string ⟨#[]⟩)]) hlt
    have e2 := e_fill (e := encS) (t := 9) (k := 1) (kd := .i64) (z := [.sc (.string ⟨#[]⟩)]) rfl rfl (fun _ => rfl) hlt
    simp only [encS] at e2
    repeat' (first | (with_reducible first | refine jn_in ?_ | refine cl_ok (by assumption) rfl ?_ | refine cl_okP (by assumption) rfl ?_ | refine br_if (fun hbr => ?_) fun hbr => ?_ | refine br_ifn (fun hbr => ?_) fun hbr => ?_ | refine br_nb (fun hbr => ?_) fun hbr => ?_ | refine br_b (fun hbr => ?_) fun hbr => ?_) | simp (disch := first | omega | (simp only [length_take, length_drop, length_append, map_cons, map_nil, length_map, length_cons, length_nil, length_set, length_replicate]; omega) | (simp only [length_cons, length_nil, Nat.zero_add, Nat.reduceAdd])) only [go_sem, ↓reduceIte, Nat.reduceAdd, Int.reduceNeg, Int.reduceAdd, Int.reduceSub, Int.reduceMul, Int.reduceLT, Int.reduceLE, Int.reduceEq, Int.reduceToNat, Nat.reduceBEq, nat1, e1, encS, e2])
    · omega
    · omega
  · obtain rfl : i = l.length := by omega
    repeat' (first | (with_reducible first | refine jn_in ?_ | refine cl_ok (by assumption) rfl ?_ | refine cl_okP (by assumption) rfl ?_ | refine br_if (fun hbr => ?_) fun hbr => ?_ | refine br_ifn (fun hbr => ?_) fun hbr => ?_ | refine br_nb (fun hbr => ?_) fun hbr => ?_ | refine br_b (fun hbr => ?_) fun hbr => ?_) | simp (disch := first | omega | (simp only [length_take, length_drop, length_append, map_cons, map_nil, length_map, length_cons, length_nil, length_set, length_replicate]; omega) | (simp only [length_cons, length_nil, Nat.zero_add, Nat.reduceAdd])) only [go_sem, ↓reduceIte, Nat.reduceAdd, Int.reduceNeg, Int.reduceAdd, Int.reduceSub, Int.reduceMul, Int.reduceLT, Int.reduceLE, Int.reduceEq, Int.reduceToNat, Nat.reduceBEq, nat1, fillL_endm])
    · omega
    · rfl
theorem toZs_m (l : List Int) (h : l.length ≤ 1048576) : Meets Try.prog 76 [(false, [encZs l])] [(false, [encZs l], true)] := by
  refine meets_upf Try.func76 u_laws_toIntS_g rfl ?_; simp only [u_laws_toIntS_u]
  simp only [encZs]
  have hm := fun b (hb : b ≤ 140) => e_makeL (e := encZ) (l := l) (el := 3) (k := 1) (b := b) (zz := [.sc (.int .i64 0)]) (by omega) hb
  have hm1 := hm 8 (by decide)
  simp (disch := first | omega | (simp only [length_take, length_drop, length_append, map_cons, map_nil, length_map, length_cons, length_nil, length_set, length_replicate]; omega) | (simp only [length_cons, length_nil, Nat.zero_add, Nat.reduceAdd])) only [go_sem, ↓reduceIte, Nat.reduceAdd, Int.reduceNeg, Int.reduceAdd, Int.reduceSub, Int.reduceMul, Int.reduceLT, Int.reduceLE, Int.reduceEq, Int.reduceToNat, Nat.reduceBEq, nat1, hm1]
  refine lp_n l.length (fun i => [.sc (.int .i64 i), .sl 3 1 (fillL (l.map encZ) i [.sc (.int .i64 0)])]) rfl fun i hi => ?_
  simp only [u_laws_toIntS_l0]
  by_cases hlt : i < l.length
  · have e1 := e_chkF (e := encZ) (t := 3) (k := 1) (kd := .i64) (z := [.sc (.int .i64 0)]) hlt
    have e2 := e_fill (e := encZ) (t := 3) (k := 1) (kd := .i64) (z := [.sc (.int .i64 0)]) rfl rfl (fun _ => rfl) hlt
    simp only [encZ] at e2
    repeat' (first | (with_reducible first | refine jn_in ?_ | refine cl_ok (by assumption) rfl ?_ | refine cl_okP (by assumption) rfl ?_ | refine br_if (fun hbr => ?_) fun hbr => ?_ | refine br_ifn (fun hbr => ?_) fun hbr => ?_ | refine br_nb (fun hbr => ?_) fun hbr => ?_ | refine br_b (fun hbr => ?_) fun hbr => ?_) | simp (disch := first | omega | (simp only [length_take, length_drop, length_append, map_cons, map_nil, length_map, length_cons, length_nil, length_set, length_replicate]; omega) | (simp only [length_cons, length_nil, Nat.zero_add, Nat.reduceAdd])) only [go_sem, ↓reduceIte, Nat.reduceAdd, Int.reduceNeg, Int.reduceAdd, Int.reduceSub, Int.reduceMul, Int.reduceLT, Int.reduceLE, Int.reduceEq, Int.reduceToNat, Nat.reduceBEq, nat1, e1, encZ, e2])
    · omega
    · omega
  · obtain rfl : i = l.length := by omega
    repeat' (first | (with_reducible first | refine jn_in ?_ | refine cl_ok (by assumption) rfl ?_ | refine cl_okP (by assumption) rfl ?_ | refine br_if (fun hbr => ?_) fun hbr => ?_ | refine br_ifn (fun hbr => ?_) fun hbr => ?_ | refine br_nb (fun hbr => ?_) fun hbr => ?_ | refine br_b (fun hbr => ?_) fun hbr => ?_) | simp (disch := first | omega | (simp only [length_take, length_drop, length_append, map_cons, map_nil, length_map, length_cons, length_nil, length_set, length_replicate]; omega) | (simp only [length_cons, length_nil, Nat.zero_add, Nat.reduceAdd])) only [go_sem, ↓reduceIte, Nat.reduceAdd, Int.reduceNeg, Int.reduceAdd, Int.reduceSub, Int.reduceMul, Int.reduceLT, Int.reduceLE, Int.reduceEq, Int.reduceToNat, Nat.reduceBEq, nat1, fillL_endm])
    · omega
    · rfl
theorem eqSs_m (l : List ByteArray) (h : l.length ≤ 100000000000) : Meets Try.prog 53 [(false, [encSs l]), (false, [encSs l])] [(false, [.sc (.bool true)], true)] := by
  refine meets_upf Try.func53 u_laws_eqStringS_g rfl ?_; simp only [u_laws_eqStringS_u]
  simp only [encSs]
  simp (disch := first | omega | (simp only [length_take, length_drop, length_append, map_cons, map_nil, length_map, length_cons, length_nil, length_set, length_replicate]; omega) | (simp only [length_cons, length_nil, Nat.zero_add, Nat.reduceAdd])) only [go_sem, ↓reduceIte, Nat.reduceAdd, Int.reduceNeg, Int.reduceAdd, Int.reduceSub, Int.reduceMul, Int.reduceLT, Int.reduceLE, Int.reduceEq, Int.reduceToNat, Nat.reduceBEq, nat1, eq_self]
  refine lp_n l.length (fun i => [.sc (.int .i64 i)]) rfl fun i hi => ?_
  simp only [u_laws_eqStringS_l0]
  repeat' (first | (with_reducible first | refine jn_in ?_ | refine cl_ok (by assumption) rfl ?_ | refine cl_okP (by assumption) rfl ?_ | refine br_if (fun hbr => ?_) fun hbr => ?_ | refine br_ifn (fun hbr => ?_) fun hbr => ?_ | refine br_nb (fun hbr => ?_) fun hbr => ?_ | refine br_b (fun hbr => ?_) fun hbr => ?_) | simp (disch := first | omega | (simp only [length_take, length_drop, length_append, map_cons, map_nil, length_map, length_cons, length_nil, length_set, length_replicate]; omega) | (simp only [length_cons, length_nil, Nat.zero_add, Nat.reduceAdd])) only [go_sem, ↓reduceIte, Nat.reduceAdd, Int.reduceNeg, Int.reduceAdd, Int.reduceSub, Int.reduceMul, Int.reduceLT, Int.reduceLE, Int.reduceEq, Int.reduceToNat, Nat.reduceBEq, nat1, eq_self])
  · omega
  · rfl
theorem eqZs_m (l : List Int) (h : l.length ≤ 100000000000) : Meets Try.prog 80 [(false, [encZs l]), (false, [encZs l])] [(false, [.sc (.bool true)], true)] := by
  refine meets_upf Try.func80 u_laws_eqIntS_g rfl ?_; simp only [u_laws_eqIntS_u]
  simp only [encZs]
  simp (disch := first | omega | (simp only [length_take, length_drop, length_append, map_cons, map_nil, length_map, length_cons, length_nil, length_set, length_replicate]; omega) | (simp only [length_cons, length_nil, Nat.zero_add, Nat.reduceAdd])) only [go_sem, ↓reduceIte, Nat.reduceAdd, Int.reduceNeg, Int.reduceAdd, Int.reduceSub, Int.reduceMul, Int.reduceLT, Int.reduceLE, Int.reduceEq, Int.reduceToNat, Nat.reduceBEq, nat1, eq_self]
  refine lp_n l.length (fun i => [.sc (.int .i64 i)]) rfl fun i hi => ?_
  simp only [u_laws_eqIntS_l0]
  repeat' (first | (with_reducible first | refine jn_in ?_ | refine cl_ok (by assumption) rfl ?_ | refine cl_okP (by assumption) rfl ?_ | refine br_if (fun hbr => ?_) fun hbr => ?_ | refine br_ifn (fun hbr => ?_) fun hbr => ?_ | refine br_nb (fun hbr => ?_) fun hbr => ?_ | refine br_b (fun hbr => ?_) fun hbr => ?_) | simp (disch := first | omega | (simp only [length_take, length_drop, length_append, map_cons, map_nil, length_map, length_cons, length_nil, length_set, length_replicate]; omega) | (simp only [length_cons, length_nil, Nat.zero_add, Nat.reduceAdd])) only [go_sem, ↓reduceIte, Nat.reduceAdd, Int.reduceNeg, Int.reduceAdd, Int.reduceSub, Int.reduceMul, Int.reduceLT, Int.reduceLE, Int.reduceEq, Int.reduceToNat, Nat.reduceBEq, nat1, eq_self])
  · omega
  · rfl
end Go.Proofs.Ytkhibgknpcgneaa

namespace Go.Proofs.Ytkhibgknpcgneaa
open Go.RowKit
theorem in_any (x lo hi : Int) (w : World) :
    Calls Try.prog 12 #[.int .i64 x, .int .i64 lo, .int .i64 hi] w fun e w' => e = .returned (.bool (decide (lo ≤ x ∧ x ≤ hi))) ∧ w = w' := by
  by_cases h1 : lo ≤ x
  · by_cases h2 : x ≤ hi
    · go_enter Try.func12, Try.ntmps12
      go_wp2
      go_ret
      exact ⟨by simp [h1, h2], rfl⟩
    · go_enter Try.func12, Try.ntmps12
      go_wp2
      go_ret
      exact ⟨by simp [h2], rfl⟩
  · go_enter Try.func12, Try.ntmps12
    go_wp2
    go_ret
    exact ⟨by simp; omega, rfl⟩
theorem in_b (x lo hi : Int) (b : Bool) (w : World) (h : decide (lo ≤ x ∧ x ≤ hi) = b) :
    Calls Try.prog 12 #[.int .i64 x, .int .i64 lo, .int .i64 hi] w fun e w' => e = .returned (.bool b) ∧ w = w' := by
  subst h; exact in_any x lo hi w
end Go.Proofs.Ytkhibgknpcgneaa

namespace Go.Proofs.Ytkhibgknpcgneaa
open Go.RowKit
def sumBy {α : Type} (f : α → Nat) (l : List α) : Nat := (l.map f).sum
theorem sumBy_take {α : Type} (f : α → Nat) (l : List α) {k : Nat} {x : α} (h : l[k]? = some x) : sumBy f (l.take (k + 1)) = sumBy f (l.take k) + f x := by
  obtain ⟨hk, rfl⟩ := List.getElem?_eq_some_iff.1 h
  unfold sumBy
  rw [List.take_succ_eq_append_getElem hk, List.map_append, List.sum_append]; simp
theorem sumBy_all {α : Type} (f : α → Nat) (l : List α) {k : Nat} (h : l.length ≤ k) : sumBy f (l.take k) = sumBy f l := by rw [List.take_of_length_le h]
end Go.Proofs.Ytkhibgknpcgneaa
namespace Go.Proofs.Ytkhibgknpcgneaa
structure It where
  num : Int
  den : Int
  text : ByteArray
  deriving DecidableEq
def it0 : It := ⟨0, 0, ByteArray.empty⟩
def numB (x : It) : Bool := decide (x.text = ByteArray.empty) && (decide (1 ≤ x.den ∧ x.den ≤ 999999999) && (decide (-999999999 ≤ x.num ∧ x.num ≤ 999999999) && decide (Int.gcd x.num x.den = 1)))
def lim (n : Int) : Prop := -4000000000000000000 ≤ n ∧ n ≤ 4000000000000000000
instance (n : Int) : Decidable (lim n) := inferInstanceAs (Decidable (_ ∧ _))
theorem nat_gcd_step (x y : Nat) : Nat.gcd y (x % y) = Nat.gcd x y := by
  rw [Nat.gcd_comm x y, Nat.gcd_rec y x, Nat.gcd_comm]
end Go.Proofs.Ytkhibgknpcgneaa
namespace Go.Proofs.Ytkhibgknpcgneaa
open Go.RowKit
abbrev itVal (x : It) : Value := .agg #[.int .i64 x.num, .int .i64 x.den, .string x.text]
def wtItem (x : It) : Nat := x.text.size
def wtItems (l : List It) : Nat := l.length + sumBy wtItem l
end Go.Proofs.Ytkhibgknpcgneaa
namespace Go.Proofs.Ytkhibgknpcgneaa
open Go.RowKit
def GcdRel (w : World) (G : Nat) (v0 v1 : Value) (wr : World) : Prop := ∃ x y m : Nat, (x : Int) ≤ 4000000000000000000 ∧ (y : Int) ≤ 4000000000000000000 ∧ v0 = .int .i64 x ∧ v1 = .int .i64 y ∧ Nat.gcd x y = G ∧ wr = w.drewN m
theorem gcd_start {a b : Int} {G : Nat} {p q : Int} {w : World} (h : Int.gcd a b = G) (h1 : p = a.natAbs) (h2 : q = b.natAbs) (hx : (a.natAbs : Int) ≤ 4000000000000000000) (hy : (b.natAbs : Int) ≤ 4000000000000000000) :
    GcdRel w G (.int .i64 p) (.int .i64 q) w :=
  ⟨a.natAbs, b.natAbs, 0, hx, hy, by rw [h1], by rw [h2], by rw [← h]; rfl, rfl⟩
theorem gcd_step {x y G : Nat} {w w' : World} (hx : (x : Int) ≤ 4000000000000000000) (hy : (y : Int) ≤ 4000000000000000000) (h0 : ¬ y = 0) (h : Nat.gcd x y = G) (hw : ∃ j, w' = w.drewN j) :
    GcdRel w G (.int .i64 y) (.int .i64 ((x : Int) % y)) w' := by
  obtain ⟨j, hj⟩ := hw
  have hr : x % y ≤ x := Nat.mod_le _ _
  exact ⟨y, x % y, j, hy, by omega, rfl, by rw [Int.natCast_emod], by rw [nat_gcd_step]; exact h, hj⟩
theorem abs_any (a : Int) (w : World) (ha : -9223372036854775807 ≤ a ∧ a ≤ 9223372036854775807) :
    Calls Try.prog 88 #[.int .i64 a] w fun e w' => e = .returned (.int .i64 (a.natAbs : Nat)) ∧ w = w' := by
  by_cases h : a < 0
  all_goals
    go_enter Try.func88, Try.ntmps88
    go_wp2
    go_ret
    exact ⟨ret_i (by omega), rfl⟩
theorem implGcd_any (a b : Int) (w : World) (ha : lim a) (hb : lim b) :
    Calls Try.prog 90 #[.int .i64 a, .int .i64 b] w fun e w' => e = .returned (.int .i64 (Int.gcd a b : Nat)) ∧ ∃ m, w' = w.drewN m := by
  unfold lim at ha hb
  generalize hG : Int.gcd a b = G
  have HG := Lib.hid hG; clear hG
  rcases (show (0 ≤ a ∧ 0 ≤ b) ∨ (0 ≤ a ∧ b < 0) ∨ (a < 0 ∧ 0 ≤ b) ∨ (a < 0 ∧ b < 0) from by omega) with ⟨h1, h2⟩ | ⟨h1, h2⟩ | ⟨h1, h2⟩ | ⟨h1, h2⟩
  all_goals
    go_enter Try.func90, Try.ntmps90
    go_wp2
    go_loopw [0, 1] (GcdRel w G) (fun _ b _ => (intOf b).toNat)
    case atStart => exact gcd_start HG.out (by omega) (by omega) (by omega) (by omega)
    case round =>
      obtain ⟨x, y, m, hx, hy, rfl, rfl, hg, rfl⟩ := hrel
      have HGG := Lib.hid hg; clear hg
      by_cases hy0 : y = 0
      · subst hy0
        have hb0 : (((0 : Nat) : Int) != 0) = false := by simp
        go_wp2
        go_ret
        exact ⟨ret_i (by have := HGG.out; rw [Nat.gcd_zero_right] at this; rw [this]), m, rfl⟩
      · have hb0 : ((y : Int) != 0) = true := by rw [bne_iff_ne]; omega
        have hr : x % y ≤ x := Nat.mod_le _ _
        have hr2 : x % y < y := Nat.mod_lt _ (by omega)
        go_wp2
        go_quiet (fail)
        go_wp2
        go_roundw
        case rel => exact gcd_step hx hy hy0 HGG.out (drewN2 _ _ _)
        case measure => simp [intOf]; omega
theorem specGcd_any (a b : Int) (w : World) (ha : lim a) (hb : lim b) :
    Calls Try.prog 82 #[.int .i64 a, .int .i64 b] w fun e w' => e = .returned (.int .i64 (Int.gcd a b : Nat)) ∧ ∃ m, w' = w.drewN m := by
  unfold lim at ha hb
  generalize hG : Int.gcd a b = G
  have HG := Lib.hid hG; clear hG
  rcases (show (0 ≤ a ∧ 0 ≤ b) ∨ (0 ≤ a ∧ b < 0) ∨ (a < 0 ∧ 0 ≤ b) ∨ (a < 0 ∧ b < 0) from by omega) with ⟨h1, h2⟩ | ⟨h1, h2⟩ | ⟨h1, h2⟩ | ⟨h1, h2⟩
  all_goals
    go_enter Try.func82, Try.ntmps82
    go_wp2_with fail
    refine (abs_any _ _ (by omega)).mono ?_
    rintro e w' ⟨rfl, rfl⟩
    go_wp2_with fail
    refine (abs_any _ _ (by omega)).mono ?_
    rintro e w' ⟨rfl, rfl⟩
    go_wp2_with fail
    go_loopw [5, 6] (GcdRel w G) (fun _ b _ => (intOf b).toNat)
    case atStart => exact gcd_start HG.out (by omega) (by omega) (by omega) (by omega)
    case round =>
      obtain ⟨x, y, m, hx, hy, rfl, rfl, hg, rfl⟩ := hrel
      have HGG := Lib.hid hg; clear hg
      by_cases hy0 : y = 0
      · subst hy0
        have hb0 : (((0 : Nat) : Int) != 0) = false := by simp
        go_wp2
        go_ret
        exact ⟨ret_i (by have := HGG.out; rw [Nat.gcd_zero_right] at this; rw [this]), m, rfl⟩
      · have hb0 : ((y : Int) != 0) = true := by rw [bne_iff_ne]; omega
        have hr : x % y ≤ x := Nat.mod_le _ _
        have hr2 : x % y < y := Nat.mod_lt _ (by omega)
        go_wp2
        go_roundw
        case rel => exact gcd_step hx hy hy0 HGG.out ⟨_, rfl⟩
        case measure => simp [intOf]; omega
theorem numB_false_text {x : It} (h : ¬ x.text = ByteArray.empty) : numB x = false := by simp [numB, h]
theorem numB_false_den {x : It} (h : ¬ (1 ≤ x.den ∧ x.den ≤ 999999999)) : numB x = false := by
  unfold numB; rw [decide_eq_false h]; simp
theorem numB_false_num {x : It} (h : ¬ (-999999999 ≤ x.num ∧ x.num ≤ 999999999)) : numB x = false := by
  unfold numB; rw [decide_eq_false h]; simp
theorem numB_gcd {x : It} (h0 : x.text = ByteArray.empty) (h1 : 1 ≤ x.den ∧ x.den ≤ 999999999) (h2 : -999999999 ≤ x.num ∧ x.num ≤ 999999999) : numB x = decide (((Int.gcd x.num x.den : Nat) : Int) = 1) := by
  unfold numB; rw [decide_eq_true h0, decide_eq_true h1, decide_eq_true h2]; simp; omega
theorem ba_nil {x : ByteArray} (h : ¬ x = ByteArray.empty) : ¬ x.toList = [] := by
  rw [ByteArray.toList_eq]
  intro e; apply h
  cases x with
  | mk d => simp at e; subst e; rfl
theorem num_ways (x : It) : (numB x = false ∧ ¬ x.text.toList = []) ∨ (numB x = false ∧ x.text = ByteArray.empty ∧ x.den < 1) ∨ (numB x = false ∧ x.text = ByteArray.empty ∧ 1 ≤ x.den ∧ 999999999 < x.den) ∨
    (numB x = false ∧ x.text = ByteArray.empty ∧ 1 ≤ x.den ∧ x.den ≤ 999999999 ∧ x.num < -999999999) ∨ (numB x = false ∧ x.text = ByteArray.empty ∧ 1 ≤ x.den ∧ x.den ≤ 999999999 ∧ -999999999 ≤ x.num ∧ 999999999 < x.num) ∨
    (numB x = decide (((Int.gcd x.num x.den : Nat) : Int) = 1) ∧ x.text = ByteArray.empty ∧ 1 ≤ x.den ∧ x.den ≤ 999999999 ∧ -999999999 ≤ x.num ∧ x.num ≤ 999999999) := by
  by_cases h0 : x.text = ByteArray.empty
  · by_cases h1 : 1 ≤ x.den
    · by_cases h2 : x.den ≤ 999999999
      · by_cases h3 : -999999999 ≤ x.num
        · by_cases h4 : x.num ≤ 999999999
          · exact .inr (.inr (.inr (.inr (.inr ⟨numB_gcd h0 ⟨h1, h2⟩ ⟨h3, h4⟩, h0, h1, h2, h3, h4⟩))))
          · exact .inr (.inr (.inr (.inr (.inl ⟨numB_false_num (by omega), h0, h1, h2, h3, by omega⟩))))
        · exact .inr (.inr (.inr (.inl ⟨numB_false_num (by omega), h0, h1, h2, by omega⟩)))
      · exact .inr (.inr (.inl ⟨numB_false_den (by omega), h0, h1, by omega⟩))
    · exact .inr (.inl ⟨numB_false_den (by omega), h0, by omega⟩)
  · exact .inl ⟨numB_false_text h0, ba_nil h0⟩
theorem implIsNum_any (x : It) (w : World) :
    Calls Try.prog 89 #[itVal x] w fun e w' => e = .returned (.bool (numB x)) ∧ Below w.heap.size w w' := by
  rcases num_ways x with ⟨h, h0⟩ | ⟨h, h0, h1⟩ | ⟨h, h0, h1, h2⟩ | ⟨h, h0, h1, h2, h3⟩ | ⟨h, h0, h1, h2, h3, h4⟩ | ⟨h, h0, h1, h2, h3, h4⟩
  all_goals
    have H := Lib.hid h; clear h
    obtain ⟨num, den, text⟩ := x
    simp only at *
    try subst h0
  iterate 5
    · go_enter Try.func89, Try.ntmps89
      go_wp2
      go_ret
      exact ⟨by rw [H.out]; rfl, (Below.refl _ _).alloc (Nat.le_refl _) _⟩
  go_enter Try.func89, Try.ntmps89
  go_wp2_with fail
  refine (implGcd_any _ _ _ (by unfold lim; omega) (by unfold lim; omega)).mono ?_
  rintro e w' ⟨rfl, m, rfl⟩
  go_wp2
  go_ret
  exact ⟨by rw [H.out]; rfl, below_drewN ((Below.refl _ _).alloc (Nat.le_refl _) _) m⟩
theorem specIsNum_any (x : It) (w : World) :
    Calls Try.prog 75 #[itVal x] w fun e w' => e = .returned (.bool (numB x)) ∧ Below w.heap.size w w' := by
  rcases num_ways x with ⟨h, h0⟩ | ⟨h, h0, h1⟩ | ⟨h, h0, h1, h2⟩ | ⟨h, h0, h1, h2, h3⟩ | ⟨h, h0, h1, h2, h3, h4⟩ | ⟨h, h0, h1, h2, h3, h4⟩
  all_goals
    have H := Lib.hid h; clear h
    obtain ⟨num, den, text⟩ := x
    simp only at *
    try subst h0
  · go_enter Try.func75, Try.ntmps75
    go_wp2
    go_ret
    exact ⟨by rw [H.out]; rfl, (Below.refl _ _).alloc (Nat.le_refl _) _⟩
  iterate 2
    · go_enter Try.func75, Try.ntmps75
      go_wp2_with (go_at_call 12; refine (in_b _ _ _ false _ (by simp; omega)).mono ?_; rintro e w' ⟨rfl, rfl⟩)
      go_ret
      exact ⟨by rw [H.out]; rfl, (Below.refl _ _).alloc (Nat.le_refl _) _⟩
  iterate 2
    · go_enter Try.func75, Try.ntmps75
      go_wp2_with fail
      refine (in_b _ _ _ true _ (by simp; omega)).mono ?_
      rintro e w' ⟨rfl, rfl⟩
      go_wp2_with fail
      refine (in_b _ _ _ false _ (by simp; omega)).mono ?_
      rintro e w' ⟨rfl, rfl⟩
      go_wp2
      go_ret
      exact ⟨by rw [H.out]; rfl, (Below.refl _ _).alloc (Nat.le_refl _) _⟩
  go_enter Try.func75, Try.ntmps75
  go_wp2_with (go_at_call 12; refine (in_b _ _ _ true _ (by simp; omega)).mono ?_; rintro e w' ⟨rfl, rfl⟩)
  refine (specGcd_any _ _ _ (by unfold lim; omega) (by unfold lim; omega)).mono ?_
  rintro e w' ⟨rfl, m, rfl⟩
  go_wp2
  go_ret
  exact ⟨by rw [H.out]; rfl, below_drewN ((Below.refl _ _).alloc (Nat.le_refl _) _) m⟩
end Go.Proofs.Ytkhibgknpcgneaa
namespace Go.Proofs.Ytkhibgknpcgneaa
open Go.RowKit
end Go.Proofs.Ytkhibgknpcgneaa
namespace Go.Proofs.Ytkhibgknpcgneaa
open Go.RowKit
end Go.Proofs.Ytkhibgknpcgneaa
namespace Go.Proofs.Ytkhibgknpcgneaa
open Go.RowKit
end Go.Proofs.Ytkhibgknpcgneaa

namespace Go.Proofs.Ytkhibgknpcgneaa
open Go.RowKit
instance : Inhabited It := ⟨⟨0, 0, ByteArray.empty⟩⟩
def encIt (x : It) : List DV := [.sc (.int .i64 x.num), .sc (.int .i64 x.den), .sc (.string x.text)]
theorem encIt_flat (x : It) : Flat (encIt x) := by intro d hd; simp [encIt] at hd; rcases hd with rfl | rfl | rfl <;> exact ⟨_, rfl⟩
def scs (vs : List Value) : List DV := vs.map .sc
theorem rep_scs {w : World} {A : Nat → Prop} {vals vs : List Value} (h : RepL w A vals (scs vs)) : vals = vs := by
  induction vs generalizing vals with
  | nil => cases h; rfl
  | cons v vs ih => cases h with | sc h1 h2 => rw [ih h2]
theorem own_scs {w : World} {base : Nat} {vs : List Value} (h : ∀ v ∈ vs, Sc v) : OwnL w base vs (scs vs) [] := by
  induction vs with
  | nil => exact .nil
  | cons v vs ih => exact .sc (h v (List.mem_cons_self ..)) (ih fun v hv => h v (List.mem_cons_of_mem _ hv))
def valOf (x : Bool × List Value) : Value := if x.1 then .agg x.2.toArray else x.2.headD undef
theorem meets_sc {P : Program} {f : FuncId} (args : List (Bool × List Value)) (res : Bool × List Value) (hc : callable P f = true) (ha : ∀ x ∈ args, x.1 = false → x.2.length = 1) (hr : ∀ v ∈ res.2, Sc v) (hr1 : res.1 = false → res.2.length = 1)
    (h : ∀ w, Calls P f (args.map valOf).toArray w fun e w' => e = .returned (valOf res) ∧ Below w.heap.size w w') : Meets P f (args.map fun x => (x.1, scs x.2)) [(res.1, scs res.2, true)] := by
  refine ⟨hc, fun w B vs hB har => ?_⟩
  have hvs : vs = args.map valOf := by
    apply List.ext_getElem?
    intro j
    by_cases hj : j < args.length
    · have hl := har.1
      simp at hl
      have h1 := har.2 j vs[j] _ (List.getElem?_eq_getElem (by omega)) (by rw [List.getElem?_map, List.getElem?_eq_getElem hj]; rfl)
      rw [List.getElem?_eq_getElem (by omega), List.getElem?_map, List.getElem?_eq_getElem hj]
      simp only [Option.map_some, Option.some.injEq]
      unfold ArgR at h1
      unfold valOf
      split at h1
      · rename_i hb
        obtain ⟨vals, e1, e2⟩ := h1
        rw [if_pos hb, e1, rep_scs e2]
      · rename_i hb
        have := rep_scs h1
        rw [if_neg hb]
        rw [← this]; rfl
    · have hl := har.1
      simp at hl
      rw [List.getElem?_eq_none (by omega), List.getElem?_eq_none (by simp; omega)]
  subst hvs
  refine (h w).mono ?_
  rintro e w' ⟨rfl, hb⟩
  refine ⟨_, rfl, ⟨[valOf res], [[]], by simp, rfl, rfl, by simp, fun j u r f' h1 h2 h3 => ?_⟩, hb⟩
  cases j with
  | zero =>
    simp at h1 h2 h3
    subst h1 h2 h3
    refine ⟨res.2, ?_, own_scs hr⟩
    unfold valOf
    simp only
    split
    · rfl
    · rename_i hb
      have := hr1 (by simpa using hb)
      match hx : res.2, this with
      | [v], _ => rfl
  | succ j => simp at h1
theorem fillL_zero {α : Type} (l : List α) (z : α) : fillL l 0 z = List.replicate l.length z := by simp [fillL]
end Go.Proofs.Ytkhibgknpcgneaa

namespace Go.Proofs.Ytkhibgknpcgneaa
open Go.RowKit
def itc (x : It) : List Value := [.int .i64 x.num, .int .i64 x.den, .string x.text]
theorem mImplIsNum (x : It) : Meets Try.prog 89 [(true, encIt x)] [(false, [.sc (.bool (numB x))], true)] := meets_sc [(true, itc x)] (false, [.bool (numB x)]) (by kernel_rfl) (by simp) (by simp [Sc]) (by simp) (fun w => implIsNum_any x w)
theorem mSpecIsNum (x : It) : Meets Try.prog 75 [(true, encIt x)] [(false, [.sc (.bool (numB x))], true)] := meets_sc [(true, itc x)] (false, [.bool (numB x)]) (by kernel_rfl) (by simp) (by simp [Sc]) (by simp) (fun w => specIsNum_any x w)
theorem mIn (x lo hi : Int) : Meets Try.prog 12 [(false, [.sc (.int .i64 x)]), (false, [.sc (.int .i64 lo)]), (false, [.sc (.int .i64 hi)])] [(false, [.sc (.bool (decide (lo ≤ x ∧ x ≤ hi)))], true)] :=
  meets_sc [(false, [.int .i64 x]), (false, [.int .i64 lo]), (false, [.int .i64 hi])] (false, [.bool (decide (lo ≤ x ∧ x ≤ hi))]) (by kernel_rfl) (by simp) (by simp [Sc]) (by simp) (fun w => (in_any x lo hi w).mono fun e w' ⟨h1, h2⟩ => ⟨h1, by subst h2; exact Below.refl _ _⟩)
end Go.Proofs.Ytkhibgknpcgneaa

namespace Go.Proofs.Ytkhibgknpcgneaa
open Go.RowKit
set_option maxRecDepth 100000
inductive Vec where
  | mk (kind : Int) (items : List It) (parts : List Vec) (names cls levels : List ByteArray) (code env : Int)
def encVt (ti tv : Nat) : Vec → List DV
  | .mk k its ps ns cl lv c e => [.sc (.int .i64 k), .sl ti 3 (its.map encIt), .sl tv 8 (ps.map fun p => encVt ti tv p), encSs ns, encSs cl, encSs lv, .sc (.int .i64 c), .sc (.int .i64 e)]
abbrev encV : Vec → List DV := encVt 75 42
def fV (k : Int) (its : List It) : Vec := .mk k its [] [] [] [] 0 0
theorem encV_mk (ti tv : Nat) (k : Int) (its : List It) (ps : List Vec) (ns cl lv : List ByteArray) (c e : Int) : encVt ti tv (.mk k its ps ns cl lv c e) = [.sc (.int .i64 k), .sl ti 3 (its.map encIt), .sl tv 8 (ps.map (encVt ti tv)), encSs ns, encSs cl, encSs lv, .sc (.int .i64 c), .sc (.int .i64 e)] := by rw [encVt]
theorem Vec.ind {Q : Vec → Prop} (h : ∀ k its ps ns cl lv c e, (∀ p ∈ ps, Q p) → Q (.mk k its ps ns cl lv c e)) (v : Vec) : Q v :=
  Vec.rec (motive_1 := Q) (motive_2 := fun l => ∀ p ∈ l, Q p) (fun k its ps ns cl lv c e ih => h k its ps ns cl lv c e ih) (fun p hp => by cases hp) (fun a l ha hl p hp => by
    rcases List.mem_cons.1 hp with rfl | hp
    · exact ha
    · exact hl p hp) v
theorem ix_it {t : Nat} {l : List It} {kd : IntKind} {z : Int} (h : 0 ≤ z) (h1 : z < l.length) : eIdx 3 (some (.sl t 3 (l.map encIt))) (some (.sc (.int kd z))) = some (encIt (l.getD z.toNat default)) := e_idx_map (fun _ => rfl) h h1
theorem take_succD {α : Type} [Inhabited α] {l : List α} {i : Nat} (h : i < l.length) : l.take (i + 1) = l.take i ++ [l.getD i default] := by
  rw [List.take_succ_eq_append_getElem h, List.getD_eq_getElem?_getD, List.getElem?_eq_getElem h]; rfl
end Go.Proofs.Ytkhibgknpcgneaa

namespace Go.Proofs.Ytkhibgknpcgneaa
open Go.RowKit
@[go_sem] theorem tagg_2 : tagg Try.prog 2 = some false := by kernel_rfl
@[go_sem] theorem tsz_2 : tsz Try.prog 2 = some 1 := by kernel_rfl
@[go_sem] theorem tby_2 : tby Try.prog 2 = some 8 := by kernel_rfl
@[go_sem] theorem und_2 : Try.prog.underlying 2 = some (.int .i64) := by kernel_rfl
@[go_sem] theorem zac_2 : zeroAC Try.prog 2 = some [.d (.sc (.int .i64 0))] := by kernel_rfl
@[go_sem] theorem tzero_2 : tzero Try.prog 2 = some [.int .i64 0] := by kernel_rfl
@[go_sem] theorem tagg_3 : tagg Try.prog 3 = some false := by kernel_rfl
@[go_sem] theorem tsz_3 : tsz Try.prog 3 = some 1 := by kernel_rfl
@[go_sem] theorem tby_3 : tby Try.prog 3 = some 8 := by kernel_rfl
@[go_sem] theorem und_3 : Try.prog.underlying 3 = some (.int .i64) := by kernel_rfl
@[go_sem] theorem zac_3 : zeroAC Try.prog 3 = some [.d (.sc (.int .i64 0))] := by kernel_rfl
@[go_sem] theorem tzero_3 : tzero Try.prog 3 = some [.int .i64 0] := by kernel_rfl
@[go_sem] theorem tagg_4 : tagg Try.prog 4 = some false := by kernel_rfl
@[go_sem] theorem tsz_4 : tsz Try.prog 4 = some 1 := by kernel_rfl
@[go_sem] theorem tby_4 : tby Try.prog 4 = some 1 := by kernel_rfl
@[go_sem] theorem und_4 : Try.prog.underlying 4 = some .bool := by kernel_rfl
@[go_sem] theorem zac_4 : zeroAC Try.prog 4 = some [.d (.sc (.bool false))] := by kernel_rfl
@[go_sem] theorem tzero_4 : tzero Try.prog 4 = some [.bool false] := by kernel_rfl
@[go_sem] theorem tagg_5 : tagg Try.prog 5 = some false := by kernel_rfl
@[go_sem] theorem tsz_5 : tsz Try.prog 5 = some 1 := by kernel_rfl
@[go_sem] theorem tby_5 : tby Try.prog 5 = some 1 := by kernel_rfl
@[go_sem] theorem und_5 : Try.prog.underlying 5 = some (.int .u8) := by kernel_rfl
@[go_sem] theorem zac_5 : zeroAC Try.prog 5 = some [.d (.sc (.int .u8 0))] := by kernel_rfl
@[go_sem] theorem tzero_5 : tzero Try.prog 5 = some [.int .u8 0] := by kernel_rfl
@[go_sem] theorem tagg_6 : tagg Try.prog 6 = some false := by kernel_rfl
@[go_sem] theorem tsz_6 : tsz Try.prog 6 = some 1 := by kernel_rfl
@[go_sem] theorem tby_6 : tby Try.prog 6 = some 1 := by kernel_rfl
@[go_sem] theorem und_6 : Try.prog.underlying 6 = some (.int .u8) := by kernel_rfl
@[go_sem] theorem zac_6 : zeroAC Try.prog 6 = some [.d (.sc (.int .u8 0))] := by kernel_rfl
@[go_sem] theorem tzero_6 : tzero Try.prog 6 = some [.int .u8 0] := by kernel_rfl
@[go_sem] theorem tagg_7 : tagg Try.prog 7 = some true := by kernel_rfl
@[go_sem] theorem tsz_7 : tsz Try.prog 7 = some 4 := by kernel_rfl
@[go_sem] theorem tby_7 : tby Try.prog 7 = some 24 := by kernel_rfl
@[go_sem] theorem zac_7 : zeroAC Try.prog 7 = some [.d (.sc (.int .i64 0)), .d (.sc (.int .i64 0)), .d (.sc (.bool false)), .d (.sc (.int .u8 0))] := by kernel_rfl
@[go_sem] theorem tzero_7 : tzero Try.prog 7 = some [.int .i64 0, .int .i64 0, .bool false, .int .u8 0] := by kernel_rfl
@[go_sem] theorem tpl_7 : tpl Try.prog 7 = true := by kernel_rfl
@[go_sem] theorem tfl_7_0 : tfl Try.prog 7 0 = some (0, 1, false) := by kernel_rfl
@[go_sem] theorem tfl_7_1 : tfl Try.prog 7 1 = some (1, 1, false) := by kernel_rfl
@[go_sem] theorem tfl_7_2 : tfl Try.prog 7 2 = some (2, 1, false) := by kernel_rfl
@[go_sem] theorem tfl_7_3 : tfl Try.prog 7 3 = some (3, 1, false) := by kernel_rfl
@[go_sem] theorem tagg_8 : tagg Try.prog 8 = some true := by kernel_rfl
@[go_sem] theorem tsz_8 : tsz Try.prog 8 = some 4 := by kernel_rfl
@[go_sem] theorem tby_8 : tby Try.prog 8 = some 24 := by kernel_rfl
@[go_sem] theorem zac_8 : zeroAC Try.prog 8 = some [.d (.sc (.int .i64 0)), .d (.sc (.int .i64 0)), .d (.sc (.bool false)), .d (.sc (.int .u8 0))] := by kernel_rfl
@[go_sem] theorem tzero_8 : tzero Try.prog 8 = some [.int .i64 0, .int .i64 0, .bool false, .int .u8 0] := by kernel_rfl
@[go_sem] theorem tpl_8 : tpl Try.prog 8 = true := by kernel_rfl
@[go_sem] theorem tfl_8_0 : tfl Try.prog 8 0 = some (0, 1, false) := by kernel_rfl
@[go_sem] theorem tfl_8_1 : tfl Try.prog 8 1 = some (1, 1, false) := by kernel_rfl
@[go_sem] theorem tfl_8_2 : tfl Try.prog 8 2 = some (2, 1, false) := by kernel_rfl
@[go_sem] theorem tfl_8_3 : tfl Try.prog 8 3 = some (3, 1, false) := by kernel_rfl
@[go_sem] theorem tagg_9 : tagg Try.prog 9 = some false := by kernel_rfl
@[go_sem] theorem tsz_9 : tsz Try.prog 9 = some 1 := by kernel_rfl
@[go_sem] theorem tby_9 : tby Try.prog 9 = some 16 := by kernel_rfl
@[go_sem] theorem und_9 : Try.prog.underlying 9 = some .string := by kernel_rfl
@[go_sem] theorem zac_9 : zeroAC Try.prog 9 = some [.d (.sc (.string ByteArray.empty))] := by kernel_rfl
@[go_sem] theorem tzero_9 : tzero Try.prog 9 = some [.string ByteArray.empty] := by kernel_rfl
@[go_sem] theorem tagg_10 : tagg Try.prog 10 = some false := by kernel_rfl
@[go_sem] theorem tsz_10 : tsz Try.prog 10 = some 1 := by kernel_rfl
@[go_sem] theorem tby_10 : tby Try.prog 10 = some 16 := by kernel_rfl
@[go_sem] theorem und_10 : Try.prog.underlying 10 = some .string := by kernel_rfl
@[go_sem] theorem zac_10 : zeroAC Try.prog 10 = some [.d (.sc (.string ByteArray.empty))] := by kernel_rfl
@[go_sem] theorem tzero_10 : tzero Try.prog 10 = some [.string ByteArray.empty] := by kernel_rfl
@[go_sem] theorem tagg_11 : tagg Try.prog 11 = some false := by kernel_rfl
@[go_sem] theorem tsz_11 : tsz Try.prog 11 = some 1 := by kernel_rfl
@[go_sem] theorem tby_11 : tby Try.prog 11 = some 16 := by kernel_rfl
@[go_sem] theorem und_11 : Try.prog.underlying 11 = some .string := by kernel_rfl
@[go_sem] theorem zac_11 : zeroAC Try.prog 11 = some [.d (.sc (.string ByteArray.empty))] := by kernel_rfl
@[go_sem] theorem tzero_11 : tzero Try.prog 11 = some [.string ByteArray.empty] := by kernel_rfl
@[go_sem] theorem tagg_12 : tagg Try.prog 12 = some false := by kernel_rfl
@[go_sem] theorem tsz_12 : tsz Try.prog 12 = some 1 := by kernel_rfl
@[go_sem] theorem tby_12 : tby Try.prog 12 = some 8 := by kernel_rfl
@[go_sem] theorem und_12 : Try.prog.underlying 12 = some (.int .u64) := by kernel_rfl
@[go_sem] theorem zac_12 : zeroAC Try.prog 12 = some [.d (.sc (.int .u64 0))] := by kernel_rfl
@[go_sem] theorem tzero_12 : tzero Try.prog 12 = some [.int .u64 0] := by kernel_rfl
@[go_sem] theorem tagg_13 : tagg Try.prog 13 = some true := by kernel_rfl
@[go_sem] theorem tsz_13 : tsz Try.prog 13 = some 2 := by kernel_rfl
@[go_sem] theorem tby_13 : tby Try.prog 13 = some 24 := by kernel_rfl
@[go_sem] theorem zac_13 : zeroAC Try.prog 13 = some [.d (.sc (.string ByteArray.empty)), .d (.sc (.int .u64 0))] := by kernel_rfl
@[go_sem] theorem tzero_13 : tzero Try.prog 13 = some [.string ByteArray.empty, .int .u64 0] := by kernel_rfl
@[go_sem] theorem tpl_13 : tpl Try.prog 13 = true := by kernel_rfl
@[go_sem] theorem tfl_13_0 : tfl Try.prog 13 0 = some (0, 1, false) := by kernel_rfl
@[go_sem] theorem tfl_13_1 : tfl Try.prog 13 1 = some (1, 1, false) := by kernel_rfl
@[go_sem] theorem tagg_14 : tagg Try.prog 14 = some true := by kernel_rfl
@[go_sem] theorem tsz_14 : tsz Try.prog 14 = some 2 := by kernel_rfl
@[go_sem] theorem tby_14 : tby Try.prog 14 = some 24 := by kernel_rfl
@[go_sem] theorem zac_14 : zeroAC Try.prog 14 = some [.d (.sc (.string ByteArray.empty)), .d (.sc (.int .u64 0))] := by kernel_rfl
@[go_sem] theorem tzero_14 : tzero Try.prog 14 = some [.string ByteArray.empty, .int .u64 0] := by kernel_rfl
@[go_sem] theorem tpl_14 : tpl Try.prog 14 = true := by kernel_rfl
@[go_sem] theorem tfl_14_0 : tfl Try.prog 14 0 = some (0, 1, false) := by kernel_rfl
@[go_sem] theorem tfl_14_1 : tfl Try.prog 14 1 = some (1, 1, false) := by kernel_rfl
@[go_sem] theorem tagg_18 : tagg Try.prog 18 = some true := by kernel_rfl
@[go_sem] theorem tsz_18 : tsz Try.prog 18 = some 1 := by kernel_rfl
@[go_sem] theorem tby_18 : tby Try.prog 18 = some 8 := by kernel_rfl
@[go_sem] theorem tagg_19 : tagg Try.prog 19 = some true := by kernel_rfl
@[go_sem] theorem tsz_19 : tsz Try.prog 19 = some 1 := by kernel_rfl
@[go_sem] theorem tby_19 : tby Try.prog 19 = some 8 := by kernel_rfl
@[go_sem] theorem tagg_21 : tagg Try.prog 21 = some false := by kernel_rfl
@[go_sem] theorem tsz_21 : tsz Try.prog 21 = some 1 := by kernel_rfl
@[go_sem] theorem tby_21 : tby Try.prog 21 = some 4 := by kernel_rfl
@[go_sem] theorem und_21 : Try.prog.underlying 21 = some (.int .i32) := by kernel_rfl
@[go_sem] theorem zac_21 : zeroAC Try.prog 21 = some [.d (.sc (.int .i32 0))] := by kernel_rfl
@[go_sem] theorem tzero_21 : tzero Try.prog 21 = some [.int .i32 0] := by kernel_rfl
@[go_sem] theorem tagg_22 : tagg Try.prog 22 = some false := by kernel_rfl
@[go_sem] theorem tsz_22 : tsz Try.prog 22 = some 1 := by kernel_rfl
@[go_sem] theorem tby_22 : tby Try.prog 22 = some 24 := by kernel_rfl
@[go_sem] theorem zac_22 : zeroAC Try.prog 22 = some [.nil] := by kernel_rfl
@[go_sem] theorem tzero_22 : tzero Try.prog 22 = some [.slice none 0 0] := by kernel_rfl
@[go_sem] theorem tel_22 : tel Try.prog 22 = some (59, 4) := by kernel_rfl
@[go_sem] theorem tagg_23 : tagg Try.prog 23 = some false := by kernel_rfl
@[go_sem] theorem tsz_23 : tsz Try.prog 23 = some 1 := by kernel_rfl
@[go_sem] theorem tby_23 : tby Try.prog 23 = some 24 := by kernel_rfl
@[go_sem] theorem zac_23 : zeroAC Try.prog 23 = some [.nil] := by kernel_rfl
@[go_sem] theorem tzero_23 : tzero Try.prog 23 = some [.slice none 0 0] := by kernel_rfl
@[go_sem] theorem tel_23 : tel Try.prog 23 = some (66, 12) := by kernel_rfl
@[go_sem] theorem tagg_24 : tagg Try.prog 24 = some true := by kernel_rfl
@[go_sem] theorem tsz_24 : tsz Try.prog 24 = some 2 := by kernel_rfl
@[go_sem] theorem tby_24 : tby Try.prog 24 = some 48 := by kernel_rfl
@[go_sem] theorem zac_24 : zeroAC Try.prog 24 = some [.nil, .nil] := by kernel_rfl
@[go_sem] theorem tzero_24 : tzero Try.prog 24 = some [.slice none 0 0, .slice none 0 0] := by kernel_rfl
@[go_sem] theorem tpl_24 : tpl Try.prog 24 = true := by kernel_rfl
@[go_sem] theorem tfl_24_0 : tfl Try.prog 24 0 = some (0, 1, false) := by kernel_rfl
@[go_sem] theorem tfl_24_1 : tfl Try.prog 24 1 = some (1, 1, false) := by kernel_rfl
@[go_sem] theorem tagg_25 : tagg Try.prog 25 = some true := by kernel_rfl
@[go_sem] theorem tsz_25 : tsz Try.prog 25 = some 2 := by kernel_rfl
@[go_sem] theorem tby_25 : tby Try.prog 25 = some 48 := by kernel_rfl
@[go_sem] theorem zac_25 : zeroAC Try.prog 25 = some [.nil, .nil] := by kernel_rfl
@[go_sem] theorem tzero_25 : tzero Try.prog 25 = some [.slice none 0 0, .slice none 0 0] := by kernel_rfl
@[go_sem] theorem tpl_25 : tpl Try.prog 25 = true := by kernel_rfl
@[go_sem] theorem tfl_25_0 : tfl Try.prog 25 0 = some (0, 1, false) := by kernel_rfl
@[go_sem] theorem tfl_25_1 : tfl Try.prog 25 1 = some (1, 1, false) := by kernel_rfl
@[go_sem] theorem tagg_28 : tagg Try.prog 28 = some false := by kernel_rfl
@[go_sem] theorem tsz_28 : tsz Try.prog 28 = some 1 := by kernel_rfl
@[go_sem] theorem tby_28 : tby Try.prog 28 = some 24 := by kernel_rfl
@[go_sem] theorem zac_28 : zeroAC Try.prog 28 = some [.nil] := by kernel_rfl
@[go_sem] theorem tzero_28 : tzero Try.prog 28 = some [.slice none 0 0] := by kernel_rfl
@[go_sem] theorem tel_28 : tel Try.prog 28 = some (50, 4) := by kernel_rfl
@[go_sem] theorem tagg_29 : tagg Try.prog 29 = some false := by kernel_rfl
@[go_sem] theorem tsz_29 : tsz Try.prog 29 = some 1 := by kernel_rfl
@[go_sem] theorem tby_29 : tby Try.prog 29 = some 24 := by kernel_rfl
@[go_sem] theorem zac_29 : zeroAC Try.prog 29 = some [.nil] := by kernel_rfl
@[go_sem] theorem tzero_29 : tzero Try.prog 29 = some [.slice none 0 0] := by kernel_rfl
@[go_sem] theorem tel_29 : tel Try.prog 29 = some (44, 12) := by kernel_rfl
@[go_sem] theorem tagg_30 : tagg Try.prog 30 = some true := by kernel_rfl
@[go_sem] theorem tsz_30 : tsz Try.prog 30 = some 2 := by kernel_rfl
@[go_sem] theorem tby_30 : tby Try.prog 30 = some 48 := by kernel_rfl
@[go_sem] theorem zac_30 : zeroAC Try.prog 30 = some [.nil, .nil] := by kernel_rfl
@[go_sem] theorem tzero_30 : tzero Try.prog 30 = some [.slice none 0 0, .slice none 0 0] := by kernel_rfl
@[go_sem] theorem tpl_30 : tpl Try.prog 30 = true := by kernel_rfl
@[go_sem] theorem tfl_30_0 : tfl Try.prog 30 0 = some (0, 1, false) := by kernel_rfl
@[go_sem] theorem tfl_30_1 : tfl Try.prog 30 1 = some (1, 1, false) := by kernel_rfl
@[go_sem] theorem tagg_31 : tagg Try.prog 31 = some true := by kernel_rfl
@[go_sem] theorem tsz_31 : tsz Try.prog 31 = some 2 := by kernel_rfl
@[go_sem] theorem tby_31 : tby Try.prog 31 = some 48 := by kernel_rfl
@[go_sem] theorem zac_31 : zeroAC Try.prog 31 = some [.nil, .nil] := by kernel_rfl
@[go_sem] theorem tzero_31 : tzero Try.prog 31 = some [.slice none 0 0, .slice none 0 0] := by kernel_rfl
@[go_sem] theorem tpl_31 : tpl Try.prog 31 = true := by kernel_rfl
@[go_sem] theorem tfl_31_0 : tfl Try.prog 31 0 = some (0, 1, false) := by kernel_rfl
@[go_sem] theorem tfl_31_1 : tfl Try.prog 31 1 = some (1, 1, false) := by kernel_rfl
@[go_sem] theorem tagg_38 : tagg Try.prog 38 = some false := by kernel_rfl
@[go_sem] theorem tsz_38 : tsz Try.prog 38 = some 1 := by kernel_rfl
@[go_sem] theorem tby_38 : tby Try.prog 38 = some 24 := by kernel_rfl
@[go_sem] theorem zac_38 : zeroAC Try.prog 38 = some [.nil] := by kernel_rfl
@[go_sem] theorem tzero_38 : tzero Try.prog 38 = some [.slice none 0 0] := by kernel_rfl
@[go_sem] theorem tel_38 : tel Try.prog 38 = some (75, 3) := by kernel_rfl
@[go_sem] theorem tagg_39 : tagg Try.prog 39 = some false := by kernel_rfl
@[go_sem] theorem tsz_39 : tsz Try.prog 39 = some 1 := by kernel_rfl
@[go_sem] theorem tby_39 : tby Try.prog 39 = some 24 := by kernel_rfl
@[go_sem] theorem zac_39 : zeroAC Try.prog 39 = some [.nil] := by kernel_rfl
@[go_sem] theorem tzero_39 : tzero Try.prog 39 = some [.slice none 0 0] := by kernel_rfl
@[go_sem] theorem tel_39 : tel Try.prog 39 = some (42, 8) := by kernel_rfl
@[go_sem] theorem tagg_40 : tagg Try.prog 40 = some false := by kernel_rfl
@[go_sem] theorem tsz_40 : tsz Try.prog 40 = some 1 := by kernel_rfl
@[go_sem] theorem tby_40 : tby Try.prog 40 = some 24 := by kernel_rfl
@[go_sem] theorem zac_40 : zeroAC Try.prog 40 = some [.nil] := by kernel_rfl
@[go_sem] theorem tzero_40 : tzero Try.prog 40 = some [.slice none 0 0] := by kernel_rfl
@[go_sem] theorem tel_40 : tel Try.prog 40 = some (9, 1) := by kernel_rfl
@[go_sem] theorem tagg_41 : tagg Try.prog 41 = some true := by kernel_rfl
@[go_sem] theorem tsz_41 : tsz Try.prog 41 = some 8 := by kernel_rfl
@[go_sem] theorem tby_41 : tby Try.prog 41 = some 144 := by kernel_rfl
@[go_sem] theorem zac_41 : zeroAC Try.prog 41 = some [.d (.sc (.int .i64 0)), .nil, .nil, .nil, .nil, .nil, .d (.sc (.int .i64 0)), .d (.sc (.int .i64 0))] := by kernel_rfl
@[go_sem] theorem tzero_41 : tzero Try.prog 41 = some [.int .i64 0, .slice none 0 0, .slice none 0 0, .slice none 0 0, .slice none 0 0, .slice none 0 0, .int .i64 0, .int .i64 0] := by kernel_rfl
@[go_sem] theorem tpl_41 : tpl Try.prog 41 = true := by kernel_rfl
@[go_sem] theorem tfl_41_0 : tfl Try.prog 41 0 = some (0, 1, false) := by kernel_rfl
@[go_sem] theorem tfl_41_1 : tfl Try.prog 41 1 = some (1, 1, false) := by kernel_rfl
@[go_sem] theorem tfl_41_2 : tfl Try.prog 41 2 = some (2, 1, false) := by kernel_rfl
@[go_sem] theorem tfl_41_3 : tfl Try.prog 41 3 = some (3, 1, false) := by kernel_rfl
@[go_sem] theorem tfl_41_4 : tfl Try.prog 41 4 = some (4, 1, false) := by kernel_rfl
@[go_sem] theorem tfl_41_5 : tfl Try.prog 41 5 = some (5, 1, false) := by kernel_rfl
@[go_sem] theorem tfl_41_6 : tfl Try.prog 41 6 = some (6, 1, false) := by kernel_rfl
@[go_sem] theorem tfl_41_7 : tfl Try.prog 41 7 = some (7, 1, false) := by kernel_rfl
@[go_sem] theorem tagg_42 : tagg Try.prog 42 = some true := by kernel_rfl
@[go_sem] theorem tsz_42 : tsz Try.prog 42 = some 8 := by kernel_rfl
@[go_sem] theorem tby_42 : tby Try.prog 42 = some 144 := by kernel_rfl
@[go_sem] theorem zac_42 : zeroAC Try.prog 42 = some [.d (.sc (.int .i64 0)), .nil, .nil, .nil, .nil, .nil, .d (.sc (.int .i64 0)), .d (.sc (.int .i64 0))] := by kernel_rfl
@[go_sem] theorem tzero_42 : tzero Try.prog 42 = some [.int .i64 0, .slice none 0 0, .slice none 0 0, .slice none 0 0, .slice none 0 0, .slice none 0 0, .int .i64 0, .int .i64 0] := by kernel_rfl
@[go_sem] theorem tpl_42 : tpl Try.prog 42 = true := by kernel_rfl
@[go_sem] theorem tfl_42_0 : tfl Try.prog 42 0 = some (0, 1, false) := by kernel_rfl
@[go_sem] theorem tfl_42_1 : tfl Try.prog 42 1 = some (1, 1, false) := by kernel_rfl
@[go_sem] theorem tfl_42_2 : tfl Try.prog 42 2 = some (2, 1, false) := by kernel_rfl
@[go_sem] theorem tfl_42_3 : tfl Try.prog 42 3 = some (3, 1, false) := by kernel_rfl
@[go_sem] theorem tfl_42_4 : tfl Try.prog 42 4 = some (4, 1, false) := by kernel_rfl
@[go_sem] theorem tfl_42_5 : tfl Try.prog 42 5 = some (5, 1, false) := by kernel_rfl
@[go_sem] theorem tfl_42_6 : tfl Try.prog 42 6 = some (6, 1, false) := by kernel_rfl
@[go_sem] theorem tfl_42_7 : tfl Try.prog 42 7 = some (7, 1, false) := by kernel_rfl
@[go_sem] theorem tagg_43 : tagg Try.prog 43 = some true := by kernel_rfl
@[go_sem] theorem tsz_43 : tsz Try.prog 43 = some 12 := by kernel_rfl
@[go_sem] theorem tby_43 : tby Try.prog 43 = some 176 := by kernel_rfl
@[go_sem] theorem zac_43 : zeroAC Try.prog 43 = some [.d (.sc (.bool false)), .d (.sc (.int .i64 0)), .d (.sc (.int .i64 0)), .d (.sc (.int .i64 0)), .d (.sc (.int .i64 0)), .nil, .nil, .nil, .nil, .nil, .d (.sc (.int .i64 0)), .d (.sc (.int .i64 0))] := by kernel_rfl
@[go_sem] theorem tzero_43 : tzero Try.prog 43 = some [.bool false, .int .i64 0, .int .i64 0, .int .i64 0, .int .i64 0, .slice none 0 0, .slice none 0 0, .slice none 0 0, .slice none 0 0, .slice none 0 0, .int .i64 0, .int .i64 0] := by kernel_rfl
@[go_sem] theorem tpl_43 : tpl Try.prog 43 = true := by kernel_rfl
@[go_sem] theorem tfl_43_0 : tfl Try.prog 43 0 = some (0, 1, false) := by kernel_rfl
@[go_sem] theorem tfl_43_1 : tfl Try.prog 43 1 = some (1, 1, false) := by kernel_rfl
@[go_sem] theorem tfl_43_2 : tfl Try.prog 43 2 = some (2, 1, false) := by kernel_rfl
@[go_sem] theorem tfl_43_3 : tfl Try.prog 43 3 = some (3, 1, false) := by kernel_rfl
@[go_sem] theorem tfl_43_4 : tfl Try.prog 43 4 = some (4, 8, true) := by kernel_rfl
@[go_sem] theorem tagg_44 : tagg Try.prog 44 = some true := by kernel_rfl
@[go_sem] theorem tsz_44 : tsz Try.prog 44 = some 12 := by kernel_rfl
@[go_sem] theorem tby_44 : tby Try.prog 44 = some 176 := by kernel_rfl
@[go_sem] theorem zac_44 : zeroAC Try.prog 44 = some [.d (.sc (.bool false)), .d (.sc (.int .i64 0)), .d (.sc (.int .i64 0)), .d (.sc (.int .i64 0)), .d (.sc (.int .i64 0)), .nil, .nil, .nil, .nil, .nil, .d (.sc (.int .i64 0)), .d (.sc (.int .i64 0))] := by kernel_rfl
@[go_sem] theorem tzero_44 : tzero Try.prog 44 = some [.bool false, .int .i64 0, .int .i64 0, .int .i64 0, .int .i64 0, .slice none 0 0, .slice none 0 0, .slice none 0 0, .slice none 0 0, .slice none 0 0, .int .i64 0, .int .i64 0] := by kernel_rfl
@[go_sem] theorem tpl_44 : tpl Try.prog 44 = true := by kernel_rfl
@[go_sem] theorem tfl_44_0 : tfl Try.prog 44 0 = some (0, 1, false) := by kernel_rfl
@[go_sem] theorem tfl_44_1 : tfl Try.prog 44 1 = some (1, 1, false) := by kernel_rfl
@[go_sem] theorem tfl_44_2 : tfl Try.prog 44 2 = some (2, 1, false) := by kernel_rfl
@[go_sem] theorem tfl_44_3 : tfl Try.prog 44 3 = some (3, 1, false) := by kernel_rfl
@[go_sem] theorem tfl_44_4 : tfl Try.prog 44 4 = some (4, 8, true) := by kernel_rfl
@[go_sem] theorem tagg_48 : tagg Try.prog 48 = some false := by kernel_rfl
@[go_sem] theorem tsz_48 : tsz Try.prog 48 = some 1 := by kernel_rfl
@[go_sem] theorem tby_48 : tby Try.prog 48 = some 24 := by kernel_rfl
@[go_sem] theorem zac_48 : zeroAC Try.prog 48 = some [.nil] := by kernel_rfl
@[go_sem] theorem tzero_48 : tzero Try.prog 48 = some [.slice none 0 0] := by kernel_rfl
@[go_sem] theorem tel_48 : tel Try.prog 48 = some (72, 12) := by kernel_rfl
@[go_sem] theorem tagg_49 : tagg Try.prog 49 = some true := by kernel_rfl
@[go_sem] theorem tsz_49 : tsz Try.prog 49 = some 4 := by kernel_rfl
@[go_sem] theorem tby_49 : tby Try.prog 49 = some 64 := by kernel_rfl
@[go_sem] theorem zac_49 : zeroAC Try.prog 49 = some [.d (.sc (.bool false)), .d (.sc (.int .i64 0)), .nil, .nil] := by kernel_rfl
@[go_sem] theorem tzero_49 : tzero Try.prog 49 = some [.bool false, .int .i64 0, .slice none 0 0, .slice none 0 0] := by kernel_rfl
@[go_sem] theorem tpl_49 : tpl Try.prog 49 = true := by kernel_rfl
@[go_sem] theorem tfl_49_0 : tfl Try.prog 49 0 = some (0, 1, false) := by kernel_rfl
@[go_sem] theorem tfl_49_1 : tfl Try.prog 49 1 = some (1, 1, false) := by kernel_rfl
@[go_sem] theorem tfl_49_2 : tfl Try.prog 49 2 = some (2, 1, false) := by kernel_rfl
@[go_sem] theorem tfl_49_3 : tfl Try.prog 49 3 = some (3, 1, false) := by kernel_rfl
@[go_sem] theorem tagg_50 : tagg Try.prog 50 = some true := by kernel_rfl
@[go_sem] theorem tsz_50 : tsz Try.prog 50 = some 4 := by kernel_rfl
@[go_sem] theorem tby_50 : tby Try.prog 50 = some 64 := by kernel_rfl
@[go_sem] theorem zac_50 : zeroAC Try.prog 50 = some [.d (.sc (.bool false)), .d (.sc (.int .i64 0)), .nil, .nil] := by kernel_rfl
@[go_sem] theorem tzero_50 : tzero Try.prog 50 = some [.bool false, .int .i64 0, .slice none 0 0, .slice none 0 0] := by kernel_rfl
@[go_sem] theorem tpl_50 : tpl Try.prog 50 = true := by kernel_rfl
@[go_sem] theorem tfl_50_0 : tfl Try.prog 50 0 = some (0, 1, false) := by kernel_rfl
@[go_sem] theorem tfl_50_1 : tfl Try.prog 50 1 = some (1, 1, false) := by kernel_rfl
@[go_sem] theorem tfl_50_2 : tfl Try.prog 50 2 = some (2, 1, false) := by kernel_rfl
@[go_sem] theorem tfl_50_3 : tfl Try.prog 50 3 = some (3, 1, false) := by kernel_rfl
@[go_sem] theorem tagg_57 : tagg Try.prog 57 = some false := by kernel_rfl
@[go_sem] theorem tsz_57 : tsz Try.prog 57 = some 1 := by kernel_rfl
@[go_sem] theorem tby_57 : tby Try.prog 57 = some 24 := by kernel_rfl
@[go_sem] theorem zac_57 : zeroAC Try.prog 57 = some [.nil] := by kernel_rfl
@[go_sem] theorem tzero_57 : tzero Try.prog 57 = some [.slice none 0 0] := by kernel_rfl
@[go_sem] theorem tel_57 : tel Try.prog 57 = some (93, 12) := by kernel_rfl
@[go_sem] theorem tagg_58 : tagg Try.prog 58 = some true := by kernel_rfl
@[go_sem] theorem tsz_58 : tsz Try.prog 58 = some 4 := by kernel_rfl
@[go_sem] theorem tby_58 : tby Try.prog 58 = some 64 := by kernel_rfl
@[go_sem] theorem zac_58 : zeroAC Try.prog 58 = some [.d (.sc (.bool false)), .d (.sc (.int .i64 0)), .nil, .nil] := by kernel_rfl
@[go_sem] theorem tzero_58 : tzero Try.prog 58 = some [.bool false, .int .i64 0, .slice none 0 0, .slice none 0 0] := by kernel_rfl
@[go_sem] theorem tpl_58 : tpl Try.prog 58 = true := by kernel_rfl
@[go_sem] theorem tfl_58_0 : tfl Try.prog 58 0 = some (0, 1, false) := by kernel_rfl
@[go_sem] theorem tfl_58_1 : tfl Try.prog 58 1 = some (1, 1, false) := by kernel_rfl
@[go_sem] theorem tfl_58_2 : tfl Try.prog 58 2 = some (2, 1, false) := by kernel_rfl
@[go_sem] theorem tfl_58_3 : tfl Try.prog 58 3 = some (3, 1, false) := by kernel_rfl
@[go_sem] theorem tagg_59 : tagg Try.prog 59 = some true := by kernel_rfl
@[go_sem] theorem tsz_59 : tsz Try.prog 59 = some 4 := by kernel_rfl
@[go_sem] theorem tby_59 : tby Try.prog 59 = some 64 := by kernel_rfl
@[go_sem] theorem zac_59 : zeroAC Try.prog 59 = some [.d (.sc (.bool false)), .d (.sc (.int .i64 0)), .nil, .nil] := by kernel_rfl
@[go_sem] theorem tzero_59 : tzero Try.prog 59 = some [.bool false, .int .i64 0, .slice none 0 0, .slice none 0 0] := by kernel_rfl
@[go_sem] theorem tpl_59 : tpl Try.prog 59 = true := by kernel_rfl
@[go_sem] theorem tfl_59_0 : tfl Try.prog 59 0 = some (0, 1, false) := by kernel_rfl
@[go_sem] theorem tfl_59_1 : tfl Try.prog 59 1 = some (1, 1, false) := by kernel_rfl
@[go_sem] theorem tfl_59_2 : tfl Try.prog 59 2 = some (2, 1, false) := by kernel_rfl
@[go_sem] theorem tfl_59_3 : tfl Try.prog 59 3 = some (3, 1, false) := by kernel_rfl
@[go_sem] theorem tagg_61 : tagg Try.prog 61 = some false := by kernel_rfl
@[go_sem] theorem tsz_61 : tsz Try.prog 61 = some 1 := by kernel_rfl
@[go_sem] theorem tby_61 : tby Try.prog 61 = some 24 := by kernel_rfl
@[go_sem] theorem zac_61 : zeroAC Try.prog 61 = some [.nil] := by kernel_rfl
@[go_sem] theorem tzero_61 : tzero Try.prog 61 = some [.slice none 0 0] := by kernel_rfl
@[go_sem] theorem tel_61 : tel Try.prog 61 = some (108, 3) := by kernel_rfl
@[go_sem] theorem tagg_62 : tagg Try.prog 62 = some false := by kernel_rfl
@[go_sem] theorem tsz_62 : tsz Try.prog 62 = some 1 := by kernel_rfl
@[go_sem] theorem tby_62 : tby Try.prog 62 = some 24 := by kernel_rfl
@[go_sem] theorem zac_62 : zeroAC Try.prog 62 = some [.nil] := by kernel_rfl
@[go_sem] theorem tzero_62 : tzero Try.prog 62 = some [.slice none 0 0] := by kernel_rfl
@[go_sem] theorem tel_62 : tel Try.prog 62 = some (64, 8) := by kernel_rfl
@[go_sem] theorem tagg_63 : tagg Try.prog 63 = some true := by kernel_rfl
@[go_sem] theorem tsz_63 : tsz Try.prog 63 = some 8 := by kernel_rfl
@[go_sem] theorem tby_63 : tby Try.prog 63 = some 144 := by kernel_rfl
@[go_sem] theorem zac_63 : zeroAC Try.prog 63 = some [.d (.sc (.int .i64 0)), .nil, .nil, .nil, .nil, .nil, .d (.sc (.int .i64 0)), .d (.sc (.int .i64 0))] := by kernel_rfl
@[go_sem] theorem tzero_63 : tzero Try.prog 63 = some [.int .i64 0, .slice none 0 0, .slice none 0 0, .slice none 0 0, .slice none 0 0, .slice none 0 0, .int .i64 0, .int .i64 0] := by kernel_rfl
@[go_sem] theorem tpl_63 : tpl Try.prog 63 = true := by kernel_rfl
@[go_sem] theorem tfl_63_0 : tfl Try.prog 63 0 = some (0, 1, false) := by kernel_rfl
@[go_sem] theorem tfl_63_1 : tfl Try.prog 63 1 = some (1, 1, false) := by kernel_rfl
@[go_sem] theorem tfl_63_2 : tfl Try.prog 63 2 = some (2, 1, false) := by kernel_rfl
@[go_sem] theorem tfl_63_3 : tfl Try.prog 63 3 = some (3, 1, false) := by kernel_rfl
@[go_sem] theorem tfl_63_4 : tfl Try.prog 63 4 = some (4, 1, false) := by kernel_rfl
@[go_sem] theorem tfl_63_5 : tfl Try.prog 63 5 = some (5, 1, false) := by kernel_rfl
@[go_sem] theorem tfl_63_6 : tfl Try.prog 63 6 = some (6, 1, false) := by kernel_rfl
@[go_sem] theorem tfl_63_7 : tfl Try.prog 63 7 = some (7, 1, false) := by kernel_rfl
@[go_sem] theorem tagg_64 : tagg Try.prog 64 = some true := by kernel_rfl
@[go_sem] theorem tsz_64 : tsz Try.prog 64 = some 8 := by kernel_rfl
@[go_sem] theorem tby_64 : tby Try.prog 64 = some 144 := by kernel_rfl
@[go_sem] theorem zac_64 : zeroAC Try.prog 64 = some [.d (.sc (.int .i64 0)), .nil, .nil, .nil, .nil, .nil, .d (.sc (.int .i64 0)), .d (.sc (.int .i64 0))] := by kernel_rfl
@[go_sem] theorem tzero_64 : tzero Try.prog 64 = some [.int .i64 0, .slice none 0 0, .slice none 0 0, .slice none 0 0, .slice none 0 0, .slice none 0 0, .int .i64 0, .int .i64 0] := by kernel_rfl
@[go_sem] theorem tpl_64 : tpl Try.prog 64 = true := by kernel_rfl
@[go_sem] theorem tfl_64_0 : tfl Try.prog 64 0 = some (0, 1, false) := by kernel_rfl
@[go_sem] theorem tfl_64_1 : tfl Try.prog 64 1 = some (1, 1, false) := by kernel_rfl
@[go_sem] theorem tfl_64_2 : tfl Try.prog 64 2 = some (2, 1, false) := by kernel_rfl
@[go_sem] theorem tfl_64_3 : tfl Try.prog 64 3 = some (3, 1, false) := by kernel_rfl
@[go_sem] theorem tfl_64_4 : tfl Try.prog 64 4 = some (4, 1, false) := by kernel_rfl
@[go_sem] theorem tfl_64_5 : tfl Try.prog 64 5 = some (5, 1, false) := by kernel_rfl
@[go_sem] theorem tfl_64_6 : tfl Try.prog 64 6 = some (6, 1, false) := by kernel_rfl
@[go_sem] theorem tfl_64_7 : tfl Try.prog 64 7 = some (7, 1, false) := by kernel_rfl
@[go_sem] theorem tagg_65 : tagg Try.prog 65 = some true := by kernel_rfl
@[go_sem] theorem tsz_65 : tsz Try.prog 65 = some 12 := by kernel_rfl
@[go_sem] theorem tby_65 : tby Try.prog 65 = some 176 := by kernel_rfl
@[go_sem] theorem zac_65 : zeroAC Try.prog 65 = some [.d (.sc (.bool false)), .d (.sc (.int .i64 0)), .d (.sc (.int .i64 0)), .d (.sc (.int .i64 0)), .d (.sc (.int .i64 0)), .nil, .nil, .nil, .nil, .nil, .d (.sc (.int .i64 0)), .d (.sc (.int .i64 0))] := by kernel_rfl
@[go_sem] theorem tzero_65 : tzero Try.prog 65 = some [.bool false, .int .i64 0, .int .i64 0, .int .i64 0, .int .i64 0, .slice none 0 0, .slice none 0 0, .slice none 0 0, .slice none 0 0, .slice none 0 0, .int .i64 0, .int .i64 0] := by kernel_rfl
@[go_sem] theorem tpl_65 : tpl Try.prog 65 = true := by kernel_rfl
@[go_sem] theorem tfl_65_0 : tfl Try.prog 65 0 = some (0, 1, false) := by kernel_rfl
@[go_sem] theorem tfl_65_1 : tfl Try.prog 65 1 = some (1, 1, false) := by kernel_rfl
@[go_sem] theorem tfl_65_2 : tfl Try.prog 65 2 = some (2, 1, false) := by kernel_rfl
@[go_sem] theorem tfl_65_3 : tfl Try.prog 65 3 = some (3, 1, false) := by kernel_rfl
@[go_sem] theorem tfl_65_4 : tfl Try.prog 65 4 = some (4, 8, true) := by kernel_rfl
@[go_sem] theorem tagg_66 : tagg Try.prog 66 = some true := by kernel_rfl
@[go_sem] theorem tsz_66 : tsz Try.prog 66 = some 12 := by kernel_rfl
@[go_sem] theorem tby_66 : tby Try.prog 66 = some 176 := by kernel_rfl
@[go_sem] theorem zac_66 : zeroAC Try.prog 66 = some [.d (.sc (.bool false)), .d (.sc (.int .i64 0)), .d (.sc (.int .i64 0)), .d (.sc (.int .i64 0)), .d (.sc (.int .i64 0)), .nil, .nil, .nil, .nil, .nil, .d (.sc (.int .i64 0)), .d (.sc (.int .i64 0))] := by kernel_rfl
@[go_sem] theorem tzero_66 : tzero Try.prog 66 = some [.bool false, .int .i64 0, .int .i64 0, .int .i64 0, .int .i64 0, .slice none 0 0, .slice none 0 0, .slice none 0 0, .slice none 0 0, .slice none 0 0, .int .i64 0, .int .i64 0] := by kernel_rfl
@[go_sem] theorem tpl_66 : tpl Try.prog 66 = true := by kernel_rfl
@[go_sem] theorem tfl_66_0 : tfl Try.prog 66 0 = some (0, 1, false) := by kernel_rfl
@[go_sem] theorem tfl_66_1 : tfl Try.prog 66 1 = some (1, 1, false) := by kernel_rfl
@[go_sem] theorem tfl_66_2 : tfl Try.prog 66 2 = some (2, 1, false) := by kernel_rfl
@[go_sem] theorem tfl_66_3 : tfl Try.prog 66 3 = some (3, 1, false) := by kernel_rfl
@[go_sem] theorem tfl_66_4 : tfl Try.prog 66 4 = some (4, 8, true) := by kernel_rfl
@[go_sem] theorem tagg_70 : tagg Try.prog 70 = some false := by kernel_rfl
@[go_sem] theorem tsz_70 : tsz Try.prog 70 = some 1 := by kernel_rfl
@[go_sem] theorem tby_70 : tby Try.prog 70 = some 24 := by kernel_rfl
@[go_sem] theorem zac_70 : zeroAC Try.prog 70 = some [.nil] := by kernel_rfl
@[go_sem] theorem tzero_70 : tzero Try.prog 70 = some [.slice none 0 0] := by kernel_rfl
@[go_sem] theorem tel_70 : tel Try.prog 70 = some (3, 1) := by kernel_rfl
@[go_sem] theorem tagg_71 : tagg Try.prog 71 = some true := by kernel_rfl
@[go_sem] theorem tsz_71 : tsz Try.prog 71 = some 12 := by kernel_rfl
@[go_sem] theorem tby_71 : tby Try.prog 71 = some 208 := by kernel_rfl
@[go_sem] theorem zac_71 : zeroAC Try.prog 71 = some [.d (.sc (.int .i64 0)), .d (.sc (.int .i64 0)), .nil, .nil, .nil, .nil, .nil, .d (.sc (.int .i64 0)), .d (.sc (.int .i64 0)), .d (.sc (.int .i64 0)), .nil, .nil] := by kernel_rfl
@[go_sem] theorem tzero_71 : tzero Try.prog 71 = some [.int .i64 0, .int .i64 0, .slice none 0 0, .slice none 0 0, .slice none 0 0, .slice none 0 0, .slice none 0 0, .int .i64 0, .int .i64 0, .int .i64 0, .slice none 0 0, .slice none 0 0] := by kernel_rfl
@[go_sem] theorem tpl_71 : tpl Try.prog 71 = true := by kernel_rfl
@[go_sem] theorem tfl_71_0 : tfl Try.prog 71 0 = some (0, 1, false) := by kernel_rfl
@[go_sem] theorem tfl_71_1 : tfl Try.prog 71 1 = some (1, 8, true) := by kernel_rfl
@[go_sem] theorem tfl_71_2 : tfl Try.prog 71 2 = some (9, 1, false) := by kernel_rfl
@[go_sem] theorem tfl_71_3 : tfl Try.prog 71 3 = some (10, 1, false) := by kernel_rfl
@[go_sem] theorem tfl_71_4 : tfl Try.prog 71 4 = some (11, 1, false) := by kernel_rfl
@[go_sem] theorem tagg_72 : tagg Try.prog 72 = some true := by kernel_rfl
@[go_sem] theorem tsz_72 : tsz Try.prog 72 = some 12 := by kernel_rfl
@[go_sem] theorem tby_72 : tby Try.prog 72 = some 208 := by kernel_rfl
@[go_sem] theorem zac_72 : zeroAC Try.prog 72 = some [.d (.sc (.int .i64 0)), .d (.sc (.int .i64 0)), .nil, .nil, .nil, .nil, .nil, .d (.sc (.int .i64 0)), .d (.sc (.int .i64 0)), .d (.sc (.int .i64 0)), .nil, .nil] := by kernel_rfl
@[go_sem] theorem tzero_72 : tzero Try.prog 72 = some [.int .i64 0, .int .i64 0, .slice none 0 0, .slice none 0 0, .slice none 0 0, .slice none 0 0, .slice none 0 0, .int .i64 0, .int .i64 0, .int .i64 0, .slice none 0 0, .slice none 0 0] := by kernel_rfl
@[go_sem] theorem tpl_72 : tpl Try.prog 72 = true := by kernel_rfl
@[go_sem] theorem tfl_72_0 : tfl Try.prog 72 0 = some (0, 1, false) := by kernel_rfl
@[go_sem] theorem tfl_72_1 : tfl Try.prog 72 1 = some (1, 8, true) := by kernel_rfl
@[go_sem] theorem tfl_72_2 : tfl Try.prog 72 2 = some (9, 1, false) := by kernel_rfl
@[go_sem] theorem tfl_72_3 : tfl Try.prog 72 3 = some (10, 1, false) := by kernel_rfl
@[go_sem] theorem tfl_72_4 : tfl Try.prog 72 4 = some (11, 1, false) := by kernel_rfl
@[go_sem] theorem tagg_74 : tagg Try.prog 74 = some true := by kernel_rfl
@[go_sem] theorem tsz_74 : tsz Try.prog 74 = some 3 := by kernel_rfl
@[go_sem] theorem tby_74 : tby Try.prog 74 = some 32 := by kernel_rfl
@[go_sem] theorem zac_74 : zeroAC Try.prog 74 = some [.d (.sc (.int .i64 0)), .d (.sc (.int .i64 0)), .d (.sc (.string ByteArray.empty))] := by kernel_rfl
@[go_sem] theorem tzero_74 : tzero Try.prog 74 = some [.int .i64 0, .int .i64 0, .string ByteArray.empty] := by kernel_rfl
@[go_sem] theorem tpl_74 : tpl Try.prog 74 = true := by kernel_rfl
@[go_sem] theorem tfl_74_0 : tfl Try.prog 74 0 = some (0, 1, false) := by kernel_rfl
@[go_sem] theorem tfl_74_1 : tfl Try.prog 74 1 = some (1, 1, false) := by kernel_rfl
@[go_sem] theorem tfl_74_2 : tfl Try.prog 74 2 = some (2, 1, false) := by kernel_rfl
@[go_sem] theorem tagg_75 : tagg Try.prog 75 = some true := by kernel_rfl
@[go_sem] theorem tsz_75 : tsz Try.prog 75 = some 3 := by kernel_rfl
@[go_sem] theorem tby_75 : tby Try.prog 75 = some 32 := by kernel_rfl
@[go_sem] theorem zac_75 : zeroAC Try.prog 75 = some [.d (.sc (.int .i64 0)), .d (.sc (.int .i64 0)), .d (.sc (.string ByteArray.empty))] := by kernel_rfl
@[go_sem] theorem tzero_75 : tzero Try.prog 75 = some [.int .i64 0, .int .i64 0, .string ByteArray.empty] := by kernel_rfl
@[go_sem] theorem tpl_75 : tpl Try.prog 75 = true := by kernel_rfl
@[go_sem] theorem tfl_75_0 : tfl Try.prog 75 0 = some (0, 1, false) := by kernel_rfl
@[go_sem] theorem tfl_75_1 : tfl Try.prog 75 1 = some (1, 1, false) := by kernel_rfl
@[go_sem] theorem tfl_75_2 : tfl Try.prog 75 2 = some (2, 1, false) := by kernel_rfl
@[go_sem] theorem tagg_92 : tagg Try.prog 92 = some true := by kernel_rfl
@[go_sem] theorem tsz_92 : tsz Try.prog 92 = some 12 := by kernel_rfl
@[go_sem] theorem tby_92 : tby Try.prog 92 = some 208 := by kernel_rfl
@[go_sem] theorem zac_92 : zeroAC Try.prog 92 = some [.d (.sc (.int .i64 0)), .d (.sc (.int .i64 0)), .nil, .nil, .nil, .nil, .nil, .d (.sc (.int .i64 0)), .d (.sc (.int .i64 0)), .d (.sc (.int .i64 0)), .nil, .nil] := by kernel_rfl
@[go_sem] theorem tzero_92 : tzero Try.prog 92 = some [.int .i64 0, .int .i64 0, .slice none 0 0, .slice none 0 0, .slice none 0 0, .slice none 0 0, .slice none 0 0, .int .i64 0, .int .i64 0, .int .i64 0, .slice none 0 0, .slice none 0 0] := by kernel_rfl
@[go_sem] theorem tpl_92 : tpl Try.prog 92 = true := by kernel_rfl
@[go_sem] theorem tfl_92_0 : tfl Try.prog 92 0 = some (0, 1, false) := by kernel_rfl
@[go_sem] theorem tfl_92_1 : tfl Try.prog 92 1 = some (1, 8, true) := by kernel_rfl
@[go_sem] theorem tfl_92_2 : tfl Try.prog 92 2 = some (9, 1, false) := by kernel_rfl
@[go_sem] theorem tfl_92_3 : tfl Try.prog 92 3 = some (10, 1, false) := by kernel_rfl
@[go_sem] theorem tfl_92_4 : tfl Try.prog 92 4 = some (11, 1, false) := by kernel_rfl
@[go_sem] theorem tagg_93 : tagg Try.prog 93 = some true := by kernel_rfl
@[go_sem] theorem tsz_93 : tsz Try.prog 93 = some 12 := by kernel_rfl
@[go_sem] theorem tby_93 : tby Try.prog 93 = some 208 := by kernel_rfl
@[go_sem] theorem zac_93 : zeroAC Try.prog 93 = some [.d (.sc (.int .i64 0)), .d (.sc (.int .i64 0)), .nil, .nil, .nil, .nil, .nil, .d (.sc (.int .i64 0)), .d (.sc (.int .i64 0)), .d (.sc (.int .i64 0)), .nil, .nil] := by kernel_rfl
@[go_sem] theorem tzero_93 : tzero Try.prog 93 = some [.int .i64 0, .int .i64 0, .slice none 0 0, .slice none 0 0, .slice none 0 0, .slice none 0 0, .slice none 0 0, .int .i64 0, .int .i64 0, .int .i64 0, .slice none 0 0, .slice none 0 0] := by kernel_rfl
@[go_sem] theorem tpl_93 : tpl Try.prog 93 = true := by kernel_rfl
@[go_sem] theorem tfl_93_0 : tfl Try.prog 93 0 = some (0, 1, false) := by kernel_rfl
@[go_sem] theorem tfl_93_1 : tfl Try.prog 93 1 = some (1, 8, true) := by kernel_rfl
@[go_sem] theorem tfl_93_2 : tfl Try.prog 93 2 = some (9, 1, false) := by kernel_rfl
@[go_sem] theorem tfl_93_3 : tfl Try.prog 93 3 = some (10, 1, false) := by kernel_rfl
@[go_sem] theorem tfl_93_4 : tfl Try.prog 93 4 = some (11, 1, false) := by kernel_rfl
@[go_sem] theorem tagg_108 : tagg Try.prog 108 = some true := by kernel_rfl
@[go_sem] theorem tsz_108 : tsz Try.prog 108 = some 3 := by kernel_rfl
@[go_sem] theorem tby_108 : tby Try.prog 108 = some 32 := by kernel_rfl
@[go_sem] theorem zac_108 : zeroAC Try.prog 108 = some [.d (.sc (.int .i64 0)), .d (.sc (.int .i64 0)), .d (.sc (.string ByteArray.empty))] := by kernel_rfl
@[go_sem] theorem tzero_108 : tzero Try.prog 108 = some [.int .i64 0, .int .i64 0, .string ByteArray.empty] := by kernel_rfl
@[go_sem] theorem tpl_108 : tpl Try.prog 108 = true := by kernel_rfl
@[go_sem] theorem tfl_108_0 : tfl Try.prog 108 0 = some (0, 1, false) := by kernel_rfl
@[go_sem] theorem tfl_108_1 : tfl Try.prog 108 1 = some (1, 1, false) := by kernel_rfl
@[go_sem] theorem tfl_108_2 : tfl Try.prog 108 2 = some (2, 1, false) := by kernel_rfl
@[go_sem] theorem tagg_117 : tagg Try.prog 117 = some true := by kernel_rfl
@[go_sem] theorem tsz_117 : tsz Try.prog 117 = some 4 := by kernel_rfl
@[go_sem] theorem tby_117 : tby Try.prog 117 = some 40 := by kernel_rfl
@[go_sem] theorem tagg_118 : tagg Try.prog 118 = some true := by kernel_rfl
@[go_sem] theorem tsz_118 : tsz Try.prog 118 = some 4 := by kernel_rfl
@[go_sem] theorem tby_118 : tby Try.prog 118 = some 40 := by kernel_rfl
@[go_sem] theorem tagg_120 : tagg Try.prog 120 = some true := by kernel_rfl
@[go_sem] theorem tsz_120 : tsz Try.prog 120 = some 0 := by kernel_rfl
@[go_sem] theorem tby_120 : tby Try.prog 120 = some 0 := by kernel_rfl
@[go_sem] theorem zac_120 : zeroAC Try.prog 120 = some [] := by kernel_rfl
@[go_sem] theorem tzero_120 : tzero Try.prog 120 = some [] := by kernel_rfl
@[go_sem] theorem tagg_121 : tagg Try.prog 121 = some true := by kernel_rfl
@[go_sem] theorem tsz_121 : tsz Try.prog 121 = some 0 := by kernel_rfl
@[go_sem] theorem tby_121 : tby Try.prog 121 = some 0 := by kernel_rfl
@[go_sem] theorem zac_121 : zeroAC Try.prog 121 = some [] := by kernel_rfl
@[go_sem] theorem tzero_121 : tzero Try.prog 121 = some [] := by kernel_rfl
@[go_sem] theorem tagg_123 : tagg Try.prog 123 = some false := by kernel_rfl
@[go_sem] theorem tsz_123 : tsz Try.prog 123 = some 1 := by kernel_rfl
@[go_sem] theorem tby_123 : tby Try.prog 123 = some 4 := by kernel_rfl
@[go_sem] theorem und_123 : Try.prog.underlying 123 = some (.int .u32) := by kernel_rfl
@[go_sem] theorem zac_123 : zeroAC Try.prog 123 = some [.d (.sc (.int .u32 0))] := by kernel_rfl
@[go_sem] theorem tzero_123 : tzero Try.prog 123 = some [.int .u32 0] := by kernel_rfl
@[go_sem] theorem tagg_124 : tagg Try.prog 124 = some false := by kernel_rfl
@[go_sem] theorem tsz_124 : tsz Try.prog 124 = some 1 := by kernel_rfl
@[go_sem] theorem tby_124 : tby Try.prog 124 = some 1 := by kernel_rfl
@[go_sem] theorem und_124 : Try.prog.underlying 124 = some (.int .u8) := by kernel_rfl
@[go_sem] theorem zac_124 : zeroAC Try.prog 124 = some [.d (.sc (.int .u8 0))] := by kernel_rfl
@[go_sem] theorem tzero_124 : tzero Try.prog 124 = some [.int .u8 0] := by kernel_rfl
@[go_sem] theorem tagg_125 : tagg Try.prog 125 = some false := by kernel_rfl
@[go_sem] theorem tsz_125 : tsz Try.prog 125 = some 1 := by kernel_rfl
@[go_sem] theorem tby_125 : tby Try.prog 125 = some 1 := by kernel_rfl
@[go_sem] theorem und_125 : Try.prog.underlying 125 = some (.int .u8) := by kernel_rfl
@[go_sem] theorem zac_125 : zeroAC Try.prog 125 = some [.d (.sc (.int .u8 0))] := by kernel_rfl
@[go_sem] theorem tzero_125 : tzero Try.prog 125 = some [.int .u8 0] := by kernel_rfl
@[go_sem] theorem tagg_128 : tagg Try.prog 128 = some false := by kernel_rfl
@[go_sem] theorem tsz_128 : tsz Try.prog 128 = some 1 := by kernel_rfl
@[go_sem] theorem tby_128 : tby Try.prog 128 = some 4 := by kernel_rfl
@[go_sem] theorem und_128 : Try.prog.underlying 128 = some (.int .i32) := by kernel_rfl
@[go_sem] theorem zac_128 : zeroAC Try.prog 128 = some [.d (.sc (.int .i32 0))] := by kernel_rfl
@[go_sem] theorem tzero_128 : tzero Try.prog 128 = some [.int .i32 0] := by kernel_rfl
@[go_sem] theorem tagg_129 : tagg Try.prog 129 = some false := by kernel_rfl
@[go_sem] theorem tsz_129 : tsz Try.prog 129 = some 1 := by kernel_rfl
@[go_sem] theorem tby_129 : tby Try.prog 129 = some 4 := by kernel_rfl
@[go_sem] theorem und_129 : Try.prog.underlying 129 = some (.int .i32) := by kernel_rfl
@[go_sem] theorem zac_129 : zeroAC Try.prog 129 = some [.d (.sc (.int .i32 0))] := by kernel_rfl
@[go_sem] theorem tzero_129 : tzero Try.prog 129 = some [.int .i32 0] := by kernel_rfl
@[go_sem] theorem tagg_130 : tagg Try.prog 130 = some true := by kernel_rfl
@[go_sem] theorem tsz_130 : tsz Try.prog 130 = some 11 := by kernel_rfl
@[go_sem] theorem tby_130 : tby Try.prog 130 = some 48 := by kernel_rfl
@[go_sem] theorem tagg_131 : tagg Try.prog 131 = some true := by kernel_rfl
@[go_sem] theorem tsz_131 : tsz Try.prog 131 = some 11 := by kernel_rfl
@[go_sem] theorem tby_131 : tby Try.prog 131 = some 48 := by kernel_rfl
end Go.Proofs.Ytkhibgknpcgneaa

namespace Go.Proofs.Ytkhibgknpcgneaa
open Go.RowKit
set_option maxRecDepth 100000
def encIts (l : List It) : DV := .sl 75 3 (l.map encIt)
theorem szItem_m (x : It) (left : Int) (ht : x.text.size ≤ 9223372036854775807) (h0 : 0 ≤ left) (h1 : left ≤ 1048576) : Meets Try.prog 74 [(true, encIt x), (false, [.sc (.int .i64 left)])] [(false, [.sc (.int .i64 (szF left (wtItem x)))], true)] := by
  have hw : IntKind.i64.wrap (left - (x.text.size : Int)) = left - x.text.size := wrapI _ (by omega)
  refine meets_of Try.func74 rfl (by kernel_rfl) (by simp) Try.ntmps74 (congrArg Array.toList Try.results74) ?_
  by_cases hc : left - (x.text.size : Int) < 0
  · have hs : szF left (wtItem x) = -1 := szF_gt (by unfold wtItem; omega)
    simp only [go_sem, ↓reduceIte, Nat.reduceAdd, Nat.reduceSub, Nat.reduceMul, Nat.reduceLT, Nat.reduceLeDiff, Nat.reduceEqDiff, Int.reduceLT, Int.reduceLE, Int.reduceEq, Nat.reduceBEq, reduceCtorEq, reduceCtorEq, encIt, hw, decide_eq_true hc, hs]
    refine Or.inl ?_; repeat' (first | exact gives_nil | exact trivial | with_reducible apply gives_sc | with_reducible apply gives_nilS (by decide) | with_reducible apply gives_own | with_reducible apply Exists.intro | with_reducible apply And.intro | (show (_ : Option Ob) = _; simp only [go_sem, ↓reduceIte, Nat.reduceAdd, Nat.reduceSub, Nat.reduceMul, Nat.reduceLT, Nat.reduceLeDiff, Nat.reduceEqDiff, Int.reduceLT, Int.reduceLE, Int.reduceEq, Nat.reduceBEq, reduceCtorEq, reduceCtorEq, true_and]))
  · have hs : szF left (wtItem x) = left - x.text.size := szF_le (by unfold wtItem; omega)
    simp only [go_sem, ↓reduceIte, Nat.reduceAdd, Nat.reduceSub, Nat.reduceMul, Nat.reduceLT, Nat.reduceLeDiff, Nat.reduceEqDiff, Int.reduceLT, Int.reduceLE, Int.reduceEq, Nat.reduceBEq, reduceCtorEq, reduceCtorEq, encIt, hw, decide_eq_false hc, hs]
    refine Or.inl ?_; repeat' (first | exact gives_nil | exact trivial | with_reducible apply gives_sc | with_reducible apply gives_nilS (by decide) | with_reducible apply gives_own | with_reducible apply Exists.intro | with_reducible apply And.intro | (show (_ : Option Ob) = _; simp only [go_sem, ↓reduceIte, Nat.reduceAdd, Nat.reduceSub, Nat.reduceMul, Nat.reduceLT, Nat.reduceLeDiff, Nat.reduceEqDiff, Int.reduceLT, Int.reduceLE, Int.reduceEq, Nat.reduceBEq, reduceCtorEq, reduceCtorEq, true_and]))
theorem szItemS_m (t : Nat) (l : List It) (left : Int) (hn : l.length ≤ 9223372036854775807) (ht : ∀ x ∈ l, x.text.size ≤ 9223372036854775807) (h0 : 0 ≤ left) (h1 : left ≤ 1048576) :
    Meets Try.prog 57 [(false, [.sl t 3 (l.map encIt)]), (false, [.sc (.int .i64 left)])] [(false, [.sc (.int .i64 (szF left (wtItems l)))], true)] := by
  have hw : IntKind.i64.wrap (left - (l.length : Int)) = left - l.length := wrapI _ (by omega)
  refine meets_of Try.func57 rfl (by kernel_rfl) (by simp) Try.ntmps57 (congrArg Array.toList Try.results57) ?_
  by_cases hc : left - (l.length : Int) < 0
  · have hs : szF left (wtItems l) = -1 := szF_gt (by unfold wtItems; omega)
    simp only [go_sem, ↓reduceIte, Nat.reduceAdd, Nat.reduceSub, Nat.reduceMul, Nat.reduceLT, Nat.reduceLeDiff, Nat.reduceEqDiff, Int.reduceLT, Int.reduceLE, Int.reduceEq, Nat.reduceBEq, reduceCtorEq, reduceCtorEq, List.length_map, hw, decide_eq_true hc, hs]
    refine Or.inl ?_; repeat' (first | exact gives_nil | exact trivial | with_reducible apply gives_sc | with_reducible apply gives_nilS (by decide) | with_reducible apply gives_own | with_reducible apply Exists.intro | with_reducible apply And.intro | (show (_ : Option Ob) = _; simp only [go_sem, ↓reduceIte, Nat.reduceAdd, Nat.reduceSub, Nat.reduceMul, Nat.reduceLT, Nat.reduceLeDiff, Nat.reduceEqDiff, Int.reduceLT, Int.reduceLE, Int.reduceEq, Nat.reduceBEq, reduceCtorEq, reduceCtorEq, true_and]))
  · simp only [go_sem, ↓reduceIte, Nat.reduceAdd, Nat.reduceSub, Nat.reduceMul, Nat.reduceLT, Nat.reduceLeDiff, Nat.reduceEqDiff, Int.reduceLT, Int.reduceLE, Int.reduceEq, Nat.reduceBEq, reduceCtorEq, reduceCtorEq, List.length_map, hw, decide_eq_false hc]
    refine awp_loop (fun s m => ∃ (k : Nat) (r : Int), k ≤ l.length ∧ m = l.length - k ∧ 0 ≤ r ∧ r = left - l.length - (sumBy wtItem (l.take k) : Nat) ∧ s.n = 0 ∧ s.sl 0 = .p false [.d (.sl t 3 (l.map encIt))] ∧ s.sl 1 = .p false [.d (.sc (.int .i64 r))] ∧ s.sl 5 = .p false [.d (.sc (.int .i64 k))]) l.length ?_ ?_
    · exact ⟨0, _, Nat.zero_le _, rfl, by omega, by simp [sumBy], rfl, rfl, rfl, rfl⟩
    · rintro s m ⟨k, r, hk, rfl, hr0, hr, hn0, g0, g1, g5⟩
      by_cases hlt : k < l.length
      · have hx := List.getElem?_eq_getElem hlt
        generalize l[k] = x at hx
        have hd : decide ((k : Int) < (l.length : Int)) = true := by simpa using hlt
        have hw2 : IntKind.i64.wrap ((k : Int) + 1) = (k + 1 : Nat) := wrapN (k + 1) (by omega)
        have hsu := sumBy_take wtItem l hx
        simp only [go_sem, ↓reduceIte, Nat.reduceAdd, Nat.reduceSub, Nat.reduceMul, Nat.reduceLT, Nat.reduceLeDiff, Nat.reduceEqDiff, Int.reduceLT, Int.reduceLE, Int.reduceEq, Nat.reduceBEq, reduceCtorEq, reduceCtorEq, g0, g1, g5, hn0, List.length_map, hd, List.getElem?_map, hx, Option.map_some, encIt]
        refine astep_call rfl (szItem_m x r (ht x (List.mem_of_getElem? hx)) hr0 (by omega)) rfl rfl (by simp only [go_sem, ↓reduceIte, Nat.reduceAdd, Nat.reduceSub, Nat.reduceMul, Nat.reduceLT, Nat.reduceLeDiff, Nat.reduceEqDiff, Int.reduceLT, Int.reduceLE, Int.reduceEq, Nat.reduceBEq, reduceCtorEq, reduceCtorEq, encIt]) ?_
        by_cases hc2 : r < wtItem x
        · have hs := szF_gt hc2
          have hs2 : szF left (wtItems l) = -1 := szF_gt (by
            have h3 : sumBy wtItem (l.take (k + 1)) ≤ sumBy wtItem l := by
              have : sumBy wtItem l = sumBy wtItem (l.take (k + 1)) + sumBy wtItem (l.drop (k + 1)) := by
                unfold sumBy; rw [← List.sum_append, ← List.map_append, List.take_append_drop]
              omega
            unfold wtItems; omega)
          simp only [go_sem, ↓reduceIte, Nat.reduceAdd, Nat.reduceSub, Nat.reduceMul, Nat.reduceLT, Nat.reduceLeDiff, Nat.reduceEqDiff, Int.reduceLT, Int.reduceLE, Int.reduceEq, Nat.reduceBEq, reduceCtorEq, reduceCtorEq, hs, hs2]
          refine Or.inl ?_; repeat' (first | exact gives_nil | exact trivial | with_reducible apply gives_sc | with_reducible apply gives_nilS (by decide) | with_reducible apply gives_own | with_reducible apply Exists.intro | with_reducible apply And.intro | (show (_ : Option Ob) = _; simp only [go_sem, ↓reduceIte, Nat.reduceAdd, Nat.reduceSub, Nat.reduceMul, Nat.reduceLT, Nat.reduceLeDiff, Nat.reduceEqDiff, Int.reduceLT, Int.reduceLE, Int.reduceEq, Nat.reduceBEq, reduceCtorEq, reduceCtorEq, true_and]))
        · have hs := szF_le (left := r) (wt := wtItem x) (by omega)
          have hd2 : decide (r - (wtItem x : Int) < 0) = false := decide_eq_false (by omega)
          simp only [go_sem, ↓reduceIte, Nat.reduceAdd, Nat.reduceSub, Nat.reduceMul, Nat.reduceLT, Nat.reduceLeDiff, Nat.reduceEqDiff, Int.reduceLT, Int.reduceLE, Int.reduceEq, Nat.reduceBEq, reduceCtorEq, reduceCtorEq, hs, hd2, g5, hw2, hn0]
          exact ⟨0, l.length - (k + 1), by omega, by omega, k + 1, r - wtItem x, by omega, rfl, by omega, by omega, rfl, g0, rfl, rfl⟩
      · have hd : decide ((k : Int) < (l.length : Int)) = false := by simpa using hlt
        have hs : szF left (wtItems l) = r := by
          rw [sumBy_all _ _ (by omega)] at hr
          rw [szF_le (by unfold wtItems; omega)]
          unfold wtItems; omega
        simp only [go_sem, ↓reduceIte, Nat.reduceAdd, Nat.reduceSub, Nat.reduceMul, Nat.reduceLT, Nat.reduceLeDiff, Nat.reduceEqDiff, Int.reduceLT, Int.reduceLE, Int.reduceEq, Nat.reduceBEq, reduceCtorEq, reduceCtorEq, g0, g1, g5, hn0, List.length_map, hd, hs]
        refine Or.inl ?_; repeat' (first | exact gives_nil | exact trivial | with_reducible apply gives_sc | with_reducible apply gives_nilS (by decide) | with_reducible apply gives_own | with_reducible apply Exists.intro | with_reducible apply And.intro | (show (_ : Option Ob) = _; simp only [go_sem, ↓reduceIte, Nat.reduceAdd, Nat.reduceSub, Nat.reduceMul, Nat.reduceLT, Nat.reduceLeDiff, Nat.reduceEqDiff, Int.reduceLT, Int.reduceLE, Int.reduceEq, Nat.reduceBEq, reduceCtorEq, reduceCtorEq, true_and]))
theorem toItem_m (x : It) : Meets Try.prog 77 [(true, encIt x)] [(true, encIt x, true)] := by
  refine meets_of Try.func77 rfl (by kernel_rfl) (by simp) Try.ntmps77 (congrArg Array.toList Try.results77) ?_
  simp only [go_sem, ↓reduceIte, Nat.reduceAdd, Nat.reduceSub, Nat.reduceMul, Nat.reduceLT, Nat.reduceLeDiff, Nat.reduceEqDiff, Int.reduceLT, Int.reduceLE, Int.reduceEq, Nat.reduceBEq, reduceCtorEq, reduceCtorEq, encIt]
  refine Or.inl ?_; repeat' (first | exact gives_nil | exact trivial | with_reducible apply gives_sc | with_reducible apply gives_nilS (by decide) | with_reducible apply gives_own | with_reducible apply Exists.intro | with_reducible apply And.intro | (show (_ : Option Ob) = _; simp only [go_sem, ↓reduceIte, Nat.reduceAdd, Nat.reduceSub, Nat.reduceMul, Nat.reduceLT, Nat.reduceLeDiff, Nat.reduceEqDiff, Int.reduceLT, Int.reduceLE, Int.reduceEq, Nat.reduceBEq, reduceCtorEq, reduceCtorEq, true_and]))
def it0c : List DV := [.sc (.int .i64 0), .sc (.int .i64 0), .sc (.string ByteArray.empty)]
theorem toItemS_m (t : Nat) (l : List It) (hn : l.length ≤ 1048576) : Meets Try.prog 64 [(false, [.sl t 3 (l.map encIt)])] [(false, [encIts l], true)] := by
  refine meets_of Try.func64 rfl (by kernel_rfl) (by simp) Try.ntmps64 (congrArg Array.toList Try.results64) ?_
  simp only [go_sem, ↓reduceIte, Nat.reduceAdd, Nat.reduceSub, Nat.reduceMul, Nat.reduceLT, Nat.reduceLeDiff, Nat.reduceEqDiff, Int.reduceLT, Int.reduceLE, Int.reduceEq, Nat.reduceBEq, reduceCtorEq, reduceCtorEq, List.length_map]
  refine astep_make (n := l.length) (zs := [.int .i64 0, .int .i64 0, .string ByteArray.empty]) (ds := it0c) rfl rfl rfl tel_38 (by decide) tzero_75 rfl rfl tby_75 (by omega) (by omega) rfl ?_
  simp only [go_sem, ↓reduceIte, Nat.reduceAdd, Nat.reduceSub, Nat.reduceMul, Nat.reduceLT, Nat.reduceLeDiff, Nat.reduceEqDiff, Int.reduceLT, Int.reduceLE, Int.reduceEq, Nat.reduceBEq, reduceCtorEq, reduceCtorEq, true_and]
  refine awp_loop (fun s m => ∃ k : Nat, k ≤ l.length ∧ m = l.length - k ∧ s.n = 1 ∧ s.sl 0 = .p false [.d (.sl t 3 (l.map encIt))] ∧ s.sl 4 = .p false [.d (.sc (.int .i64 k))] ∧ s.sl 3 = .p false [.own 0 0] ∧ s.ob 0 = .row 0 75 3 (fillL (l.map encIt) k it0c) true) l.length ?_ ?_
  · exact ⟨0, Nat.zero_le _, rfl, rfl, rfl, rfl, rfl, by rw [fillL_zero, List.length_map]; rfl⟩
  · rintro s m ⟨k, hk, rfl, hn0, g0, g4, g3, o0⟩
    by_cases hlt : k < l.length
    · have hx := List.getElem?_eq_getElem hlt
      generalize l[k] = x at hx
      have hd : decide ((k : Int) < (l.length : Int)) = true := by simpa using hlt
      have hw2 : IntKind.i64.wrap ((k : Int) + 1) = (k + 1 : Nat) := wrapN (k + 1) (by omega)
      have hst := fillL_set (z := it0c) (show (l.map encIt)[k]? = some (encIt x) from by rw [List.getElem?_map, hx]; rfl)
      have hlen : (fillL (l.map encIt) k it0c).length = l.length := by rw [fillL_len (by simpa using hk), List.length_map]
      have hget : (fillL (l.map encIt) k it0c)[k]? = some it0c := fillL_get (by simpa using hlt)
      simp only [go_sem, ↓reduceIte, Nat.reduceAdd, Nat.reduceSub, Nat.reduceMul, Nat.reduceLT, Nat.reduceLeDiff, Nat.reduceEqDiff, Int.reduceLT, Int.reduceLE, Int.reduceEq, Nat.reduceBEq, reduceCtorEq, reduceCtorEq, g0, g4, g3, hn0, List.length_map, hd, List.getElem?_map, hx, Option.map_some, encIt]
      refine astep_call rfl (toItem_m x) rfl rfl (by simp only [go_sem, ↓reduceIte, Nat.reduceAdd, Nat.reduceSub, Nat.reduceMul, Nat.reduceLT, Nat.reduceLeDiff, Nat.reduceEqDiff, Int.reduceLT, Int.reduceLE, Int.reduceEq, Nat.reduceBEq, reduceCtorEq, reduceCtorEq, encIt]) ?_
      simp only [go_sem, ↓reduceIte, Nat.reduceAdd, Nat.reduceSub, Nat.reduceMul, Nat.reduceLT, Nat.reduceLeDiff, Nat.reduceEqDiff, Int.reduceLT, Int.reduceLE, Int.reduceEq, Nat.reduceBEq, reduceCtorEq, reduceCtorEq, encIt, o0, g4, hlen, hlt]
      refine astep_row (i := 0) (st := 0) (k := 3) (j := k) (off := 0) (es := fillL (l.map encIt) k it0c) (e := it0c) (ds := encIt x) (t' := 75) (xs := (encIt x).map .d) rfl rfl rfl (by simp only [go_sem, ↓reduceIte, Nat.reduceAdd, Nat.reduceSub, Nat.reduceMul, Nat.reduceLT, Nat.reduceLeDiff, Nat.reduceEqDiff, Int.reduceLT, Int.reduceLE, Int.reduceEq, Nat.reduceBEq, reduceCtorEq, reduceCtorEq, o0]) hget (by simp only [go_sem, ↓reduceIte, Nat.reduceAdd, Nat.reduceSub, Nat.reduceMul, Nat.reduceLT, Nat.reduceLeDiff, Nat.reduceEqDiff, Int.reduceLT, Int.reduceLE, Int.reduceEq, Nat.reduceBEq, reduceCtorEq, reduceCtorEq, encIt]) tsz_75 (Nat.le_refl _) (Gives.ofFlat rfl (encIt_flat x)) (by simp only [go_sem, ↓reduceIte, Nat.reduceAdd, Nat.reduceSub, Nat.reduceMul, Nat.reduceLT, Nat.reduceLeDiff, Nat.reduceEqDiff, Int.reduceLT, Int.reduceLE, Int.reduceEq, Nat.reduceBEq, reduceCtorEq, reduceCtorEq, o0]) ?_
      rw [show plug 0 (encIt x) it0c = encIt x from rfl, hst]
      simp only [go_sem, ↓reduceIte, Nat.reduceAdd, Nat.reduceSub, Nat.reduceMul, Nat.reduceLT, Nat.reduceLeDiff, Nat.reduceEqDiff, Int.reduceLT, Int.reduceLE, Int.reduceEq, Nat.reduceBEq, reduceCtorEq, reduceCtorEq, g4, hw2]
      exact ⟨1, l.length - (k + 1), by omega, by omega, k + 1, by omega, rfl, rfl, g0, rfl, g3, rfl⟩
    · have hd : decide ((k : Int) < (l.length : Int)) = false := by simpa using hlt
      obtain rfl : k = l.length := by omega
      rw [show fillL (l.map encIt) l.length it0c = l.map encIt from by have := fillL_end (l.map encIt) it0c; rwa [List.length_map] at this] at o0
      simp only [go_sem, ↓reduceIte, Nat.reduceAdd, Nat.reduceSub, Nat.reduceMul, Nat.reduceLT, Nat.reduceLeDiff, Nat.reduceEqDiff, Int.reduceLT, Int.reduceLE, Int.reduceEq, Nat.reduceBEq, reduceCtorEq, reduceCtorEq, g0, g4, g3, hn0, List.length_map, hd, encIts]
      refine Or.inl ?_; repeat' (first | exact gives_nil | exact trivial | with_reducible apply gives_sc | with_reducible apply gives_nilS (by decide) | with_reducible apply gives_own | with_reducible apply Exists.intro | with_reducible apply And.intro | (show (_ : Option Ob) = _; simp only [go_sem, ↓reduceIte, Nat.reduceAdd, Nat.reduceSub, Nat.reduceMul, Nat.reduceLT, Nat.reduceLeDiff, Nat.reduceEqDiff, Int.reduceLT, Int.reduceLE, Int.reduceEq, Nat.reduceBEq, reduceCtorEq, reduceCtorEq, o0]))
theorem eqItem_m (x : It) : Meets Try.prog 81 [(true, encIt x), (true, encIt x)] [(false, [.sc (.bool true)], true)] := by
  refine meets_of Try.func81 rfl (by kernel_rfl) (by simp) Try.ntmps81 (congrArg Array.toList Try.results81) ?_
  simp only [go_sem, ↓reduceIte, Nat.reduceAdd, Nat.reduceSub, Nat.reduceMul, Nat.reduceLT, Nat.reduceLeDiff, Nat.reduceEqDiff, Int.reduceLT, Int.reduceLE, Int.reduceEq, Nat.reduceBEq, reduceCtorEq, reduceCtorEq, encIt]
  refine Or.inl ?_; repeat' (first | exact gives_nil | exact trivial | with_reducible apply gives_sc | with_reducible apply gives_nilS (by decide) | with_reducible apply gives_own | with_reducible apply Exists.intro | with_reducible apply And.intro | (show (_ : Option Ob) = _; simp only [go_sem, ↓reduceIte, Nat.reduceAdd, Nat.reduceSub, Nat.reduceMul, Nat.reduceLT, Nat.reduceLeDiff, Nat.reduceEqDiff, Int.reduceLT, Int.reduceLE, Int.reduceEq, Nat.reduceBEq, reduceCtorEq, reduceCtorEq, true_and]))
theorem eqItemS_m (l : List It) (hn : l.length ≤ 4611686018427387903) : Meets Try.prog 71 [(false, [encIts l]), (false, [encIts l])] [(false, [.sc (.bool true)], true)] := by
  refine meets_of Try.func71 rfl (by kernel_rfl) (by simp) Try.ntmps71 (congrArg Array.toList Try.results71) ?_
  simp only [go_sem, ↓reduceIte, Nat.reduceAdd, Nat.reduceSub, Nat.reduceMul, Nat.reduceLT, Nat.reduceLeDiff, Nat.reduceEqDiff, Int.reduceLT, Int.reduceLE, Int.reduceEq, Nat.reduceBEq, reduceCtorEq, reduceCtorEq, encIts, List.length_map]
  refine awp_loop (fun s m => ∃ k : Nat, k ≤ l.length ∧ m = l.length - k ∧ s.n = 0 ∧ s.sl 0 = .p false [.d (encIts l)] ∧ s.sl 1 = .p false [.d (encIts l)] ∧ s.sl 5 = .p false [.d (.sc (.int .i64 k))]) l.length ?_ ?_
  · exact ⟨0, Nat.zero_le _, rfl, rfl, rfl, rfl, rfl⟩
  · rintro s m ⟨k, hk, rfl, hn0, g0, g1, g5⟩
    by_cases hlt : k < l.length
    · have hx := List.getElem?_eq_getElem hlt
      generalize l[k] = x at hx
      have hd : decide ((k : Int) < (l.length : Int)) = true := by simpa using hlt
      have hw2 : IntKind.i64.wrap ((k : Int) + 1) = (k + 1 : Nat) := wrapN (k + 1) (by omega)
      simp only [go_sem, ↓reduceIte, Nat.reduceAdd, Nat.reduceSub, Nat.reduceMul, Nat.reduceLT, Nat.reduceLeDiff, Nat.reduceEqDiff, Int.reduceLT, Int.reduceLE, Int.reduceEq, Nat.reduceBEq, reduceCtorEq, reduceCtorEq, g0, g1, g5, hn0, encIts, List.length_map, hd]
      refine awp_drawn (n := 10) true (by kernel_rfl) (by kernel_rfl) ?_
      simp only [go_sem, ↓reduceIte, Nat.reduceAdd, Nat.reduceSub, Nat.reduceMul, Nat.reduceLT, Nat.reduceLeDiff, Nat.reduceEqDiff, Int.reduceLT, Int.reduceLE, Int.reduceEq, Nat.reduceBEq, reduceCtorEq, reduceCtorEq, g0, g1, g5, hn0, encIts, List.getElem?_map, hx, Option.map_some, encIt]
      refine hcall rfl (eqItem_m x) rfl (by simp only [go_sem, ↓reduceIte, Nat.reduceAdd, Nat.reduceSub, Nat.reduceMul, Nat.reduceLT, Nat.reduceLeDiff, Nat.reduceEqDiff, Int.reduceLT, Int.reduceLE, Int.reduceEq, Nat.reduceBEq, reduceCtorEq, reduceCtorEq, encIt]) (fun _ => rfl) ?_
      simp only [go_sem, ↓reduceIte, Nat.reduceAdd, Nat.reduceSub, Nat.reduceMul, Nat.reduceLT, Nat.reduceLeDiff, Nat.reduceEqDiff, Int.reduceLT, Int.reduceLE, Int.reduceEq, Nat.reduceBEq, reduceCtorEq, reduceCtorEq, g5, hw2, hn0]
      exact ⟨0, l.length - (k + 1), by omega, by omega, k + 1, by omega, rfl, rfl, g0, g1, rfl⟩
    · have hd : decide ((k : Int) < (l.length : Int)) = false := by simpa using hlt
      simp only [go_sem, ↓reduceIte, Nat.reduceAdd, Nat.reduceSub, Nat.reduceMul, Nat.reduceLT, Nat.reduceLeDiff, Nat.reduceEqDiff, Int.reduceLT, Int.reduceLE, Int.reduceEq, Nat.reduceBEq, reduceCtorEq, reduceCtorEq, g0, g1, g5, hn0, encIts, List.length_map, hd]
      refine Or.inl ?_; repeat' (first | exact gives_nil | exact trivial | with_reducible apply gives_sc | with_reducible apply gives_nilS (by decide) | with_reducible apply gives_own | with_reducible apply Exists.intro | with_reducible apply And.intro | (show (_ : Option Ob) = _; simp only [go_sem, ↓reduceIte, Nat.reduceAdd, Nat.reduceSub, Nat.reduceMul, Nat.reduceLT, Nat.reduceLeDiff, Nat.reduceEqDiff, Int.reduceLT, Int.reduceLE, Int.reduceEq, Nat.reduceBEq, reduceCtorEq, reduceCtorEq, true_and]))
end Go.Proofs.Ytkhibgknpcgneaa

namespace Go.Proofs.Ytkhibgknpcgneaa
open List (length_take length_drop length_append map_cons map_nil length_map length_cons length_nil length_set length_replicate)
open Go.RowKit Go.ChangeShapes Go.WideShapes Go.Deep
set_option maxRecDepth 100000
instance : Inhabited Vec := ⟨fV 0 []⟩
abbrev encVL : Vec → List DV := encVt 108 64
def OkIt (x : It) : Prop := In64 x.num ∧ In64 x.den ∧ x.text.size ≤ 9223372036854775807
inductive OkVec : Vec → Prop where
  | mk (k : Int) (its : List It) (ps : List Vec) (ns cl lv : List ByteArray) (c e : Int) (h1 : its.length ≤ 9223372036854775807) (h2 : ∀ x ∈ its, OkIt x) (h3 : ps.length ≤ 9223372036854775807) (h4 : ∀ p ∈ ps, OkVec p)
    (h5 : OkSs ns) (h6 : OkSs cl) (h7 : OkSs lv) : OkVec (.mk k its ps ns cl lv c e)
theorem encVt_len (ti tv : Nat) (v : Vec) : (encVt ti tv v).length = 8 := by cases v; rw [encV_mk]; rfl
theorem opD_It : OpD encIt OkIt Try.prog 108 := by
  intro H enc w base spare held fuel cs x h
  obtain ⟨hl, n, hf⟩ := open_flds Try.underlying108 h
  obtain ⟨y0, t0⟩ := hf 0 _ rfl
  obtain ⟨a0, r0, i0⟩ := opD_int Try.underlying3 H enc w base spare held n _ _ t0
  obtain ⟨y1, t1⟩ := hf 1 _ rfl
  obtain ⟨a1, r1, i1⟩ := opD_int Try.underlying3 H enc w base spare held n _ _ t1
  obtain ⟨y2, t2⟩ := hf 2 _ rfl
  obtain ⟨a2, r2, i2⟩ := opD_str Try.underlying9 H enc w base spare held n _ _ t2
  exact ⟨⟨a0, a1, a2⟩, repl_cut (o := 0) (k := 1) (repl_at r0 rfl (by kernel_rfl)) (repl_cut (o := 1) (k := 1) (repl_at r1 rfl (by kernel_rfl)) (repl_cut (o := 2) (k := 1) (repl_at r2 rfl (by kernel_rfl)) (repl_end hl (by kernel_rfl)))), i0, i1, i2⟩
theorem opD_Its : OpD (fun l : List It => [.sl 108 3 (l.map encIt)]) (fun l => l.length ≤ 9223372036854775807 ∧ ∀ x ∈ l, OkIt x) Try.prog 61 := opD_slice (e := encIt) (k := 3) 108 Try.underlying61 (by kernel_rfl) (by decide) (fun _ => rfl) opD_It
theorem opDb_Vec : ∀ F, OpDb F encVL OkVec Try.prog 64
  | 0 => fun H enc w base spare held fuel cs x hF => absurd hF (Nat.not_lt_zero _)
  | F + 1 => by
    have ih := opDb_Vec F
    intro H enc w base spare held fuel cs x hF h
    obtain ⟨hl, n, hn, hf⟩ := open_fldsF Try.underlying64 h
    obtain ⟨y0, t0⟩ := hf 0 _ rfl
    obtain ⟨a0, r0, i0⟩ := opD_int Try.underlying3 H enc w base spare held n _ _ t0
    obtain ⟨y1, t1⟩ := hf 1 _ rfl
    obtain ⟨a1, r1, i1⟩ := opD_Its H enc w base spare held n _ _ t1
    obtain ⟨y2, t2⟩ := hf 2 _ rfl
    obtain ⟨a2, r2, i2⟩ := opDb_slice (e := encVL) (k := 8) 64 Try.underlying62 (by kernel_rfl) (by decide) (encVt_len _ _) ih H enc w base spare held n _ _ (by omega) t2
    obtain ⟨y3, t3⟩ := hf 3 _ rfl
    obtain ⟨a3, r3, i3⟩ := opD_Ss H enc w base spare held n _ _ t3
    obtain ⟨y4, t4⟩ := hf 4 _ rfl
    obtain ⟨a4, r4, i4⟩ := opD_Ss H enc w base spare held n _ _ t4
    obtain ⟨y5, t5⟩ := hf 5 _ rfl
    obtain ⟨a5, r5, i5⟩ := opD_Ss H enc w base spare held n _ _ t5
    obtain ⟨y6, t6⟩ := hf 6 _ rfl
    obtain ⟨a6, r6, i6⟩ := opD_int Try.underlying3 H enc w base spare held n _ _ t6
    obtain ⟨y7, t7⟩ := hf 7 _ rfl
    obtain ⟨a7, r7, i7⟩ := opD_int Try.underlying3 H enc w base spare held n _ _ t7
    refine ⟨.mk a0 a1 a2 a3 a4 a5 a6 a7, ?_, .mk a0 a1 a2 a3 a4 a5 a6 a7 i1.1 i1.2 i2.1 i2.2 i3 i4 i5⟩
    have := repl_cut (o := 0) (k := 1) (repl_at r0 rfl (by kernel_rfl)) (repl_cut (o := 1) (k := 1) (repl_at r1 rfl (by kernel_rfl)) (repl_cut (o := 2) (k := 1) (repl_at r2 rfl (by kernel_rfl)) (repl_cut (o := 3) (k := 1) (repl_at r3 rfl (by kernel_rfl)) (repl_cut (o := 4) (k := 1) (repl_at r4 rfl (by kernel_rfl)) (repl_cut (o := 5) (k := 1) (repl_at r5 rfl (by kernel_rfl)) (repl_cut (o := 6) (k := 1) (repl_at r6 rfl (by kernel_rfl)) (repl_cut (o := 7) (k := 1) (repl_at r7 rfl (by kernel_rfl)) (repl_end hl (by kernel_rfl)))))))))
    show RepL _ _ _ (encVt _ _ _)
    rw [encV_mk]
    exact this
theorem opD_Vec : OpD encVL OkVec Try.prog 64 := fun H enc w base spare held fuel cs x h => opDb_Vec (fuel + 1) H enc w base spare held fuel cs x (Nat.lt_succ_self _) h
def wtV : Vec → Nat
  | .mk k its ps ns cl lv c e => wtItems its + (ps.length + (ps.map fun p => wtV p).sum) + wtSs ns + wtSs cl + wtSs lv
theorem wtV_mk (k : Int) (its : List It) (ps : List Vec) (ns cl lv : List ByteArray) (c e : Int) : wtV (.mk k its ps ns cl lv c e) = wtItems its + (ps.length + sumBy wtV ps) + wtSs ns + wtSs cl + wtSs lv := by rw [wtV]; rfl
theorem sumBy_succ {α : Type} [Inhabited α] (f : α → Nat) {l : List α} {i : Nat} (h : i < l.length) : sumBy f (l.take (i + 1)) = sumBy f (l.take i) + f (l.getD i default) := by
  rw [take_succD h]; unfold sumBy; simp
theorem sumBy_le {α : Type} (f : α → Nat) (l : List α) (i : Nat) : sumBy f (l.take i) ≤ sumBy f l := by
  have : sumBy f l = sumBy f (l.take i) + sumBy f (l.drop i) := by unfold sumBy; rw [← List.sum_append, ← List.map_append, List.take_append_drop]
  omega
theorem sumBy_mem {α : Type} (f : α → Nat) {l : List α} {x : α} (h : x ∈ l) : f x ≤ sumBy f l := by
  unfold sumBy
  induction l with
  | nil => cases h
  | cons y l ih =>
    rw [List.map_cons, List.sum_cons]
    rcases List.mem_cons.1 h with rfl | h
    · omega
    · have := ih h; omega
theorem ix_V {ti tv t : Nat} {l : List Vec} {kd : IntKind} {z : Int} (h : 0 ≤ z) (h1 : z < l.length) : eIdx 8 (some (.sl t 8 (l.map (encVt ti tv)))) (some (.sc (.int kd z))) = some (encVt ti tv (l.getD z.toNat default)) := e_idx_map (encVt_len ti tv) h h1
def SzV (v : Vec) : Prop := ∀ left : Int, OkVec v → 0 ≤ left → left ≤ 1048576 → Meets Try.prog 41 [(true, encVL v), (false, [.sc (.int .i64 left)])] [(false, [.sc (.int .i64 (szF left (wtV v)))], true)]
theorem szVecs_m (l : List Vec) (hall : ∀ p ∈ l, SzV p) (left : Int) (k1 : l.length ≤ 9223372036854775807) (k2 : ∀ p ∈ l, OkVec p) (h0 : 0 ≤ left) (h1 : left ≤ 1048576) :
    Meets Try.prog 58 [(false, [.sl 64 8 (l.map encVL)]), (false, [.sc (.int .i64 left)])] [(false, [.sc (.int .i64 (szF left (l.length + sumBy wtV l)))], true)] := by
  refine meets_upf Try.func58 u_laws_szVectorS_g rfl ?_; simp only [u_laws_szVectorS_u]
  simp (disch := first | omega | (simp only [length_take, length_drop, length_append, map_cons, map_nil, length_map, length_cons, length_nil, length_set, length_replicate]; omega) | (simp only [length_cons, length_nil, Nat.zero_add, Nat.reduceAdd])) only [go_sem, ↓reduceIte, Nat.reduceAdd, Int.reduceNeg, Int.reduceAdd, Int.reduceSub, Int.reduceMul, Int.reduceLT, Int.reduceLE, Int.reduceEq, Int.reduceToNat, Nat.reduceBEq, nat1, true_and]
  refine br_if (fun hbr => ?_) (fun hbr => ?_)
  · simp (disch := first | omega | (simp only [length_take, length_drop, length_append, map_cons, map_nil, length_map, length_cons, length_nil, length_set, length_replicate]; omega) | (simp only [length_cons, length_nil, Nat.zero_add, Nat.reduceAdd])) only [go_sem, ↓reduceIte, Nat.reduceAdd, Int.reduceNeg, Int.reduceAdd, Int.reduceSub, Int.reduceMul, Int.reduceLT, Int.reduceLE, Int.reduceEq, Int.reduceToNat, Nat.reduceBEq, nat1, true_and]
    exact ret_z (szF_gt (by omega))
  simp (disch := first | omega | (simp only [length_take, length_drop, length_append, map_cons, map_nil, length_map, length_cons, length_nil, length_set, length_replicate]; omega) | (simp only [length_cons, length_nil, Nat.zero_add, Nat.reduceAdd])) only [go_sem, ↓reduceIte, Nat.reduceAdd, Int.reduceNeg, Int.reduceAdd, Int.reduceSub, Int.reduceMul, Int.reduceLT, Int.reduceLE, Int.reduceEq, Int.reduceToNat, Nat.reduceBEq, nat1, true_and]
  refine lp (fun i : Nat => [.sc (.int .i64 i), .sc (.int .i64 (left - (l.length : Int) - (sumBy wtV (l.take i) : Nat)))]) (fun i => i ≤ l.length ∧ (sumBy wtV (l.take i) : Nat) ≤ left - (l.length : Int)) (fun i => l.length - i) 0 (by simp [gL, sumBy]) ⟨by omega, by simp [sumBy]; omega⟩ ?_
  rintro i ⟨hi, hs⟩
  simp only [u_laws_szVectorS_l0]
  by_cases hlt : i < l.length
  · have h3 := sumBy_succ wtV hlt
    have h5 := sumBy_le wtV l (i + 1)
    have hm := getD_mem hlt
    have hix : eIdx 8 (some (.sl 64 8 (l.map encVL))) (some (.sc (.int .i64 (i : Int)))) = some (encVL (l.getD i default)) := by rw [ix_V (by omega) (by omega), Int.toNat_natCast]
    generalize l.getD i default = x at h3 hm hix
    have hc := hall x hm (left - (l.length : Int) - (sumBy wtV (l.take i) : Nat)) (k2 x hm) (by omega) (by omega)
    generalize wtV x = wx at *
    obtain ⟨x0, x1, x2, x3, x4, x5, x6, x7⟩ := x
    simp only [encVL, encV_mk, encSs] at hc hix
    by_cases hw : (wx : Int) ≤ left - (l.length : Int) - (sumBy wtV (l.take i) : Nat)
    · have hs1 := szF_le hw
      rw [hs1] at hc
      repeat' (first | (with_reducible first | refine jn_in ?_ | refine cl_ok (by assumption) rfl ?_ | refine cl_okP (by assumption) rfl ?_ | refine br_if (fun hbr => ?_) fun hbr => ?_ | refine br_ifn (fun hbr => ?_) fun hbr => ?_ | refine br_nb (fun hbr => ?_) fun hbr => ?_ | refine br_b (fun hbr => ?_) fun hbr => ?_) | simp (disch := first | omega | (simp only [length_take, length_drop, length_append, map_cons, map_nil, length_map, length_cons, length_nil, length_set, length_replicate]; omega) | (simp only [length_cons, length_nil, Nat.zero_add, Nat.reduceAdd])) only [go_sem, ↓reduceIte, Nat.reduceAdd, Int.reduceNeg, Int.reduceAdd, Int.reduceSub, Int.reduceMul, Int.reduceLT, Int.reduceLE, Int.reduceEq, Int.reduceToNat, Nat.reduceBEq, nat1, hix])
      all_goals first | omega | exact ret_z (szF_gt (by omega)) | exact ⟨i + 1, by congr 4; omega, ⟨by omega, by omega⟩, by omega⟩
    · have hs1 := szF_gt (left := left - (l.length : Int) - (sumBy wtV (l.take i) : Nat)) (wt := wx) (by omega)
      rw [hs1] at hc
      repeat' (first | (with_reducible first | refine jn_in ?_ | refine cl_ok (by assumption) rfl ?_ | refine cl_okP (by assumption) rfl ?_ | refine br_if (fun hbr => ?_) fun hbr => ?_ | refine br_ifn (fun hbr => ?_) fun hbr => ?_ | refine br_nb (fun hbr => ?_) fun hbr => ?_ | refine br_b (fun hbr => ?_) fun hbr => ?_) | simp (disch := first | omega | (simp only [length_take, length_drop, length_append, map_cons, map_nil, length_map, length_cons, length_nil, length_set, length_replicate]; omega) | (simp only [length_cons, length_nil, Nat.zero_add, Nat.reduceAdd])) only [go_sem, ↓reduceIte, Nat.reduceAdd, Int.reduceNeg, Int.reduceAdd, Int.reduceSub, Int.reduceMul, Int.reduceLT, Int.reduceLE, Int.reduceEq, Int.reduceToNat, Nat.reduceBEq, nat1, hix])
      all_goals first | omega | exact ret_z (szF_gt (by omega))
  · obtain rfl : i = l.length := by omega
    rw [List.take_length] at hs ⊢
    repeat' (first | (with_reducible first | refine jn_in ?_ | refine cl_ok (by assumption) rfl ?_ | refine cl_okP (by assumption) rfl ?_ | refine br_if (fun hbr => ?_) fun hbr => ?_ | refine br_ifn (fun hbr => ?_) fun hbr => ?_ | refine br_nb (fun hbr => ?_) fun hbr => ?_ | refine br_b (fun hbr => ?_) fun hbr => ?_) | simp (disch := first | omega | (simp only [length_take, length_drop, length_append, map_cons, map_nil, length_map, length_cons, length_nil, length_set, length_replicate]; omega) | (simp only [length_cons, length_nil, Nat.zero_add, Nat.reduceAdd])) only [go_sem, ↓reduceIte, Nat.reduceAdd, Int.reduceNeg, Int.reduceAdd, Int.reduceSub, Int.reduceMul, Int.reduceLT, Int.reduceLE, Int.reduceEq, Int.reduceToNat, Nat.reduceBEq, nat1, true_and])
    all_goals first | omega | exact ret_z (by rw [szF_le (by omega)]; omega)
theorem szV_m : ∀ v : Vec, SzV v := Vec.ind fun k its ps ns cl lv c e ih left ok h0 h1 => by
  cases ok with
  | mk _ _ _ _ _ _ _ _ o1 o2 o3 o4 o5 o6 o7 =>
  have hit := szItemS_m 108 its left o1 (fun x hx => (o2 x hx).2.2) h0 h1
  rw [wtV_mk]
  simp only [encVL, encV_mk, encSs]
  refine meets_upf Try.func41 u_laws_szVector_g rfl ?_; simp only [u_laws_szVector_u]
  simp (disch := first | omega | (simp only [length_take, length_drop, length_append, map_cons, map_nil, length_map, length_cons, length_nil, length_set, length_replicate]; omega) | (simp only [length_cons, length_nil, Nat.zero_add, Nat.reduceAdd])) only [go_sem, ↓reduceIte, Nat.reduceAdd, Int.reduceNeg, Int.reduceAdd, Int.reduceSub, Int.reduceMul, Int.reduceLT, Int.reduceLE, Int.reduceEq, Int.reduceToNat, Nat.reduceBEq, nat1, true_and]
  refine cl_ok hit rfl ?_
  by_cases hw1 : ((wtItems its : Nat) : Int) ≤ left
  rotate_left
  · have hs := szF_gt (left := left) (wt := wtItems its) (by omega)
    simp (disch := first | omega | (simp only [length_take, length_drop, length_append, map_cons, map_nil, length_map, length_cons, length_nil, length_set, length_replicate]; omega) | (simp only [length_cons, length_nil, Nat.zero_add, Nat.reduceAdd])) only [go_sem, ↓reduceIte, Nat.reduceAdd, Int.reduceNeg, Int.reduceAdd, Int.reduceSub, Int.reduceMul, Int.reduceLT, Int.reduceLE, Int.reduceEq, Int.reduceToNat, Nat.reduceBEq, nat1, hs]
    exact ret_z (szF_gt (by omega))
  have e1 := szF_le hw1
  have d1 : decide (left - ((wtItems its : Nat) : Int) < 0) = false := decide_eq_false (by omega)
  simp (disch := first | omega | (simp only [length_take, length_drop, length_append, map_cons, map_nil, length_map, length_cons, length_nil, length_set, length_replicate]; omega) | (simp only [length_cons, length_nil, Nat.zero_add, Nat.reduceAdd])) only [go_sem, ↓reduceIte, Nat.reduceAdd, Int.reduceNeg, Int.reduceAdd, Int.reduceSub, Int.reduceMul, Int.reduceLT, Int.reduceLE, Int.reduceEq, Int.reduceToNat, Nat.reduceBEq, nat1, e1, d1]
  generalize hL1 : left - ((wtItems its : Nat) : Int) = L1 at *
  refine cl_ok (szVecs_m ps ih L1 o3 o4 (by omega) (by omega)) rfl ?_
  by_cases hw2 : ((ps.length + sumBy wtV ps : Nat) : Int) ≤ L1
  rotate_left
  · have hs := szF_gt (left := L1) (wt := ps.length + sumBy wtV ps) (by omega)
    simp (disch := first | omega | (simp only [length_take, length_drop, length_append, map_cons, map_nil, length_map, length_cons, length_nil, length_set, length_replicate]; omega) | (simp only [length_cons, length_nil, Nat.zero_add, Nat.reduceAdd])) only [go_sem, ↓reduceIte, Nat.reduceAdd, Int.reduceNeg, Int.reduceAdd, Int.reduceSub, Int.reduceMul, Int.reduceLT, Int.reduceLE, Int.reduceEq, Int.reduceToNat, Nat.reduceBEq, nat1, hs]
    exact ret_z (szF_gt (by omega))
  have e2 := szF_le hw2
  have d2 : decide (L1 - ((ps.length + sumBy wtV ps : Nat) : Int) < 0) = false := decide_eq_false (by omega)
  simp (disch := first | omega | (simp only [length_take, length_drop, length_append, map_cons, map_nil, length_map, length_cons, length_nil, length_set, length_replicate]; omega) | (simp only [length_cons, length_nil, Nat.zero_add, Nat.reduceAdd])) only [go_sem, ↓reduceIte, Nat.reduceAdd, Int.reduceNeg, Int.reduceAdd, Int.reduceSub, Int.reduceMul, Int.reduceLT, Int.reduceLE, Int.reduceEq, Int.reduceToNat, Nat.reduceBEq, nat1, e2, d2]
  generalize hL2 : L1 - ((ps.length + sumBy wtV ps : Nat) : Int) = L2 at *
  refine cl_ok (szSs_m ns L2 o5 (by omega) (by omega)) rfl ?_
  by_cases hw3 : ((wtSs ns : Nat) : Int) ≤ L2
  rotate_left
  · have hs := szF_gt (left := L2) (wt := wtSs ns) (by omega)
    simp (disch := first | omega | (simp only [length_take, length_drop, length_append, map_cons, map_nil, length_map, length_cons, length_nil, length_set, length_replicate]; omega) | (simp only [length_cons, length_nil, Nat.zero_add, Nat.reduceAdd])) only [go_sem, ↓reduceIte, Nat.reduceAdd, Int.reduceNeg, Int.reduceAdd, Int.reduceSub, Int.reduceMul, Int.reduceLT, Int.reduceLE, Int.reduceEq, Int.reduceToNat, Nat.reduceBEq, nat1, hs]
    exact ret_z (szF_gt (by omega))
  have e3 := szF_le hw3
  have d3 : decide (L2 - ((wtSs ns : Nat) : Int) < 0) = false := decide_eq_false (by omega)
  simp (disch := first | omega | (simp only [length_take, length_drop, length_append, map_cons, map_nil, length_map, length_cons, length_nil, length_set, length_replicate]; omega) | (simp only [length_cons, length_nil, Nat.zero_add, Nat.reduceAdd])) only [go_sem, ↓reduceIte, Nat.reduceAdd, Int.reduceNeg, Int.reduceAdd, Int.reduceSub, Int.reduceMul, Int.reduceLT, Int.reduceLE, Int.reduceEq, Int.reduceToNat, Nat.reduceBEq, nat1, e3, d3]
  generalize hL3 : L2 - ((wtSs ns : Nat) : Int) = L3 at *
  refine cl_ok (szSs_m cl L3 o6 (by omega) (by omega)) rfl ?_
  by_cases hw4 : ((wtSs cl : Nat) : Int) ≤ L3
  rotate_left
  · have hs := szF_gt (left := L3) (wt := wtSs cl) (by omega)
    simp (disch := first | omega | (simp only [length_take, length_drop, length_append, map_cons, map_nil, length_map, length_cons, length_nil, length_set, length_replicate]; omega) | (simp only [length_cons, length_nil, Nat.zero_add, Nat.reduceAdd])) only [go_sem, ↓reduceIte, Nat.reduceAdd, Int.reduceNeg, Int.reduceAdd, Int.reduceSub, Int.reduceMul, Int.reduceLT, Int.reduceLE, Int.reduceEq, Int.reduceToNat, Nat.reduceBEq, nat1, hs]
    exact ret_z (szF_gt (by omega))
  have e4 := szF_le hw4
  have d4 : decide (L3 - ((wtSs cl : Nat) : Int) < 0) = false := decide_eq_false (by omega)
  simp (disch := first | omega | (simp only [length_take, length_drop, length_append, map_cons, map_nil, length_map, length_cons, length_nil, length_set, length_replicate]; omega) | (simp only [length_cons, length_nil, Nat.zero_add, Nat.reduceAdd])) only [go_sem, ↓reduceIte, Nat.reduceAdd, Int.reduceNeg, Int.reduceAdd, Int.reduceSub, Int.reduceMul, Int.reduceLT, Int.reduceLE, Int.reduceEq, Int.reduceToNat, Nat.reduceBEq, nat1, e4, d4]
  generalize hL4 : L3 - ((wtSs cl : Nat) : Int) = L4 at *
  refine cl_ok (szSs_m lv L4 o7 (by omega) (by omega)) rfl ?_
  by_cases hw5 : ((wtSs lv : Nat) : Int) ≤ L4
  rotate_left
  · have hs := szF_gt (left := L4) (wt := wtSs lv) (by omega)
    simp (disch := first | omega | (simp only [length_take, length_drop, length_append, map_cons, map_nil, length_map, length_cons, length_nil, length_set, length_replicate]; omega) | (simp only [length_cons, length_nil, Nat.zero_add, Nat.reduceAdd])) only [go_sem, ↓reduceIte, Nat.reduceAdd, Int.reduceNeg, Int.reduceAdd, Int.reduceSub, Int.reduceMul, Int.reduceLT, Int.reduceLE, Int.reduceEq, Int.reduceToNat, Nat.reduceBEq, nat1, hs]
    exact ret_z (szF_gt (by omega))
  have e5 := szF_le hw5
  have d5 : decide (L4 - ((wtSs lv : Nat) : Int) < 0) = false := decide_eq_false (by omega)
  simp (disch := first | omega | (simp only [length_take, length_drop, length_append, map_cons, map_nil, length_map, length_cons, length_nil, length_set, length_replicate]; omega) | (simp only [length_cons, length_nil, Nat.zero_add, Nat.reduceAdd])) only [go_sem, ↓reduceIte, Nat.reduceAdd, Int.reduceNeg, Int.reduceAdd, Int.reduceSub, Int.reduceMul, Int.reduceLT, Int.reduceLE, Int.reduceEq, Int.reduceToNat, Nat.reduceBEq, nat1, e5, d5]
  exact ret_z (by rw [szF_le (by omega)]; omega)
theorem e_make144 {el k : Nat} {zz : List DV} {z : Int} (h0 : 0 ≤ z) (h1 : z ≤ 1000000000) : eMake el k 144 zz (some (.sc (.int .i64 z))) = some [.sl el k (List.replicate z.toNat zz)] := by
  have h3 : 144 * z.toNat ≤ 281474976710656 := by omega
  have h4 : z.toNat ≤ 9223372036854775807 := by omega
  simp [eMake, h0, h3, h4]
def z8 : List DV := [.sc (.int .i64 0), .sl 0 1 [], .sl 0 1 [], .sl 0 1 [], .sl 0 1 [], .sl 0 1 [], .sc (.int .i64 0), .sc (.int .i64 0)]
def ToV (v : Vec) : Prop := wtV v ≤ 1048576 → Meets Try.prog 47 [(true, encVL v)] [(true, encV v, true)]
theorem toVecs_m (l : List Vec) (hall : ∀ p ∈ l, ToV p) (h : l.length + sumBy wtV l ≤ 1048576) : Meets Try.prog 65 [(false, [.sl 64 8 (l.map encVL)])] [(false, [.sl 42 8 (l.map encV)], true)] := by
  have hz : ∀ x ∈ l, wtV x ≤ 1048576 := fun x hx => by have := sumBy_mem wtV hx; omega
  refine meets_upf Try.func65 u_laws_toVectorS_g rfl ?_; simp only [u_laws_toVectorS_u]
  have hm1 : eMake 42 8 144 z8 (some (.sc (.int .i64 (l.length : Int)))) = some [.sl 42 8 (fillL (l.map encV) 0 z8)] := by
    rw [e_make144 (by omega) (by omega), ← fill0, Int.toNat_natCast]
  unfold z8 at hm1
  simp (disch := first | omega | (simp only [length_take, length_drop, length_append, map_cons, map_nil, length_map, length_cons, length_nil, length_set, length_replicate]; omega) | (simp only [length_cons, length_nil, Nat.zero_add, Nat.reduceAdd])) only [go_sem, ↓reduceIte, Nat.reduceAdd, Int.reduceNeg, Int.reduceAdd, Int.reduceSub, Int.reduceMul, Int.reduceLT, Int.reduceLE, Int.reduceEq, Int.reduceToNat, Nat.reduceBEq, nat1, hm1]
  refine lp_n l.length (fun i => [.sc (.int .i64 i), .sl 42 8 (fillL (l.map encV) i z8)]) rfl fun i hi => ?_
  simp only [u_laws_toVectorS_l0]
  by_cases hlt : i < l.length
  · have e1 := e_chkF (e := encV) (t := 42) (k := 8) (kd := .i64) (z := z8) hlt
    have hc := hall _ (getD_mem hlt) (hz _ (getD_mem hlt))
    have hix : eIdx 8 (some (.sl 64 8 (l.map encVL))) (some (.sc (.int .i64 (i : Int)))) = some (encVL (l.getD i default)) := by rw [ix_V (by omega) (by omega), Int.toNat_natCast]
    have e2 : ∀ ds, ds = encV (l.getD i default) → eSet 8 0 (some (.sl 42 8 (fillL (l.map encV) i z8))) (some (.sc (.int .i64 (i : Int)))) (some ds) = some [.sl 42 8 (fillL (l.map encV) (i + 1) z8)] := fun ds hd => e_fill (e := encV) hd rfl (encVt_len _ _) hlt
    generalize l.getD i default = x at hc hix e2
    obtain ⟨x0, x1, x2, x3, x4, x5, x6, x7⟩ := x
    have e3 := e2 _ (encV_mk _ _ _ _ _ _ _ _ _ _).symm
    simp only [encVL, encV, encV_mk, encSs] at hc hix e3 e1
    repeat' (first | (with_reducible first | refine jn_in ?_ | refine cl_ok (by assumption) rfl ?_ | refine cl_okP (by assumption) rfl ?_ | refine br_if (fun hbr => ?_) fun hbr => ?_ | refine br_ifn (fun hbr => ?_) fun hbr => ?_ | refine br_nb (fun hbr => ?_) fun hbr => ?_ | refine br_b (fun hbr => ?_) fun hbr => ?_) | simp (disch := first | omega | (simp only [length_take, length_drop, length_append, map_cons, map_nil, length_map, length_cons, length_nil, length_set, length_replicate]; omega) | (simp only [length_cons, length_nil, Nat.zero_add, Nat.reduceAdd])) only [go_sem, ↓reduceIte, Nat.reduceAdd, Int.reduceNeg, Int.reduceAdd, Int.reduceSub, Int.reduceMul, Int.reduceLT, Int.reduceLE, Int.reduceEq, Int.reduceToNat, Nat.reduceBEq, nat1, e1, e3, hix])
    all_goals first | omega | exact ⟨rfl, by omega⟩
  · obtain rfl : i = l.length := by omega
    repeat' (first | (with_reducible first | refine jn_in ?_ | refine cl_ok (by assumption) rfl ?_ | refine cl_okP (by assumption) rfl ?_ | refine br_if (fun hbr => ?_) fun hbr => ?_ | refine br_ifn (fun hbr => ?_) fun hbr => ?_ | refine br_nb (fun hbr => ?_) fun hbr => ?_ | refine br_b (fun hbr => ?_) fun hbr => ?_) | simp (disch := first | omega | (simp only [length_take, length_drop, length_append, map_cons, map_nil, length_map, length_cons, length_nil, length_set, length_replicate]; omega) | (simp only [length_cons, length_nil, Nat.zero_add, Nat.reduceAdd])) only [go_sem, ↓reduceIte, Nat.reduceAdd, Int.reduceNeg, Int.reduceAdd, Int.reduceSub, Int.reduceMul, Int.reduceLT, Int.reduceLE, Int.reduceEq, Int.reduceToNat, Nat.reduceBEq, nat1, fillL_endm])
    all_goals first | omega | rfl
theorem toV_m : ∀ v : Vec, ToV v := Vec.ind fun k its ps ns cl lv c e ih h => by
  rw [wtV_mk] at h
  have h1 := toItemS_m 108 its (by unfold wtItems at h; omega)
  have h2 := toVecs_m ps ih (by omega)
  have h3 := toSs_m ns (wtSs_len (n := 1048576) (by omega))
  have h4 := toSs_m cl (wtSs_len (n := 1048576) (by omega))
  have h5 := toSs_m lv (wtSs_len (n := 1048576) (by omega))
  simp only [encVL, encV, encV_mk, encSs, encIts] at h1 h2 h3 h4 h5 ⊢
  refine meets_upf Try.func47 u_laws_toVector_g rfl ?_; simp only [u_laws_toVector_u]
  repeat' (first | (with_reducible first | refine jn_in ?_ | refine cl_ok (by assumption) rfl ?_ | refine cl_okP (by assumption) rfl ?_ | refine br_if (fun hbr => ?_) fun hbr => ?_ | refine br_ifn (fun hbr => ?_) fun hbr => ?_ | refine br_nb (fun hbr => ?_) fun hbr => ?_ | refine br_b (fun hbr => ?_) fun hbr => ?_) | simp (disch := first | omega | (simp only [length_take, length_drop, length_append, map_cons, map_nil, length_map, length_cons, length_nil, length_set, length_replicate]; omega) | (simp only [length_cons, length_nil, Nat.zero_add, Nat.reduceAdd])) only [go_sem, ↓reduceIte, Nat.reduceAdd, Int.reduceNeg, Int.reduceAdd, Int.reduceSub, Int.reduceMul, Int.reduceLT, Int.reduceLE, Int.reduceEq, Int.reduceToNat, Nat.reduceBEq, nat1, true_and])
  all_goals rfl
def EqV (v : Vec) : Prop := wtV v ≤ 1000000000 → Meets Try.prog 55 [(true, encV v), (true, encV v)] [(false, [.sc (.bool true)], true)]
theorem eqVecs_m (l : List Vec) (hall : ∀ p ∈ l, EqV p) (h : l.length + sumBy wtV l ≤ 1000000000) : Meets Try.prog 72 [(false, [.sl 42 8 (l.map encV)]), (false, [.sl 42 8 (l.map encV)])] [(false, [.sc (.bool true)], true)] := by
  have hz : ∀ x ∈ l, wtV x ≤ 1000000000 := fun x hx => by have := sumBy_mem wtV hx; omega
  refine meets_upf Try.func72 u_laws_eqVectorS_g rfl ?_; simp only [u_laws_eqVectorS_u]
  simp (disch := first | omega | (simp only [length_take, length_drop, length_append, map_cons, map_nil, length_map, length_cons, length_nil, length_set, length_replicate]; omega) | (simp only [length_cons, length_nil, Nat.zero_add, Nat.reduceAdd])) only [go_sem, ↓reduceIte, Nat.reduceAdd, Int.reduceNeg, Int.reduceAdd, Int.reduceSub, Int.reduceMul, Int.reduceLT, Int.reduceLE, Int.reduceEq, Int.reduceToNat, Nat.reduceBEq, nat1, eq_self]
  refine lp_n l.length (fun i => [.sc (.int .i64 i)]) rfl fun i hi => ?_
  simp only [u_laws_eqVectorS_l0]
  by_cases hlt : i < l.length
  · have hc := hall _ (getD_mem hlt) (hz _ (getD_mem hlt))
    have hix : eIdx 8 (some (.sl 42 8 (l.map encV))) (some (.sc (.int .i64 (i : Int)))) = some (encV (l.getD i default)) := by rw [ix_V (by omega) (by omega), Int.toNat_natCast]
    generalize l.getD i default = x at hc hix
    obtain ⟨x0, x1, x2, x3, x4, x5, x6, x7⟩ := x
    simp only [encV, encV_mk, encSs] at hc hix
    repeat' (first | (with_reducible first | refine jn_in ?_ | refine cl_ok (by assumption) rfl ?_ | refine cl_okP (by assumption) rfl ?_ | refine br_if (fun hbr => ?_) fun hbr => ?_ | refine br_ifn (fun hbr => ?_) fun hbr => ?_ | refine br_nb (fun hbr => ?_) fun hbr => ?_ | refine br_b (fun hbr => ?_) fun hbr => ?_) | simp (disch := first | omega | (simp only [length_take, length_drop, length_append, map_cons, map_nil, length_map, length_cons, length_nil, length_set, length_replicate]; omega) | (simp only [length_cons, length_nil, Nat.zero_add, Nat.reduceAdd])) only [go_sem, ↓reduceIte, Nat.reduceAdd, Int.reduceNeg, Int.reduceAdd, Int.reduceSub, Int.reduceMul, Int.reduceLT, Int.reduceLE, Int.reduceEq, Int.reduceToNat, Nat.reduceBEq, nat1, hix])
    all_goals first | omega | exact ⟨rfl, by omega⟩
  · obtain rfl : i = l.length := by omega
    repeat' (first | (with_reducible first | refine jn_in ?_ | refine cl_ok (by assumption) rfl ?_ | refine cl_okP (by assumption) rfl ?_ | refine br_if (fun hbr => ?_) fun hbr => ?_ | refine br_ifn (fun hbr => ?_) fun hbr => ?_ | refine br_nb (fun hbr => ?_) fun hbr => ?_ | refine br_b (fun hbr => ?_) fun hbr => ?_) | simp (disch := first | omega | (simp only [length_take, length_drop, length_append, map_cons, map_nil, length_map, length_cons, length_nil, length_set, length_replicate]; omega) | (simp only [length_cons, length_nil, Nat.zero_add, Nat.reduceAdd])) only [go_sem, ↓reduceIte, Nat.reduceAdd, Int.reduceNeg, Int.reduceAdd, Int.reduceSub, Int.reduceMul, Int.reduceLT, Int.reduceLE, Int.reduceEq, Int.reduceToNat, Nat.reduceBEq, nat1, true_and])
    all_goals first | omega | rfl
theorem eqV_m : ∀ v : Vec, EqV v := Vec.ind fun k its ps ns cl lv c e ih h => by
  rw [wtV_mk] at h
  have h1 := eqItemS_m its (by unfold wtItems at h; omega)
  have h2 := eqVecs_m ps ih (by omega)
  have h3 := eqSs_m ns (wtSs_len (n := 100000000000) (by omega))
  have h4 := eqSs_m cl (wtSs_len (n := 100000000000) (by omega))
  have h5 := eqSs_m lv (wtSs_len (n := 100000000000) (by omega))
  simp only [encV, encV_mk, encSs, encIts] at h1 h2 h3 h4 h5 ⊢
  refine meets_upf Try.func55 u_laws_eqVector_g rfl ?_; simp only [u_laws_eqVector_u]
  repeat' (first | (with_reducible first | refine jn_in ?_ | refine cl_ok (by assumption) rfl ?_ | refine cl_okP (by assumption) rfl ?_ | refine br_if (fun hbr => ?_) fun hbr => ?_ | refine br_ifn (fun hbr => ?_) fun hbr => ?_ | refine br_nb (fun hbr => ?_) fun hbr => ?_ | refine br_b (fun hbr => ?_) fun hbr => ?_) | simp (disch := first | omega | (simp only [length_take, length_drop, length_append, map_cons, map_nil, length_map, length_cons, length_nil, length_set, length_replicate]; omega) | (simp only [length_cons, length_nil, Nat.zero_add, Nat.reduceAdd])) only [go_sem, ↓reduceIte, Nat.reduceAdd, Int.reduceNeg, Int.reduceAdd, Int.reduceSub, Int.reduceMul, Int.reduceLT, Int.reduceLE, Int.reduceEq, Int.reduceToNat, Nat.reduceBEq, nat1, eq_self])
  all_goals rfl
end Go.Proofs.Ytkhibgknpcgneaa

namespace Go.Proofs.Ytkhibgknpcgneaa
open List (length_take length_drop length_append map_cons map_nil length_map length_cons length_nil length_set length_replicate)
open Go.RowKit Go.ChangeShapes Go.WideShapes Go.Deep
set_option maxRecDepth 100000
theorem e_makeG {α : Type} {e : α → List DV} {l : List α} {el k b : Nat} {zz : List DV} (h1 : l.length ≤ 1000000000) (hb : b ≤ 1000) : eMake el k b zz (some (.sc (.int .i64 (l.length : Int)))) = some [.sl el k (fillL (l.map e) 0 zz)] := by
  have h3 : b * l.length ≤ 281474976710656 := by
    have : b * l.length ≤ 1000 * l.length := Nat.mul_le_mul_right _ hb
    omega
  have h4 : l.length ≤ 9223372036854775807 := by omega
  rw [← fill0]
  simp [eMake, h3, h4]
structure Slo where
  kind : Int
  value : Vec
  promise : Int
  promises : List Int
  labels : List ByteArray
instance : Inhabited Slo := ⟨⟨default, default, default, default, default⟩⟩
def encSlo (x : Slo) : List DV := [.sc (.int .i64 x.kind)] ++ (encV x.value ++ ([.sc (.int .i64 x.promise)] ++ ([encZs x.promises] ++ ([encSs x.labels]))))
def encSlos (l : List Slo) : DV := .sl 72 12 (l.map encSlo)
theorem encSlo_len (x : Slo) : (encSlo x).length = 12 := by simp [encSlo, encVt_len]
theorem ix_Slo {t : Nat} {l : List Slo} {kd : IntKind} {z : Int} (h : 0 ≤ z) (h1 : z < l.length) : eIdx 12 (some (.sl t 12 (l.map encSlo))) (some (.sc (.int kd z))) = some (encSlo (l.getD z.toNat default)) := e_idx_map encSlo_len h h1
def encSloL (x : Slo) : List DV := [.sc (.int .i64 x.kind)] ++ (encVL x.value ++ ([.sc (.int .i64 x.promise)] ++ ([encZs x.promises] ++ ([encSs x.labels]))))
def encSlosL (l : List Slo) : DV := .sl 93 12 (l.map encSloL)
theorem encSloL_len (x : Slo) : (encSloL x).length = 12 := by simp [encSloL, encVt_len]
theorem ix_SloL {t : Nat} {l : List Slo} {kd : IntKind} {z : Int} (h : 0 ≤ z) (h1 : z < l.length) : eIdx 12 (some (.sl t 12 (l.map encSloL))) (some (.sc (.int kd z))) = some (encSloL (l.getD z.toNat default)) := e_idx_map encSloL_len h h1
def wtSlo (x : Slo) : Nat := wtV x.value + x.promises.length + wtSs x.labels
def OkSlo (x : Slo) : Prop := In64 x.kind ∧ OkVec x.value ∧ In64 x.promise ∧ OkZs x.promises ∧ OkSs x.labels
def wtSlos (l : List Slo) : Nat := l.length + sumBy wtSlo l
def OkSlos (l : List Slo) : Prop := l.length ≤ 9223372036854775807 ∧ ∀ x ∈ l, OkSlo x
theorem opD_Slo : OpD encSloL OkSlo Try.prog 93 := by
  intro H enc w base spare held fuel cs x h
  obtain ⟨hl, n, hf⟩ := open_flds Try.underlying93 h
  obtain ⟨y0, t0⟩ := hf 0 _ rfl
  obtain ⟨a0, r0, i0⟩ := opD_int Try.underlying3 H enc w base spare held n _ _ t0
  obtain ⟨y1, t1⟩ := hf 1 _ rfl
  obtain ⟨a1, r1, i1⟩ := opD_Vec H enc w base spare held n _ _ t1
  obtain ⟨y2, t2⟩ := hf 2 _ rfl
  obtain ⟨a2, r2, i2⟩ := opD_int Try.underlying3 H enc w base spare held n _ _ t2
  obtain ⟨y3, t3⟩ := hf 3 _ rfl
  obtain ⟨a3, r3, i3⟩ := opD_Zs H enc w base spare held n _ _ t3
  obtain ⟨y4, t4⟩ := hf 4 _ rfl
  obtain ⟨a4, r4, i4⟩ := opD_Ss H enc w base spare held n _ _ t4
  exact ⟨⟨a0, a1, a2, a3, a4⟩, repl_cut (o := 0) (k := 1) (repl_at r0 rfl (by kernel_rfl)) (repl_cut (o := 1) (k := 8) (repl_at r1 rfl (by kernel_rfl)) (repl_cut (o := 9) (k := 1) (repl_at r2 rfl (by kernel_rfl)) (repl_cut (o := 10) (k := 1) (repl_at r3 rfl (by kernel_rfl)) (repl_cut (o := 11) (k := 1) (repl_at r4 rfl (by kernel_rfl)) (repl_end hl (by kernel_rfl)))))), i0, i1, i2, i3, i4⟩
theorem opD_Slos : OpD (fun l => [encSlosL l]) OkSlos Try.prog 57 := opD_slice (e := encSloL) 93 Try.underlying57 (by kernel_rfl) (by decide) encSloL_len opD_Slo
set_option maxHeartbeats 1000000 in
theorem szSlo_m (x : Slo) (left : Int) (ok : OkSlo x) (h0 : 0 ≤ left) (h1 : left ≤ 1048576) : Meets Try.prog 56 [(true, encSloL x), (false, [.sc (.int .i64 left)])] [(false, [.sc (.int .i64 (szF left (wtSlo x)))], true)] := by
  obtain ⟨x0, x1, x2, x3, x4⟩ := x
  obtain ⟨k0, k1, k2, k3, k4⟩ := ok
  simp only at k0 k1 k2 k3 k4
  have hwt : wtSlo ⟨x0, x1, x2, x3, x4⟩ = wtV x1 + x3.length + wtSs x4 := rfl
  rw [hwt]; clear hwt
  have c1 := fun (left : Int) (h0 : 0 ≤ left) (h1 : left ≤ 1048576) => szV_m x1 left k1 h0 h1
  generalize wtV x1 = w1 at *
  have c3 := fun (left : Int) (h0 : 0 ≤ left) (h1 : left ≤ 1048576) => szZs_m x3 left k3.1 h0 h1
  generalize x3.length = w3 at *
  have c4 := fun (left : Int) (h0 : 0 ≤ left) (h1 : left ≤ 1048576) => szSs_m x4 left k4 h0 h1
  generalize wtSs x4 = w4 at *
  obtain ⟨v0, v1, v2, v3, v4, v5, v6, v7⟩ := x1
  simp only [encSlo, encSloL, encVL, encV, encV_mk, encSs, encZs, List.cons_append, List.nil_append, List.append_nil] at c1 c3 c4 ⊢
  refine meets_upf Try.func56 u_laws_szSlot_g rfl ?_; simp only [u_laws_szSlot_u]
  simp (disch := first | omega | (simp only [length_take, length_drop, length_append, map_cons, map_nil, length_map, length_cons, length_nil, length_set, length_replicate]; omega) | (simp only [length_cons, length_nil, Nat.zero_add, Nat.reduceAdd])) only [go_sem, ↓reduceIte, Nat.reduceAdd, Int.reduceNeg, Int.reduceAdd, Int.reduceSub, Int.reduceMul, Int.reduceLT, Int.reduceLE, Int.reduceEq, Int.reduceToNat, Nat.reduceBEq, nat1, true_and]
  refine cl_ok (c1 left (by omega) (by omega)) rfl ?_
  by_cases hw1 : ((w1 : Nat) : Int) ≤ left
  rotate_left
  · have hs := szF_gt (left := left) (wt := w1) (by omega)
    simp (disch := first | omega | (simp only [length_take, length_drop, length_append, map_cons, map_nil, length_map, length_cons, length_nil, length_set, length_replicate]; omega) | (simp only [length_cons, length_nil, Nat.zero_add, Nat.reduceAdd])) only [go_sem, ↓reduceIte, Nat.reduceAdd, Int.reduceNeg, Int.reduceAdd, Int.reduceSub, Int.reduceMul, Int.reduceLT, Int.reduceLE, Int.reduceEq, Int.reduceToNat, Nat.reduceBEq, nat1, hs]
    first | exact ret_z rfl | exact ret_z (szF_gt (by omega))
  have e1 := szF_le hw1
  have d1 : decide (left - ((w1 : Nat) : Int) < 0) = false := decide_eq_false (by omega)
  simp (disch := first | omega | (simp only [length_take, length_drop, length_append, map_cons, map_nil, length_map, length_cons, length_nil, length_set, length_replicate]; omega) | (simp only [length_cons, length_nil, Nat.zero_add, Nat.reduceAdd])) only [go_sem, ↓reduceIte, Nat.reduceAdd, Int.reduceNeg, Int.reduceAdd, Int.reduceSub, Int.reduceMul, Int.reduceLT, Int.reduceLE, Int.reduceEq, Int.reduceToNat, Nat.reduceBEq, nat1, e1, d1]
  generalize hL1 : left - ((w1 : Nat) : Int) = L1 at *
  refine cl_ok (c3 L1 (by omega) (by omega)) rfl ?_
  by_cases hw3 : ((w3 : Nat) : Int) ≤ L1
  rotate_left
  · have hs := szF_gt (left := L1) (wt := w3) (by omega)
    simp (disch := first | omega | (simp only [length_take, length_drop, length_append, map_cons, map_nil, length_map, length_cons, length_nil, length_set, length_replicate]; omega) | (simp only [length_cons, length_nil, Nat.zero_add, Nat.reduceAdd])) only [go_sem, ↓reduceIte, Nat.reduceAdd, Int.reduceNeg, Int.reduceAdd, Int.reduceSub, Int.reduceMul, Int.reduceLT, Int.reduceLE, Int.reduceEq, Int.reduceToNat, Nat.reduceBEq, nat1, hs]
    first | exact ret_z rfl | exact ret_z (szF_gt (by omega))
  have e3 := szF_le hw3
  have d3 : decide (L1 - ((w3 : Nat) : Int) < 0) = false := decide_eq_false (by omega)
  simp (disch := first | omega | (simp only [length_take, length_drop, length_append, map_cons, map_nil, length_map, length_cons, length_nil, length_set, length_replicate]; omega) | (simp only [length_cons, length_nil, Nat.zero_add, Nat.reduceAdd])) only [go_sem, ↓reduceIte, Nat.reduceAdd, Int.reduceNeg, Int.reduceAdd, Int.reduceSub, Int.reduceMul, Int.reduceLT, Int.reduceLE, Int.reduceEq, Int.reduceToNat, Nat.reduceBEq, nat1, e3, d3]
  generalize hL3 : L1 - ((w3 : Nat) : Int) = L3 at *
  refine cl_ok (c4 L3 (by omega) (by omega)) rfl ?_
  by_cases hw4 : ((w4 : Nat) : Int) ≤ L3
  rotate_left
  · have hs := szF_gt (left := L3) (wt := w4) (by omega)
    simp (disch := first | omega | (simp only [length_take, length_drop, length_append, map_cons, map_nil, length_map, length_cons, length_nil, length_set, length_replicate]; omega) | (simp only [length_cons, length_nil, Nat.zero_add, Nat.reduceAdd])) only [go_sem, ↓reduceIte, Nat.reduceAdd, Int.reduceNeg, Int.reduceAdd, Int.reduceSub, Int.reduceMul, Int.reduceLT, Int.reduceLE, Int.reduceEq, Int.reduceToNat, Nat.reduceBEq, nat1, hs]
    first | exact ret_z rfl | exact ret_z (szF_gt (by omega))
  have e4 := szF_le hw4
  have d4 : decide (L3 - ((w4 : Nat) : Int) < 0) = false := decide_eq_false (by omega)
  simp (disch := first | omega | (simp only [length_take, length_drop, length_append, map_cons, map_nil, length_map, length_cons, length_nil, length_set, length_replicate]; omega) | (simp only [length_cons, length_nil, Nat.zero_add, Nat.reduceAdd])) only [go_sem, ↓reduceIte, Nat.reduceAdd, Int.reduceNeg, Int.reduceAdd, Int.reduceSub, Int.reduceMul, Int.reduceLT, Int.reduceLE, Int.reduceEq, Int.reduceToNat, Nat.reduceBEq, nat1, e4, d4]
  first | exact ret_z rfl | exact ret_z (by rw [szF_le (by omega)]; omega)
set_option maxHeartbeats 1000000 in
theorem szSlos_m (l : List Slo) (left : Int) (ok : OkSlos l) (h0 : 0 ≤ left) (h1 : left ≤ 1048576) :
    Meets Try.prog 40 [(false, [encSlosL l]), (false, [.sc (.int .i64 left)])] [(false, [.sc (.int .i64 (szF left (wtSlos l)))], true)] := by
  obtain ⟨k1, k2⟩ := ok
  unfold wtSlos encSlosL
  refine meets_upf Try.func40 u_laws_szSlotS_g rfl ?_; simp only [u_laws_szSlotS_u]
  simp (disch := first | omega | (simp only [length_take, length_drop, length_append, map_cons, map_nil, length_map, length_cons, length_nil, length_set, length_replicate]; omega) | (simp only [length_cons, length_nil, Nat.zero_add, Nat.reduceAdd])) only [go_sem, ↓reduceIte, Nat.reduceAdd, Int.reduceNeg, Int.reduceAdd, Int.reduceSub, Int.reduceMul, Int.reduceLT, Int.reduceLE, Int.reduceEq, Int.reduceToNat, Nat.reduceBEq, nat1, true_and]
  refine br_if (fun hbr => ?_) (fun hbr => ?_)
  · simp (disch := first | omega | (simp only [length_take, length_drop, length_append, map_cons, map_nil, length_map, length_cons, length_nil, length_set, length_replicate]; omega) | (simp only [length_cons, length_nil, Nat.zero_add, Nat.reduceAdd])) only [go_sem, ↓reduceIte, Nat.reduceAdd, Int.reduceNeg, Int.reduceAdd, Int.reduceSub, Int.reduceMul, Int.reduceLT, Int.reduceLE, Int.reduceEq, Int.reduceToNat, Nat.reduceBEq, nat1, true_and]
    exact ret_z (szF_gt (by omega))
  simp (disch := first | omega | (simp only [length_take, length_drop, length_append, map_cons, map_nil, length_map, length_cons, length_nil, length_set, length_replicate]; omega) | (simp only [length_cons, length_nil, Nat.zero_add, Nat.reduceAdd])) only [go_sem, ↓reduceIte, Nat.reduceAdd, Int.reduceNeg, Int.reduceAdd, Int.reduceSub, Int.reduceMul, Int.reduceLT, Int.reduceLE, Int.reduceEq, Int.reduceToNat, Nat.reduceBEq, nat1, true_and]
  refine lp (fun i : Nat => [.sc (.int .i64 i), .sc (.int .i64 (left - (l.length : Int) - (sumBy wtSlo (l.take i) : Nat)))]) (fun i => i ≤ l.length ∧ (sumBy wtSlo (l.take i) : Nat) ≤ left - (l.length : Int)) (fun i => l.length - i) 0 (by simp [gL, sumBy]) ⟨by omega, by simp [sumBy]; omega⟩ ?_
  rintro i ⟨hi, hs⟩
  simp only [u_laws_szSlotS_l0]
  by_cases hlt : i < l.length
  · have h3 := sumBy_succ wtSlo hlt
    have h5 := sumBy_le wtSlo l (i + 1)
    have hm := getD_mem hlt
    have hix : eIdx 12 (some (.sl 93 12 (l.map encSloL))) (some (.sc (.int .i64 (i : Int)))) = some (encSloL (l.getD i default)) := by rw [ix_SloL (by omega) (by omega), Int.toNat_natCast]
    generalize l.getD i default = x at h3 hm hix
    have hc := szSlo_m x (left - (l.length : Int) - (sumBy wtSlo (l.take i) : Nat)) (k2 x hm) (by omega) (by omega)
    generalize wtSlo x = wx at *
    obtain ⟨x0, x1, x2, x3, x4⟩ := x
    obtain ⟨v0, v1, v2, v3, v4, v5, v6, v7⟩ := x1
    simp only [encSlo, encSloL, encVL, encV, encV_mk, encSs, encZs, List.cons_append, List.nil_append, List.append_nil] at hc hix
    by_cases hw : (wx : Int) ≤ left - (l.length : Int) - (sumBy wtSlo (l.take i) : Nat)
    · have hs1 := szF_le hw
      rw [hs1] at hc
      repeat' (first | (with_reducible first | refine jn_in ?_ | refine cl_ok (by assumption) rfl ?_ | refine cl_okP (by assumption) rfl ?_ | refine br_if (fun hbr => ?_) fun hbr => ?_ | refine br_ifn (fun hbr => ?_) fun hbr => ?_ | refine br_nb (fun hbr => ?_) fun hbr => ?_ | refine br_b (fun hbr => ?_) fun hbr => ?_) | simp (disch := first | omega | (simp only [length_take, length_drop, length_append, map_cons, map_nil, length_map, length_cons, length_nil, length_set, length_replicate]; omega) | (simp only [length_cons, length_nil, Nat.zero_add, Nat.reduceAdd])) only [go_sem, ↓reduceIte, Nat.reduceAdd, Int.reduceNeg, Int.reduceAdd, Int.reduceSub, Int.reduceMul, Int.reduceLT, Int.reduceLE, Int.reduceEq, Int.reduceToNat, Nat.reduceBEq, nat1, hix])
      all_goals first | omega | exact ret_z (szF_gt (by omega)) | exact ⟨i + 1, by congr 4; omega, ⟨by omega, by omega⟩, by omega⟩
    · have hs1 := szF_gt (left := left - (l.length : Int) - (sumBy wtSlo (l.take i) : Nat)) (wt := wx) (by omega)
      rw [hs1] at hc
      repeat' (first | (with_reducible first | refine jn_in ?_ | refine cl_ok (by assumption) rfl ?_ | refine cl_okP (by assumption) rfl ?_ | refine br_if (fun hbr => ?_) fun hbr => ?_ | refine br_ifn (fun hbr => ?_) fun hbr => ?_ | refine br_nb (fun hbr => ?_) fun hbr => ?_ | refine br_b (fun hbr => ?_) fun hbr => ?_) | simp (disch := first | omega | (simp only [length_take, length_drop, length_append, map_cons, map_nil, length_map, length_cons, length_nil, length_set, length_replicate]; omega) | (simp only [length_cons, length_nil, Nat.zero_add, Nat.reduceAdd])) only [go_sem, ↓reduceIte, Nat.reduceAdd, Int.reduceNeg, Int.reduceAdd, Int.reduceSub, Int.reduceMul, Int.reduceLT, Int.reduceLE, Int.reduceEq, Int.reduceToNat, Nat.reduceBEq, nat1, hix])
      all_goals first | omega | exact ret_z (szF_gt (by omega))
  · obtain rfl : i = l.length := by omega
    rw [List.take_length] at hs ⊢
    repeat' (first | (with_reducible first | refine jn_in ?_ | refine cl_ok (by assumption) rfl ?_ | refine cl_okP (by assumption) rfl ?_ | refine br_if (fun hbr => ?_) fun hbr => ?_ | refine br_ifn (fun hbr => ?_) fun hbr => ?_ | refine br_nb (fun hbr => ?_) fun hbr => ?_ | refine br_b (fun hbr => ?_) fun hbr => ?_) | simp (disch := first | omega | (simp only [length_take, length_drop, length_append, map_cons, map_nil, length_map, length_cons, length_nil, length_set, length_replicate]; omega) | (simp only [length_cons, length_nil, Nat.zero_add, Nat.reduceAdd])) only [go_sem, ↓reduceIte, Nat.reduceAdd, Int.reduceNeg, Int.reduceAdd, Int.reduceSub, Int.reduceMul, Int.reduceLT, Int.reduceLE, Int.reduceEq, Int.reduceToNat, Nat.reduceBEq, nat1, true_and])
    all_goals first | omega | exact ret_z (by rw [szF_le (by omega)]; omega)
theorem toSlo_m (x : Slo) (hw : wtSlo x ≤ 1048576) : Meets Try.prog 63 [(true, encSloL x)] [(true, encSlo x, true)] := by
  obtain ⟨x0, x1, x2, x3, x4⟩ := x
  have hwt : wtSlo ⟨x0, x1, x2, x3, x4⟩ = wtV x1 + x3.length + wtSs x4 := rfl
  rw [hwt] at hw; clear hwt
  have c1 := toV_m x1 (by omega)
  have c3 := toZs_m x3 (by omega)
  have c4 := toSs_m x4 (wtSs_len (n := 1048576) (by omega))
  clear hw
  obtain ⟨v0, v1, v2, v3, v4, v5, v6, v7⟩ := x1
  simp only [encSlo, encSloL, encVL, encV, encV_mk, encSs, encZs, List.cons_append, List.nil_append, List.append_nil] at c1 c3 c4 ⊢
  refine meets_upf Try.func63 u_laws_toSlot_g rfl ?_; simp only [u_laws_toSlot_u]
  repeat' (first | (with_reducible first | refine jn_in ?_ | refine cl_ok (by assumption) rfl ?_ | refine cl_okP (by assumption) rfl ?_ | refine br_if (fun hbr => ?_) fun hbr => ?_ | refine br_ifn (fun hbr => ?_) fun hbr => ?_ | refine br_nb (fun hbr => ?_) fun hbr => ?_ | refine br_b (fun hbr => ?_) fun hbr => ?_) | simp (disch := first | omega | (simp only [length_take, length_drop, length_append, map_cons, map_nil, length_map, length_cons, length_nil, length_set, length_replicate]; omega) | (simp only [length_cons, length_nil, Nat.zero_add, Nat.reduceAdd])) only [go_sem, ↓reduceIte, Nat.reduceAdd, Int.reduceNeg, Int.reduceAdd, Int.reduceSub, Int.reduceMul, Int.reduceLT, Int.reduceLE, Int.reduceEq, Int.reduceToNat, Nat.reduceBEq, nat1, true_and])
  all_goals rfl
def zSlo : List DV := [.sc (.int .i64 0), .sc (.int .i64 0), .sl 0 1 [], .sl 0 1 [], .sl 0 1 [], .sl 0 1 [], .sl 0 1 [], .sc (.int .i64 0), .sc (.int .i64 0), .sc (.int .i64 0), .sl 0 1 [], .sl 0 1 []]
theorem toSlos_m (l : List Slo) (h : wtSlos l ≤ 1048576) : Meets Try.prog 46 [(false, [encSlosL l])] [(false, [encSlos l], true)] := by
  have hl : l.length ≤ 1048576 := by unfold wtSlos at h; omega
  have hz : ∀ x ∈ l, wtSlo x ≤ 1048576 := fun x hx => by have := sumBy_mem wtSlo hx; unfold wtSlos at h; omega
  unfold encSlos encSlosL
  refine meets_upf Try.func46 u_laws_toSlotS_g rfl ?_; simp only [u_laws_toSlotS_u]
  have hm := fun b (hb : b ≤ 1000) => e_makeG (e := encSlo) (l := l) (el := 72) (k := 12) (b := b) (zz := zSlo) (by omega) hb
  have hm1 := hm 208 (by decide)
  unfold zSlo at hm1
  simp (disch := first | omega | (simp only [length_take, length_drop, length_append, map_cons, map_nil, length_map, length_cons, length_nil, length_set, length_replicate]; omega) | (simp only [length_cons, length_nil, Nat.zero_add, Nat.reduceAdd])) only [go_sem, ↓reduceIte, Nat.reduceAdd, Int.reduceNeg, Int.reduceAdd, Int.reduceSub, Int.reduceMul, Int.reduceLT, Int.reduceLE, Int.reduceEq, Int.reduceToNat, Nat.reduceBEq, nat1, hm1]
  refine lp_n l.length (fun i => [.sc (.int .i64 i), .sl 72 12 (fillL (l.map encSlo) i zSlo)]) rfl fun i hi => ?_
  simp only [u_laws_toSlotS_l0]
  by_cases hlt : i < l.length
  · have e1 := e_chkF (e := encSlo) (t := 72) (k := 12) (kd := .i64) (z := zSlo) hlt
    have hc := toSlo_m _ (hz _ (getD_mem hlt))
    have hix : eIdx 12 (some (.sl 93 12 (l.map encSloL))) (some (.sc (.int .i64 (i : Int)))) = some (encSloL (l.getD i default)) := by rw [ix_SloL (by omega) (by omega), Int.toNat_natCast]
    have e2 : ∀ ds, ds = encSlo (l.getD i default) → eSet 12 0 (some (.sl 72 12 (fillL (l.map encSlo) i zSlo))) (some (.sc (.int .i64 (i : Int)))) (some ds) = some [.sl 72 12 (fillL (l.map encSlo) (i + 1) zSlo)] := fun ds hd => e_fill (e := encSlo) hd rfl encSlo_len hlt
    generalize l.getD i default = x at hc hix e2
    obtain ⟨x0, x1, x2, x3, x4⟩ := x
    obtain ⟨v0, v1, v2, v3, v4, v5, v6, v7⟩ := x1
    have e3 := e2 _ rfl
    simp only [encSlo, encSloL, encVL, encV, encV_mk, encSs, encZs, List.cons_append, List.nil_append, List.append_nil] at hc hix e3 e1
    repeat' (first | (with_reducible first | refine jn_in ?_ | refine cl_ok (by assumption) rfl ?_ | refine cl_okP (by assumption) rfl ?_ | refine br_if (fun hbr => ?_) fun hbr => ?_ | refine br_ifn (fun hbr => ?_) fun hbr => ?_ | refine br_nb (fun hbr => ?_) fun hbr => ?_ | refine br_b (fun hbr => ?_) fun hbr => ?_) | simp (disch := first | omega | (simp only [length_take, length_drop, length_append, map_cons, map_nil, length_map, length_cons, length_nil, length_set, length_replicate]; omega) | (simp only [length_cons, length_nil, Nat.zero_add, Nat.reduceAdd])) only [go_sem, ↓reduceIte, Nat.reduceAdd, Int.reduceNeg, Int.reduceAdd, Int.reduceSub, Int.reduceMul, Int.reduceLT, Int.reduceLE, Int.reduceEq, Int.reduceToNat, Nat.reduceBEq, nat1, e1, e3, hix])
    all_goals first | omega | exact ⟨rfl, by omega⟩
  · obtain rfl : i = l.length := by omega
    repeat' (first | (with_reducible first | refine jn_in ?_ | refine cl_ok (by assumption) rfl ?_ | refine cl_okP (by assumption) rfl ?_ | refine br_if (fun hbr => ?_) fun hbr => ?_ | refine br_ifn (fun hbr => ?_) fun hbr => ?_ | refine br_nb (fun hbr => ?_) fun hbr => ?_ | refine br_b (fun hbr => ?_) fun hbr => ?_) | simp (disch := first | omega | (simp only [length_take, length_drop, length_append, map_cons, map_nil, length_map, length_cons, length_nil, length_set, length_replicate]; omega) | (simp only [length_cons, length_nil, Nat.zero_add, Nat.reduceAdd])) only [go_sem, ↓reduceIte, Nat.reduceAdd, Int.reduceNeg, Int.reduceAdd, Int.reduceSub, Int.reduceMul, Int.reduceLT, Int.reduceLE, Int.reduceEq, Int.reduceToNat, Nat.reduceBEq, nat1, fillL_endm])
    all_goals first | omega | rfl
theorem eqSlo_m (x : Slo) (hw : wtSlo x ≤ 1000000000) : Meets Try.prog 70 [(true, encSlo x), (true, encSlo x)] [(false, [.sc (.bool true)], true)] := by
  obtain ⟨x0, x1, x2, x3, x4⟩ := x
  have hwt : wtSlo ⟨x0, x1, x2, x3, x4⟩ = wtV x1 + x3.length + wtSs x4 := rfl
  rw [hwt] at hw; clear hwt
  have c1 := eqV_m x1 (by omega)
  have c3 := eqZs_m x3 (by omega)
  have c4 := eqSs_m x4 (wtSs_len (n := 100000000000) (by omega))
  clear hw
  obtain ⟨v0, v1, v2, v3, v4, v5, v6, v7⟩ := x1
  simp only [encSlo, encSloL, encVL, encV, encV_mk, encSs, encZs, List.cons_append, List.nil_append, List.append_nil] at c1 c3 c4 ⊢
  refine meets_upf Try.func70 u_laws_eqSlot_g rfl ?_; simp only [u_laws_eqSlot_u]
  repeat' (first | (with_reducible first | refine jn_in ?_ | refine cl_ok (by assumption) rfl ?_ | refine cl_okP (by assumption) rfl ?_ | refine br_if (fun hbr => ?_) fun hbr => ?_ | refine br_ifn (fun hbr => ?_) fun hbr => ?_ | refine br_nb (fun hbr => ?_) fun hbr => ?_ | refine br_b (fun hbr => ?_) fun hbr => ?_) | simp (disch := first | omega | (simp only [length_take, length_drop, length_append, map_cons, map_nil, length_map, length_cons, length_nil, length_set, length_replicate]; omega) | (simp only [length_cons, length_nil, Nat.zero_add, Nat.reduceAdd])) only [go_sem, ↓reduceIte, Nat.reduceAdd, Int.reduceNeg, Int.reduceAdd, Int.reduceSub, Int.reduceMul, Int.reduceLT, Int.reduceLE, Int.reduceEq, Int.reduceToNat, Nat.reduceBEq, nat1, eq_self])
  all_goals rfl
theorem eqSlos_m (l : List Slo) (h : wtSlos l ≤ 1000000000) : Meets Try.prog 54 [(false, [encSlos l]), (false, [encSlos l])] [(false, [.sc (.bool true)], true)] := by
  have hl : l.length ≤ 1000000000 := by unfold wtSlos at h; omega
  have hz : ∀ x ∈ l, wtSlo x ≤ 1000000000 := fun x hx => by have := sumBy_mem wtSlo hx; unfold wtSlos at h; omega
  unfold encSlos
  refine meets_upf Try.func54 u_laws_eqSlotS_g rfl ?_; simp only [u_laws_eqSlotS_u]
  simp (disch := first | omega | (simp only [length_take, length_drop, length_append, map_cons, map_nil, length_map, length_cons, length_nil, length_set, length_replicate]; omega) | (simp only [length_cons, length_nil, Nat.zero_add, Nat.reduceAdd])) only [go_sem, ↓reduceIte, Nat.reduceAdd, Int.reduceNeg, Int.reduceAdd, Int.reduceSub, Int.reduceMul, Int.reduceLT, Int.reduceLE, Int.reduceEq, Int.reduceToNat, Nat.reduceBEq, nat1, eq_self]
  refine lp_n l.length (fun i => [.sc (.int .i64 i)]) rfl fun i hi => ?_
  simp only [u_laws_eqSlotS_l0]
  by_cases hlt : i < l.length
  · have hc := eqSlo_m _ (hz _ (getD_mem hlt))
    have hix : eIdx 12 (some (.sl 72 12 (l.map encSlo))) (some (.sc (.int .i64 (i : Int)))) = some (encSlo (l.getD i default)) := by rw [ix_Slo (by omega) (by omega), Int.toNat_natCast]
    generalize l.getD i default = x at hc hix
    obtain ⟨x0, x1, x2, x3, x4⟩ := x
    obtain ⟨v0, v1, v2, v3, v4, v5, v6, v7⟩ := x1
    simp only [encSlo, encSloL, encVL, encV, encV_mk, encSs, encZs, List.cons_append, List.nil_append, List.append_nil] at hc hix
    repeat' (first | (with_reducible first | refine jn_in ?_ | refine cl_ok (by assumption) rfl ?_ | refine cl_okP (by assumption) rfl ?_ | refine br_if (fun hbr => ?_) fun hbr => ?_ | refine br_ifn (fun hbr => ?_) fun hbr => ?_ | refine br_nb (fun hbr => ?_) fun hbr => ?_ | refine br_b (fun hbr => ?_) fun hbr => ?_) | simp (disch := first | omega | (simp only [length_take, length_drop, length_append, map_cons, map_nil, length_map, length_cons, length_nil, length_set, length_replicate]; omega) | (simp only [length_cons, length_nil, Nat.zero_add, Nat.reduceAdd])) only [go_sem, ↓reduceIte, Nat.reduceAdd, Int.reduceNeg, Int.reduceAdd, Int.reduceSub, Int.reduceMul, Int.reduceLT, Int.reduceLE, Int.reduceEq, Int.reduceToNat, Nat.reduceBEq, nat1, hix])
    all_goals first | omega | exact ⟨rfl, by omega⟩
  · obtain rfl : i = l.length := by omega
    repeat' (first | (with_reducible first | refine jn_in ?_ | refine cl_ok (by assumption) rfl ?_ | refine cl_okP (by assumption) rfl ?_ | refine br_if (fun hbr => ?_) fun hbr => ?_ | refine br_ifn (fun hbr => ?_) fun hbr => ?_ | refine br_nb (fun hbr => ?_) fun hbr => ?_ | refine br_b (fun hbr => ?_) fun hbr => ?_) | simp (disch := first | omega | (simp only [length_take, length_drop, length_append, map_cons, map_nil, length_map, length_cons, length_nil, length_set, length_replicate]; omega) | (simp only [length_cons, length_nil, Nat.zero_add, Nat.reduceAdd])) only [go_sem, ↓reduceIte, Nat.reduceAdd, Int.reduceNeg, Int.reduceAdd, Int.reduceSub, Int.reduceMul, Int.reduceLT, Int.reduceLE, Int.reduceEq, Int.reduceToNat, Nat.reduceBEq, nat1, true_and])
    all_goals first | omega | rfl
structure Env where
  used : Bool
  parent : Int
  names : List ByteArray
  slots : List Slo
instance : Inhabited Env := ⟨⟨default, default, default, default⟩⟩
def encEnv (x : Env) : List DV := [.sc (.bool x.used)] ++ ([.sc (.int .i64 x.parent)] ++ ([encSs x.names] ++ ([encSlos x.slots])))
def encEnvs (l : List Env) : DV := .sl 50 4 (l.map encEnv)
theorem encEnv_len (x : Env) : (encEnv x).length = 4 := by simp [encEnv, encVt_len]
theorem ix_Env {t : Nat} {l : List Env} {kd : IntKind} {z : Int} (h : 0 ≤ z) (h1 : z < l.length) : eIdx 4 (some (.sl t 4 (l.map encEnv))) (some (.sc (.int kd z))) = some (encEnv (l.getD z.toNat default)) := e_idx_map encEnv_len h h1
def encEnvL (x : Env) : List DV := [.sc (.bool x.used)] ++ ([.sc (.int .i64 x.parent)] ++ ([encSs x.names] ++ ([encSlosL x.slots])))
def encEnvsL (l : List Env) : DV := .sl 59 4 (l.map encEnvL)
theorem encEnvL_len (x : Env) : (encEnvL x).length = 4 := by simp [encEnvL, encVt_len]
theorem ix_EnvL {t : Nat} {l : List Env} {kd : IntKind} {z : Int} (h : 0 ≤ z) (h1 : z < l.length) : eIdx 4 (some (.sl t 4 (l.map encEnvL))) (some (.sc (.int kd z))) = some (encEnvL (l.getD z.toNat default)) := e_idx_map encEnvL_len h h1
def wtEnv (x : Env) : Nat := wtSs x.names + wtSlos x.slots
def OkEnv (x : Env) : Prop := True ∧ In64 x.parent ∧ OkSs x.names ∧ OkSlos x.slots
def wtEnvs (l : List Env) : Nat := l.length + sumBy wtEnv l
def OkEnvs (l : List Env) : Prop := l.length ≤ 9223372036854775807 ∧ ∀ x ∈ l, OkEnv x
theorem opD_Env : OpD encEnvL OkEnv Try.prog 59 := by
  intro H enc w base spare held fuel cs x h
  obtain ⟨hl, n, hf⟩ := open_flds Try.underlying59 h
  obtain ⟨y0, t0⟩ := hf 0 _ rfl
  obtain ⟨a0, r0, i0⟩ := opD_bool Try.underlying4 H enc w base spare held n _ _ t0
  obtain ⟨y1, t1⟩ := hf 1 _ rfl
  obtain ⟨a1, r1, i1⟩ := opD_int Try.underlying3 H enc w base spare held n _ _ t1
  obtain ⟨y2, t2⟩ := hf 2 _ rfl
  obtain ⟨a2, r2, i2⟩ := opD_Ss H enc w base spare held n _ _ t2
  obtain ⟨y3, t3⟩ := hf 3 _ rfl
  obtain ⟨a3, r3, i3⟩ := opD_Slos H enc w base spare held n _ _ t3
  exact ⟨⟨a0, a1, a2, a3⟩, repl_cut (o := 0) (k := 1) (repl_at r0 rfl (by kernel_rfl)) (repl_cut (o := 1) (k := 1) (repl_at r1 rfl (by kernel_rfl)) (repl_cut (o := 2) (k := 1) (repl_at r2 rfl (by kernel_rfl)) (repl_cut (o := 3) (k := 1) (repl_at r3 rfl (by kernel_rfl)) (repl_end hl (by kernel_rfl))))), i0, i1, i2, i3⟩
theorem opD_Envs : OpD (fun l => [encEnvsL l]) OkEnvs Try.prog 22 := opD_slice (e := encEnvL) 59 Try.underlying22 (by kernel_rfl) (by decide) encEnvL_len opD_Env
set_option maxHeartbeats 1000000 in
theorem szEnv_m (x : Env) (left : Int) (ok : OkEnv x) (h0 : 0 ≤ left) (h1 : left ≤ 1048576) : Meets Try.prog 21 [(true, encEnvL x), (false, [.sc (.int .i64 left)])] [(false, [.sc (.int .i64 (szF left (wtEnv x)))], true)] := by
  obtain ⟨x0, x1, x2, x3⟩ := x
  obtain ⟨k0, k1, k2, k3⟩ := ok
  simp only at k1 k2 k3
  have hwt : wtEnv ⟨x0, x1, x2, x3⟩ = wtSs x2 + wtSlos x3 := rfl
  rw [hwt]; clear hwt
  have c2 := fun (left : Int) (h0 : 0 ≤ left) (h1 : left ≤ 1048576) => szSs_m x2 left k2 h0 h1
  generalize wtSs x2 = w2 at *
  have c3 := fun (left : Int) (h0 : 0 ≤ left) (h1 : left ≤ 1048576) => szSlos_m x3 left k3 h0 h1
  generalize wtSlos x3 = w3 at *
  simp only [encEnv, encEnvL, encSlos, encSlosL, encVL, encV, encV_mk, encSs, encZs, List.cons_append, List.nil_append, List.append_nil] at c2 c3 ⊢
  refine meets_upf Try.func21 u_laws_szEnv_g rfl ?_; simp only [u_laws_szEnv_u]
  simp (disch := first | omega | (simp only [length_take, length_drop, length_append, map_cons, map_nil, length_map, length_cons, length_nil, length_set, length_replicate]; omega) | (simp only [length_cons, length_nil, Nat.zero_add, Nat.reduceAdd])) only [go_sem, ↓reduceIte, Nat.reduceAdd, Int.reduceNeg, Int.reduceAdd, Int.reduceSub, Int.reduceMul, Int.reduceLT, Int.reduceLE, Int.reduceEq, Int.reduceToNat, Nat.reduceBEq, nat1, true_and]
  refine cl_ok (c2 left (by omega) (by omega)) rfl ?_
  by_cases hw2 : ((w2 : Nat) : Int) ≤ left
  rotate_left
  · have hs := szF_gt (left := left) (wt := w2) (by omega)
    simp (disch := first | omega | (simp only [length_take, length_drop, length_append, map_cons, map_nil, length_map, length_cons, length_nil, length_set, length_replicate]; omega) | (simp only [length_cons, length_nil, Nat.zero_add, Nat.reduceAdd])) only [go_sem, ↓reduceIte, Nat.reduceAdd, Int.reduceNeg, Int.reduceAdd, Int.reduceSub, Int.reduceMul, Int.reduceLT, Int.reduceLE, Int.reduceEq, Int.reduceToNat, Nat.reduceBEq, nat1, hs]
    first | exact ret_z rfl | exact ret_z (szF_gt (by omega))
  have e2 := szF_le hw2
  have d2 : decide (left - ((w2 : Nat) : Int) < 0) = false := decide_eq_false (by omega)
  simp (disch := first | omega | (simp only [length_take, length_drop, length_append, map_cons, map_nil, length_map, length_cons, length_nil, length_set, length_replicate]; omega) | (simp only [length_cons, length_nil, Nat.zero_add, Nat.reduceAdd])) only [go_sem, ↓reduceIte, Nat.reduceAdd, Int.reduceNeg, Int.reduceAdd, Int.reduceSub, Int.reduceMul, Int.reduceLT, Int.reduceLE, Int.reduceEq, Int.reduceToNat, Nat.reduceBEq, nat1, e2, d2]
  generalize hL2 : left - ((w2 : Nat) : Int) = L2 at *
  refine cl_ok (c3 L2 (by omega) (by omega)) rfl ?_
  by_cases hw3 : ((w3 : Nat) : Int) ≤ L2
  rotate_left
  · have hs := szF_gt (left := L2) (wt := w3) (by omega)
    simp (disch := first | omega | (simp only [length_take, length_drop, length_append, map_cons, map_nil, length_map, length_cons, length_nil, length_set, length_replicate]; omega) | (simp only [length_cons, length_nil, Nat.zero_add, Nat.reduceAdd])) only [go_sem, ↓reduceIte, Nat.reduceAdd, Int.reduceNeg, Int.reduceAdd, Int.reduceSub, Int.reduceMul, Int.reduceLT, Int.reduceLE, Int.reduceEq, Int.reduceToNat, Nat.reduceBEq, nat1, hs]
    first | exact ret_z rfl | exact ret_z (szF_gt (by omega))
  have e3 := szF_le hw3
  have d3 : decide (L2 - ((w3 : Nat) : Int) < 0) = false := decide_eq_false (by omega)
  simp (disch := first | omega | (simp only [length_take, length_drop, length_append, map_cons, map_nil, length_map, length_cons, length_nil, length_set, length_replicate]; omega) | (simp only [length_cons, length_nil, Nat.zero_add, Nat.reduceAdd])) only [go_sem, ↓reduceIte, Nat.reduceAdd, Int.reduceNeg, Int.reduceAdd, Int.reduceSub, Int.reduceMul, Int.reduceLT, Int.reduceLE, Int.reduceEq, Int.reduceToNat, Nat.reduceBEq, nat1, e3, d3]
  first | exact ret_z rfl | exact ret_z (by rw [szF_le (by omega)]; omega)
set_option maxHeartbeats 1000000 in
theorem szEnvs_m (l : List Env) (left : Int) (ok : OkEnvs l) (h0 : 0 ≤ left) (h1 : left ≤ 1048576) :
    Meets Try.prog 9 [(false, [encEnvsL l]), (false, [.sc (.int .i64 left)])] [(false, [.sc (.int .i64 (szF left (wtEnvs l)))], true)] := by
  obtain ⟨k1, k2⟩ := ok
  unfold wtEnvs encEnvsL
  refine meets_upf Try.func9 u_laws_szEnvS_g rfl ?_; simp only [u_laws_szEnvS_u]
  simp (disch := first | omega | (simp only [length_take, length_drop, length_append, map_cons, map_nil, length_map, length_cons, length_nil, length_set, length_replicate]; omega) | (simp only [length_cons, length_nil, Nat.zero_add, Nat.reduceAdd])) only [go_sem, ↓reduceIte, Nat.reduceAdd, Int.reduceNeg, Int.reduceAdd, Int.reduceSub, Int.reduceMul, Int.reduceLT, Int.reduceLE, Int.reduceEq, Int.reduceToNat, Nat.reduceBEq, nat1, true_and]
  refine br_if (fun hbr => ?_) (fun hbr => ?_)
  · simp (disch := first | omega | (simp only [length_take, length_drop, length_append, map_cons, map_nil, length_map, length_cons, length_nil, length_set, length_replicate]; omega) | (simp only [length_cons, length_nil, Nat.zero_add, Nat.reduceAdd])) only [go_sem, ↓reduceIte, Nat.reduceAdd, Int.reduceNeg, Int.reduceAdd, Int.reduceSub, Int.reduceMul, Int.reduceLT, Int.reduceLE, Int.reduceEq, Int.reduceToNat, Nat.reduceBEq, nat1, true_and]
    exact ret_z (szF_gt (by omega))
  simp (disch := first | omega | (simp only [length_take, length_drop, length_append, map_cons, map_nil, length_map, length_cons, length_nil, length_set, length_replicate]; omega) | (simp only [length_cons, length_nil, Nat.zero_add, Nat.reduceAdd])) only [go_sem, ↓reduceIte, Nat.reduceAdd, Int.reduceNeg, Int.reduceAdd, Int.reduceSub, Int.reduceMul, Int.reduceLT, Int.reduceLE, Int.reduceEq, Int.reduceToNat, Nat.reduceBEq, nat1, true_and]
  refine lp (fun i : Nat => [.sc (.int .i64 i), .sc (.int .i64 (left - (l.length : Int) - (sumBy wtEnv (l.take i) : Nat)))]) (fun i => i ≤ l.length ∧ (sumBy wtEnv (l.take i) : Nat) ≤ left - (l.length : Int)) (fun i => l.length - i) 0 (by simp [gL, sumBy]) ⟨by omega, by simp [sumBy]; omega⟩ ?_
  rintro i ⟨hi, hs⟩
  simp only [u_laws_szEnvS_l0]
  by_cases hlt : i < l.length
  · have h3 := sumBy_succ wtEnv hlt
    have h5 := sumBy_le wtEnv l (i + 1)
    have hm := getD_mem hlt
    have hix : eIdx 4 (some (.sl 59 4 (l.map encEnvL))) (some (.sc (.int .i64 (i : Int)))) = some (encEnvL (l.getD i default)) := by rw [ix_EnvL (by omega) (by omega), Int.toNat_natCast]
    generalize l.getD i default = x at h3 hm hix
    have hc := szEnv_m x (left - (l.length : Int) - (sumBy wtEnv (l.take i) : Nat)) (k2 x hm) (by omega) (by omega)
    generalize wtEnv x = wx at *
    obtain ⟨x0, x1, x2, x3⟩ := x
    simp only [encEnv, encEnvL, encSlos, encSlosL, encVL, encV, encV_mk, encSs, encZs, List.cons_append, List.nil_append, List.append_nil] at hc hix
    by_cases hw : (wx : Int) ≤ left - (l.length : Int) - (sumBy wtEnv (l.take i) : Nat)
    · have hs1 := szF_le hw
      rw [hs1] at hc
      repeat' (first | (with_reducible first | refine jn_in ?_ | refine cl_ok (by assumption) rfl ?_ | refine cl_okP (by assumption) rfl ?_ | refine br_if (fun hbr => ?_) fun hbr => ?_ | refine br_ifn (fun hbr => ?_) fun hbr => ?_ | refine br_nb (fun hbr => ?_) fun hbr => ?_ | refine br_b (fun hbr => ?_) fun hbr => ?_) | simp (disch := first | omega | (simp only [length_take, length_drop, length_append, map_cons, map_nil, length_map, length_cons, length_nil, length_set, length_replicate]; omega) | (simp only [length_cons, length_nil, Nat.zero_add, Nat.reduceAdd])) only [go_sem, ↓reduceIte, Nat.reduceAdd, Int.reduceNeg, Int.reduceAdd, Int.reduceSub, Int.reduceMul, Int.reduceLT, Int.reduceLE, Int.reduceEq, Int.reduceToNat, Nat.reduceBEq, nat1, hix])
      all_goals first | omega | exact ret_z (szF_gt (by omega)) | exact ⟨i + 1, by congr 4; omega, ⟨by omega, by omega⟩, by omega⟩
    · have hs1 := szF_gt (left := left - (l.length : Int) - (sumBy wtEnv (l.take i) : Nat)) (wt := wx) (by omega)
      rw [hs1] at hc
      repeat' (first | (with_reducible first | refine jn_in ?_ | refine cl_ok (by assumption) rfl ?_ | refine cl_okP (by assumption) rfl ?_ | refine br_if (fun hbr => ?_) fun hbr => ?_ | refine br_ifn (fun hbr => ?_) fun hbr => ?_ | refine br_nb (fun hbr => ?_) fun hbr => ?_ | refine br_b (fun hbr => ?_) fun hbr => ?_) | simp (disch := first | omega | (simp only [length_take, length_drop, length_append, map_cons, map_nil, length_map, length_cons, length_nil, length_set, length_replicate]; omega) | (simp only [length_cons, length_nil, Nat.zero_add, Nat.reduceAdd])) only [go_sem, ↓reduceIte, Nat.reduceAdd, Int.reduceNeg, Int.reduceAdd, Int.reduceSub, Int.reduceMul, Int.reduceLT, Int.reduceLE, Int.reduceEq, Int.reduceToNat, Nat.reduceBEq, nat1, hix])
      all_goals first | omega | exact ret_z (szF_gt (by omega))
  · obtain rfl : i = l.length := by omega
    rw [List.take_length] at hs ⊢
    repeat' (first | (with_reducible first | refine jn_in ?_ | refine cl_ok (by assumption) rfl ?_ | refine cl_okP (by assumption) rfl ?_ | refine br_if (fun hbr => ?_) fun hbr => ?_ | refine br_ifn (fun hbr => ?_) fun hbr => ?_ | refine br_nb (fun hbr => ?_) fun hbr => ?_ | refine br_b (fun hbr => ?_) fun hbr => ?_) | simp (disch := first | omega | (simp only [length_take, length_drop, length_append, map_cons, map_nil, length_map, length_cons, length_nil, length_set, length_replicate]; omega) | (simp only [length_cons, length_nil, Nat.zero_add, Nat.reduceAdd])) only [go_sem, ↓reduceIte, Nat.reduceAdd, Int.reduceNeg, Int.reduceAdd, Int.reduceSub, Int.reduceMul, Int.reduceLT, Int.reduceLE, Int.reduceEq, Int.reduceToNat, Nat.reduceBEq, nat1, true_and])
    all_goals first | omega | exact ret_z (by rw [szF_le (by omega)]; omega)
theorem toEnv_m (x : Env) (hw : wtEnv x ≤ 1048576) : Meets Try.prog 29 [(true, encEnvL x)] [(true, encEnv x, true)] := by
  obtain ⟨x0, x1, x2, x3⟩ := x
  have hwt : wtEnv ⟨x0, x1, x2, x3⟩ = wtSs x2 + wtSlos x3 := rfl
  rw [hwt] at hw; clear hwt
  have c2 := toSs_m x2 (wtSs_len (n := 1048576) (by omega))
  have c3 := toSlos_m x3 (by omega)
  clear hw
  simp only [encEnv, encEnvL, encSlos, encSlosL, encVL, encV, encV_mk, encSs, encZs, List.cons_append, List.nil_append, List.append_nil] at c2 c3 ⊢
  refine meets_upf Try.func29 u_laws_toEnv_g rfl ?_; simp only [u_laws_toEnv_u]
  repeat' (first | (with_reducible first | refine jn_in ?_ | refine cl_ok (by assumption) rfl ?_ | refine cl_okP (by assumption) rfl ?_ | refine br_if (fun hbr => ?_) fun hbr => ?_ | refine br_ifn (fun hbr => ?_) fun hbr => ?_ | refine br_nb (fun hbr => ?_) fun hbr => ?_ | refine br_b (fun hbr => ?_) fun hbr => ?_) | simp (disch := first | omega | (simp only [length_take, length_drop, length_append, map_cons, map_nil, length_map, length_cons, length_nil, length_set, length_replicate]; omega) | (simp only [length_cons, length_nil, Nat.zero_add, Nat.reduceAdd])) only [go_sem, ↓reduceIte, Nat.reduceAdd, Int.reduceNeg, Int.reduceAdd, Int.reduceSub, Int.reduceMul, Int.reduceLT, Int.reduceLE, Int.reduceEq, Int.reduceToNat, Nat.reduceBEq, nat1, true_and])
  all_goals rfl
def zEnv : List DV := [.sc (.bool false), .sc (.int .i64 0), .sl 0 1 [], .sl 0 1 []]
theorem toEnvs_m (l : List Env) (h : wtEnvs l ≤ 1048576) : Meets Try.prog 15 [(false, [encEnvsL l])] [(false, [encEnvs l], true)] := by
  have hl : l.length ≤ 1048576 := by unfold wtEnvs at h; omega
  have hz : ∀ x ∈ l, wtEnv x ≤ 1048576 := fun x hx => by have := sumBy_mem wtEnv hx; unfold wtEnvs at h; omega
  unfold encEnvs encEnvsL
  refine meets_upf Try.func15 u_laws_toEnvS_g rfl ?_; simp only [u_laws_toEnvS_u]
  have hm := fun b (hb : b ≤ 1000) => e_makeG (e := encEnv) (l := l) (el := 50) (k := 4) (b := b) (zz := zEnv) (by omega) hb
  have hm1 := hm 64 (by decide)
  unfold zEnv at hm1
  simp (disch := first | omega | (simp only [length_take, length_drop, length_append, map_cons, map_nil, length_map, length_cons, length_nil, length_set, length_replicate]; omega) | (simp only [length_cons, length_nil, Nat.zero_add, Nat.reduceAdd])) only [go_sem, ↓reduceIte, Nat.reduceAdd, Int.reduceNeg, Int.reduceAdd, Int.reduceSub, Int.reduceMul, Int.reduceLT, Int.reduceLE, Int.reduceEq, Int.reduceToNat, Nat.reduceBEq, nat1, hm1]
  refine lp_n l.length (fun i => [.sc (.int .i64 i), .sl 50 4 (fillL (l.map encEnv) i zEnv)]) rfl fun i hi => ?_
  simp only [u_laws_toEnvS_l0]
  by_cases hlt : i < l.length
  · have e1 := e_chkF (e := encEnv) (t := 50) (k := 4) (kd := .i64) (z := zEnv) hlt
    have hc := toEnv_m _ (hz _ (getD_mem hlt))
    have hix : eIdx 4 (some (.sl 59 4 (l.map encEnvL))) (some (.sc (.int .i64 (i : Int)))) = some (encEnvL (l.getD i default)) := by rw [ix_EnvL (by omega) (by omega), Int.toNat_natCast]
    have e2 : ∀ ds, ds = encEnv (l.getD i default) → eSet 4 0 (some (.sl 50 4 (fillL (l.map encEnv) i zEnv))) (some (.sc (.int .i64 (i : Int)))) (some ds) = some [.sl 50 4 (fillL (l.map encEnv) (i + 1) zEnv)] := fun ds hd => e_fill (e := encEnv) hd rfl encEnv_len hlt
    generalize l.getD i default = x at hc hix e2
    obtain ⟨x0, x1, x2, x3⟩ := x
    have e3 := e2 _ rfl
    simp only [encEnv, encEnvL, encSlos, encSlosL, encVL, encV, encV_mk, encSs, encZs, List.cons_append, List.nil_append, List.append_nil] at hc hix e3 e1
    repeat' (first | (with_reducible first | refine jn_in ?_ | refine cl_ok (by assumption) rfl ?_ | refine cl_okP (by assumption) rfl ?_ | refine br_if (fun hbr => ?_) fun hbr => ?_ | refine br_ifn (fun hbr => ?_) fun hbr => ?_ | refine br_nb (fun hbr => ?_) fun hbr => ?_ | refine br_b (fun hbr => ?_) fun hbr => ?_) | simp (disch := first | omega | (simp only [length_take, length_drop, length_append, map_cons, map_nil, length_map, length_cons, length_nil, length_set, length_replicate]; omega) | (simp only [length_cons, length_nil, Nat.zero_add, Nat.reduceAdd])) only [go_sem, ↓reduceIte, Nat.reduceAdd, Int.reduceNeg, Int.reduceAdd, Int.reduceSub, Int.reduceMul, Int.reduceLT, Int.reduceLE, Int.reduceEq, Int.reduceToNat, Nat.reduceBEq, nat1, e1, e3, hix])
    all_goals first | omega | exact ⟨rfl, by omega⟩
  · obtain rfl : i = l.length := by omega
    repeat' (first | (with_reducible first | refine jn_in ?_ | refine cl_ok (by assumption) rfl ?_ | refine cl_okP (by assumption) rfl ?_ | refine br_if (fun hbr => ?_) fun hbr => ?_ | refine br_ifn (fun hbr => ?_) fun hbr => ?_ | refine br_nb (fun hbr => ?_) fun hbr => ?_ | refine br_b (fun hbr => ?_) fun hbr => ?_) | simp (disch := first | omega | (simp only [length_take, length_drop, length_append, map_cons, map_nil, length_map, length_cons, length_nil, length_set, length_replicate]; omega) | (simp only [length_cons, length_nil, Nat.zero_add, Nat.reduceAdd])) only [go_sem, ↓reduceIte, Nat.reduceAdd, Int.reduceNeg, Int.reduceAdd, Int.reduceSub, Int.reduceMul, Int.reduceLT, Int.reduceLE, Int.reduceEq, Int.reduceToNat, Nat.reduceBEq, nat1, fillL_endm])
    all_goals first | omega | rfl
theorem eqEnv_m (x : Env) (hw : wtEnv x ≤ 1000000000) : Meets Try.prog 37 [(true, encEnv x), (true, encEnv x)] [(false, [.sc (.bool true)], true)] := by
  obtain ⟨x0, x1, x2, x3⟩ := x
  have hwt : wtEnv ⟨x0, x1, x2, x3⟩ = wtSs x2 + wtSlos x3 := rfl
  rw [hwt] at hw; clear hwt
  have c2 := eqSs_m x2 (wtSs_len (n := 100000000000) (by omega))
  have c3 := eqSlos_m x3 (by omega)
  clear hw
  simp only [encEnv, encEnvL, encSlos, encSlosL, encVL, encV, encV_mk, encSs, encZs, List.cons_append, List.nil_append, List.append_nil] at c2 c3 ⊢
  refine meets_upf Try.func37 u_laws_eqEnv_g rfl ?_; simp only [u_laws_eqEnv_u]
  repeat' (first | (with_reducible first | refine jn_in ?_ | refine cl_ok (by assumption) rfl ?_ | refine cl_okP (by assumption) rfl ?_ | refine br_if (fun hbr => ?_) fun hbr => ?_ | refine br_ifn (fun hbr => ?_) fun hbr => ?_ | refine br_nb (fun hbr => ?_) fun hbr => ?_ | refine br_b (fun hbr => ?_) fun hbr => ?_) | simp (disch := first | omega | (simp only [length_take, length_drop, length_append, map_cons, map_nil, length_map, length_cons, length_nil, length_set, length_replicate]; omega) | (simp only [length_cons, length_nil, Nat.zero_add, Nat.reduceAdd])) only [go_sem, ↓reduceIte, Nat.reduceAdd, Int.reduceNeg, Int.reduceAdd, Int.reduceSub, Int.reduceMul, Int.reduceLT, Int.reduceLE, Int.reduceEq, Int.reduceToNat, Nat.reduceBEq, nat1, eq_self])
  all_goals rfl
theorem eqEnvs_m (l : List Env) (h : wtEnvs l ≤ 1000000000) : Meets Try.prog 19 [(false, [encEnvs l]), (false, [encEnvs l])] [(false, [.sc (.bool true)], true)] := by
  have hl : l.length ≤ 1000000000 := by unfold wtEnvs at h; omega
  have hz : ∀ x ∈ l, wtEnv x ≤ 1000000000 := fun x hx => by have := sumBy_mem wtEnv hx; unfold wtEnvs at h; omega
  unfold encEnvs
  refine meets_upf Try.func19 u_laws_eqEnvS_g rfl ?_; simp only [u_laws_eqEnvS_u]
  simp (disch := first | omega | (simp only [length_take, length_drop, length_append, map_cons, map_nil, length_map, length_cons, length_nil, length_set, length_replicate]; omega) | (simp only [length_cons, length_nil, Nat.zero_add, Nat.reduceAdd])) only [go_sem, ↓reduceIte, Nat.reduceAdd, Int.reduceNeg, Int.reduceAdd, Int.reduceSub, Int.reduceMul, Int.reduceLT, Int.reduceLE, Int.reduceEq, Int.reduceToNat, Nat.reduceBEq, nat1, eq_self]
  refine lp_n l.length (fun i => [.sc (.int .i64 i)]) rfl fun i hi => ?_
  simp only [u_laws_eqEnvS_l0]
  by_cases hlt : i < l.length
  · have hc := eqEnv_m _ (hz _ (getD_mem hlt))
    have hix : eIdx 4 (some (.sl 50 4 (l.map encEnv))) (some (.sc (.int .i64 (i : Int)))) = some (encEnv (l.getD i default)) := by rw [ix_Env (by omega) (by omega), Int.toNat_natCast]
    generalize l.getD i default = x at hc hix
    obtain ⟨x0, x1, x2, x3⟩ := x
    simp only [encEnv, encEnvL, encSlos, encSlosL, encVL, encV, encV_mk, encSs, encZs, List.cons_append, List.nil_append, List.append_nil] at hc hix
    repeat' (first | (with_reducible first | refine jn_in ?_ | refine cl_ok (by assumption) rfl ?_ | refine cl_okP (by assumption) rfl ?_ | refine br_if (fun hbr => ?_) fun hbr => ?_ | refine br_ifn (fun hbr => ?_) fun hbr => ?_ | refine br_nb (fun hbr => ?_) fun hbr => ?_ | refine br_b (fun hbr => ?_) fun hbr => ?_) | simp (disch := first | omega | (simp only [length_take, length_drop, length_append, map_cons, map_nil, length_map, length_cons, length_nil, length_set, length_replicate]; omega) | (simp only [length_cons, length_nil, Nat.zero_add, Nat.reduceAdd])) only [go_sem, ↓reduceIte, Nat.reduceAdd, Int.reduceNeg, Int.reduceAdd, Int.reduceSub, Int.reduceMul, Int.reduceLT, Int.reduceLE, Int.reduceEq, Int.reduceToNat, Nat.reduceBEq, nat1, hix])
    all_goals first | omega | exact ⟨rfl, by omega⟩
  · obtain rfl : i = l.length := by omega
    repeat' (first | (with_reducible first | refine jn_in ?_ | refine cl_ok (by assumption) rfl ?_ | refine cl_okP (by assumption) rfl ?_ | refine br_if (fun hbr => ?_) fun hbr => ?_ | refine br_ifn (fun hbr => ?_) fun hbr => ?_ | refine br_nb (fun hbr => ?_) fun hbr => ?_ | refine br_b (fun hbr => ?_) fun hbr => ?_) | simp (disch := first | omega | (simp only [length_take, length_drop, length_append, map_cons, map_nil, length_map, length_cons, length_nil, length_set, length_replicate]; omega) | (simp only [length_cons, length_nil, Nat.zero_add, Nat.reduceAdd])) only [go_sem, ↓reduceIte, Nat.reduceAdd, Int.reduceNeg, Int.reduceAdd, Int.reduceSub, Int.reduceMul, Int.reduceLT, Int.reduceLE, Int.reduceEq, Int.reduceToNat, Nat.reduceBEq, nat1, true_and])
    all_goals first | omega | rfl
structure Pro where
  used : Bool
  code : Int
  env : Int
  state : Int
  value : Vec
instance : Inhabited Pro := ⟨⟨default, default, default, default, default⟩⟩
def encPro (x : Pro) : List DV := [.sc (.bool x.used)] ++ ([.sc (.int .i64 x.code)] ++ ([.sc (.int .i64 x.env)] ++ ([.sc (.int .i64 x.state)] ++ (encV x.value ++ ([])))))
def encPros (l : List Pro) : DV := .sl 44 12 (l.map encPro)
theorem encPro_len (x : Pro) : (encPro x).length = 12 := by simp [encPro, encVt_len]
theorem ix_Pro {t : Nat} {l : List Pro} {kd : IntKind} {z : Int} (h : 0 ≤ z) (h1 : z < l.length) : eIdx 12 (some (.sl t 12 (l.map encPro))) (some (.sc (.int kd z))) = some (encPro (l.getD z.toNat default)) := e_idx_map encPro_len h h1
def encProL (x : Pro) : List DV := [.sc (.bool x.used)] ++ ([.sc (.int .i64 x.code)] ++ ([.sc (.int .i64 x.env)] ++ ([.sc (.int .i64 x.state)] ++ (encVL x.value ++ ([])))))
def encProsL (l : List Pro) : DV := .sl 66 12 (l.map encProL)
theorem encProL_len (x : Pro) : (encProL x).length = 12 := by simp [encProL, encVt_len]
theorem ix_ProL {t : Nat} {l : List Pro} {kd : IntKind} {z : Int} (h : 0 ≤ z) (h1 : z < l.length) : eIdx 12 (some (.sl t 12 (l.map encProL))) (some (.sc (.int kd z))) = some (encProL (l.getD z.toNat default)) := e_idx_map encProL_len h h1
def wtPro (x : Pro) : Nat := wtV x.value
def OkPro (x : Pro) : Prop := True ∧ In64 x.code ∧ In64 x.env ∧ In64 x.state ∧ OkVec x.value
def wtPros (l : List Pro) : Nat := l.length + sumBy wtPro l
def OkPros (l : List Pro) : Prop := l.length ≤ 9223372036854775807 ∧ ∀ x ∈ l, OkPro x
theorem opD_Pro : OpD encProL OkPro Try.prog 66 := by
  intro H enc w base spare held fuel cs x h
  obtain ⟨hl, n, hf⟩ := open_flds Try.underlying66 h
  obtain ⟨y0, t0⟩ := hf 0 _ rfl
  obtain ⟨a0, r0, i0⟩ := opD_bool Try.underlying4 H enc w base spare held n _ _ t0
  obtain ⟨y1, t1⟩ := hf 1 _ rfl
  obtain ⟨a1, r1, i1⟩ := opD_int Try.underlying3 H enc w base spare held n _ _ t1
  obtain ⟨y2, t2⟩ := hf 2 _ rfl
  obtain ⟨a2, r2, i2⟩ := opD_int Try.underlying3 H enc w base spare held n _ _ t2
  obtain ⟨y3, t3⟩ := hf 3 _ rfl
  obtain ⟨a3, r3, i3⟩ := opD_int Try.underlying3 H enc w base spare held n _ _ t3
  obtain ⟨y4, t4⟩ := hf 4 _ rfl
  obtain ⟨a4, r4, i4⟩ := opD_Vec H enc w base spare held n _ _ t4
  exact ⟨⟨a0, a1, a2, a3, a4⟩, repl_cut (o := 0) (k := 1) (repl_at r0 rfl (by kernel_rfl)) (repl_cut (o := 1) (k := 1) (repl_at r1 rfl (by kernel_rfl)) (repl_cut (o := 2) (k := 1) (repl_at r2 rfl (by kernel_rfl)) (repl_cut (o := 3) (k := 1) (repl_at r3 rfl (by kernel_rfl)) (repl_cut (o := 4) (k := 8) (repl_at r4 rfl (by kernel_rfl)) (repl_end hl (by kernel_rfl)))))), i0, i1, i2, i3, i4⟩
theorem opD_Pros : OpD (fun l => [encProsL l]) OkPros Try.prog 23 := opD_slice (e := encProL) 66 Try.underlying23 (by kernel_rfl) (by decide) encProL_len opD_Pro
set_option maxHeartbeats 1000000 in
theorem szPro_m (x : Pro) (left : Int) (ok : OkPro x) (h0 : 0 ≤ left) (h1 : left ≤ 1048576) : Meets Try.prog 22 [(true, encProL x), (false, [.sc (.int .i64 left)])] [(false, [.sc (.int .i64 (szF left (wtPro x)))], true)] := by
  obtain ⟨x0, x1, x2, x3, x4⟩ := x
  obtain ⟨k0, k1, k2, k3, k4⟩ := ok
  simp only at k1 k2 k3 k4
  have hwt : wtPro ⟨x0, x1, x2, x3, x4⟩ = wtV x4 := rfl
  rw [hwt]; clear hwt
  have c4 := fun (left : Int) (h0 : 0 ≤ left) (h1 : left ≤ 1048576) => szV_m x4 left k4 h0 h1
  generalize wtV x4 = w4 at *
  obtain ⟨v0, v1, v2, v3, v4, v5, v6, v7⟩ := x4
  simp only [encPro, encProL, encVL, encV, encV_mk, encSs, encZs, List.cons_append, List.nil_append, List.append_nil] at c4 ⊢
  refine meets_upf Try.func22 u_laws_szPromise_g rfl ?_; simp only [u_laws_szPromise_u]
  simp (disch := first | omega | (simp only [length_take, length_drop, length_append, map_cons, map_nil, length_map, length_cons, length_nil, length_set, length_replicate]; omega) | (simp only [length_cons, length_nil, Nat.zero_add, Nat.reduceAdd])) only [go_sem, ↓reduceIte, Nat.reduceAdd, Int.reduceNeg, Int.reduceAdd, Int.reduceSub, Int.reduceMul, Int.reduceLT, Int.reduceLE, Int.reduceEq, Int.reduceToNat, Nat.reduceBEq, nat1, true_and]
  refine cl_ok (c4 left (by omega) (by omega)) rfl ?_
  by_cases hw4 : ((w4 : Nat) : Int) ≤ left
  rotate_left
  · have hs := szF_gt (left := left) (wt := w4) (by omega)
    simp (disch := first | omega | (simp only [length_take, length_drop, length_append, map_cons, map_nil, length_map, length_cons, length_nil, length_set, length_replicate]; omega) | (simp only [length_cons, length_nil, Nat.zero_add, Nat.reduceAdd])) only [go_sem, ↓reduceIte, Nat.reduceAdd, Int.reduceNeg, Int.reduceAdd, Int.reduceSub, Int.reduceMul, Int.reduceLT, Int.reduceLE, Int.reduceEq, Int.reduceToNat, Nat.reduceBEq, nat1, hs]
    first | exact ret_z rfl | exact ret_z (szF_gt (by omega))
  have e4 := szF_le hw4
  have d4 : decide (left - ((w4 : Nat) : Int) < 0) = false := decide_eq_false (by omega)
  simp (disch := first | omega | (simp only [length_take, length_drop, length_append, map_cons, map_nil, length_map, length_cons, length_nil, length_set, length_replicate]; omega) | (simp only [length_cons, length_nil, Nat.zero_add, Nat.reduceAdd])) only [go_sem, ↓reduceIte, Nat.reduceAdd, Int.reduceNeg, Int.reduceAdd, Int.reduceSub, Int.reduceMul, Int.reduceLT, Int.reduceLE, Int.reduceEq, Int.reduceToNat, Nat.reduceBEq, nat1, e4, d4]
  first | exact ret_z rfl | exact ret_z (by rw [szF_le (by omega)]; omega)
set_option maxHeartbeats 1000000 in
theorem szPros_m (l : List Pro) (left : Int) (ok : OkPros l) (h0 : 0 ≤ left) (h1 : left ≤ 1048576) :
    Meets Try.prog 10 [(false, [encProsL l]), (false, [.sc (.int .i64 left)])] [(false, [.sc (.int .i64 (szF left (wtPros l)))], true)] := by
  obtain ⟨k1, k2⟩ := ok
  unfold wtPros encProsL
  refine meets_upf Try.func10 u_laws_szPromiseS_g rfl ?_; simp only [u_laws_szPromiseS_u]
  simp (disch := first | omega | (simp only [length_take, length_drop, length_append, map_cons, map_nil, length_map, length_cons, length_nil, length_set, length_replicate]; omega) | (simp only [length_cons, length_nil, Nat.zero_add, Nat.reduceAdd])) only [go_sem, ↓reduceIte, Nat.reduceAdd, Int.reduceNeg, Int.reduceAdd, Int.reduceSub, Int.reduceMul, Int.reduceLT, Int.reduceLE, Int.reduceEq, Int.reduceToNat, Nat.reduceBEq, nat1, true_and]
  refine br_if (fun hbr => ?_) (fun hbr => ?_)
  · simp (disch := first | omega | (simp only [length_take, length_drop, length_append, map_cons, map_nil, length_map, length_cons, length_nil, length_set, length_replicate]; omega) | (simp only [length_cons, length_nil, Nat.zero_add, Nat.reduceAdd])) only [go_sem, ↓reduceIte, Nat.reduceAdd, Int.reduceNeg, Int.reduceAdd, Int.reduceSub, Int.reduceMul, Int.reduceLT, Int.reduceLE, Int.reduceEq, Int.reduceToNat, Nat.reduceBEq, nat1, true_and]
    exact ret_z (szF_gt (by omega))
  simp (disch := first | omega | (simp only [length_take, length_drop, length_append, map_cons, map_nil, length_map, length_cons, length_nil, length_set, length_replicate]; omega) | (simp only [length_cons, length_nil, Nat.zero_add, Nat.reduceAdd])) only [go_sem, ↓reduceIte, Nat.reduceAdd, Int.reduceNeg, Int.reduceAdd, Int.reduceSub, Int.reduceMul, Int.reduceLT, Int.reduceLE, Int.reduceEq, Int.reduceToNat, Nat.reduceBEq, nat1, true_and]
  refine lp (fun i : Nat => [.sc (.int .i64 i), .sc (.int .i64 (left - (l.length : Int) - (sumBy wtPro (l.take i) : Nat)))]) (fun i => i ≤ l.length ∧ (sumBy wtPro (l.take i) : Nat) ≤ left - (l.length : Int)) (fun i => l.length - i) 0 (by simp [gL, sumBy]) ⟨by omega, by simp [sumBy]; omega⟩ ?_
  rintro i ⟨hi, hs⟩
  simp only [u_laws_szPromiseS_l0]
  by_cases hlt : i < l.length
  · have h3 := sumBy_succ wtPro hlt
    have h5 := sumBy_le wtPro l (i + 1)
    have hm := getD_mem hlt
    have hix : eIdx 12 (some (.sl 66 12 (l.map encProL))) (some (.sc (.int .i64 (i : Int)))) = some (encProL (l.getD i default)) := by rw [ix_ProL (by omega) (by omega), Int.toNat_natCast]
    generalize l.getD i default = x at h3 hm hix
    have hc := szPro_m x (left - (l.length : Int) - (sumBy wtPro (l.take i) : Nat)) (k2 x hm) (by omega) (by omega)
    generalize wtPro x = wx at *
    obtain ⟨x0, x1, x2, x3, x4⟩ := x
    obtain ⟨v0, v1, v2, v3, v4, v5, v6, v7⟩ := x4
    simp only [encPro, encProL, encVL, encV, encV_mk, encSs, encZs, List.cons_append, List.nil_append, List.append_nil] at hc hix
    by_cases hw : (wx : Int) ≤ left - (l.length : Int) - (sumBy wtPro (l.take i) : Nat)
    · have hs1 := szF_le hw
      rw [hs1] at hc
      repeat' (first | (with_reducible first | refine jn_in ?_ | refine cl_ok (by assumption) rfl ?_ | refine cl_okP (by assumption) rfl ?_ | refine br_if (fun hbr => ?_) fun hbr => ?_ | refine br_ifn (fun hbr => ?_) fun hbr => ?_ | refine br_nb (fun hbr => ?_) fun hbr => ?_ | refine br_b (fun hbr => ?_) fun hbr => ?_) | simp (disch := first | omega | (simp only [length_take, length_drop, length_append, map_cons, map_nil, length_map, length_cons, length_nil, length_set, length_replicate]; omega) | (simp only [length_cons, length_nil, Nat.zero_add, Nat.reduceAdd])) only [go_sem, ↓reduceIte, Nat.reduceAdd, Int.reduceNeg, Int.reduceAdd, Int.reduceSub, Int.reduceMul, Int.reduceLT, Int.reduceLE, Int.reduceEq, Int.reduceToNat, Nat.reduceBEq, nat1, hix])
      all_goals first | omega | exact ret_z (szF_gt (by omega)) | exact ⟨i + 1, by congr 4; omega, ⟨by omega, by omega⟩, by omega⟩
    · have hs1 := szF_gt (left := left - (l.length : Int) - (sumBy wtPro (l.take i) : Nat)) (wt := wx) (by omega)
      rw [hs1] at hc
      repeat' (first | (with_reducible first | refine jn_in ?_ | refine cl_ok (by assumption) rfl ?_ | refine cl_okP (by assumption) rfl ?_ | refine br_if (fun hbr => ?_) fun hbr => ?_ | refine br_ifn (fun hbr => ?_) fun hbr => ?_ | refine br_nb (fun hbr => ?_) fun hbr => ?_ | refine br_b (fun hbr => ?_) fun hbr => ?_) | simp (disch := first | omega | (simp only [length_take, length_drop, length_append, map_cons, map_nil, length_map, length_cons, length_nil, length_set, length_replicate]; omega) | (simp only [length_cons, length_nil, Nat.zero_add, Nat.reduceAdd])) only [go_sem, ↓reduceIte, Nat.reduceAdd, Int.reduceNeg, Int.reduceAdd, Int.reduceSub, Int.reduceMul, Int.reduceLT, Int.reduceLE, Int.reduceEq, Int.reduceToNat, Nat.reduceBEq, nat1, hix])
      all_goals first | omega | exact ret_z (szF_gt (by omega))
  · obtain rfl : i = l.length := by omega
    rw [List.take_length] at hs ⊢
    repeat' (first | (with_reducible first | refine jn_in ?_ | refine cl_ok (by assumption) rfl ?_ | refine cl_okP (by assumption) rfl ?_ | refine br_if (fun hbr => ?_) fun hbr => ?_ | refine br_ifn (fun hbr => ?_) fun hbr => ?_ | refine br_nb (fun hbr => ?_) fun hbr => ?_ | refine br_b (fun hbr => ?_) fun hbr => ?_) | simp (disch := first | omega | (simp only [length_take, length_drop, length_append, map_cons, map_nil, length_map, length_cons, length_nil, length_set, length_replicate]; omega) | (simp only [length_cons, length_nil, Nat.zero_add, Nat.reduceAdd])) only [go_sem, ↓reduceIte, Nat.reduceAdd, Int.reduceNeg, Int.reduceAdd, Int.reduceSub, Int.reduceMul, Int.reduceLT, Int.reduceLE, Int.reduceEq, Int.reduceToNat, Nat.reduceBEq, nat1, true_and])
    all_goals first | omega | exact ret_z (by rw [szF_le (by omega)]; omega)
theorem toPro_m (x : Pro) (hw : wtPro x ≤ 1048576) : Meets Try.prog 30 [(true, encProL x)] [(true, encPro x, true)] := by
  obtain ⟨x0, x1, x2, x3, x4⟩ := x
  have hwt : wtPro ⟨x0, x1, x2, x3, x4⟩ = wtV x4 := rfl
  rw [hwt] at hw; clear hwt
  have c4 := toV_m x4 (by omega)
  clear hw
  obtain ⟨v0, v1, v2, v3, v4, v5, v6, v7⟩ := x4
  simp only [encPro, encProL, encVL, encV, encV_mk, encSs, encZs, List.cons_append, List.nil_append, List.append_nil] at c4 ⊢
  refine meets_upf Try.func30 u_laws_toPromise_g rfl ?_; simp only [u_laws_toPromise_u]
  repeat' (first | (with_reducible first | refine jn_in ?_ | refine cl_ok (by assumption) rfl ?_ | refine cl_okP (by assumption) rfl ?_ | refine br_if (fun hbr => ?_) fun hbr => ?_ | refine br_ifn (fun hbr => ?_) fun hbr => ?_ | refine br_nb (fun hbr => ?_) fun hbr => ?_ | refine br_b (fun hbr => ?_) fun hbr => ?_) | simp (disch := first | omega | (simp only [length_take, length_drop, length_append, map_cons, map_nil, length_map, length_cons, length_nil, length_set, length_replicate]; omega) | (simp only [length_cons, length_nil, Nat.zero_add, Nat.reduceAdd])) only [go_sem, ↓reduceIte, Nat.reduceAdd, Int.reduceNeg, Int.reduceAdd, Int.reduceSub, Int.reduceMul, Int.reduceLT, Int.reduceLE, Int.reduceEq, Int.reduceToNat, Nat.reduceBEq, nat1, true_and])
  all_goals rfl
def zPro : List DV := [.sc (.bool false), .sc (.int .i64 0), .sc (.int .i64 0), .sc (.int .i64 0), .sc (.int .i64 0), .sl 0 1 [], .sl 0 1 [], .sl 0 1 [], .sl 0 1 [], .sl 0 1 [], .sc (.int .i64 0), .sc (.int .i64 0)]
theorem toPros_m (l : List Pro) (h : wtPros l ≤ 1048576) : Meets Try.prog 16 [(false, [encProsL l])] [(false, [encPros l], true)] := by
  have hl : l.length ≤ 1048576 := by unfold wtPros at h; omega
  have hz : ∀ x ∈ l, wtPro x ≤ 1048576 := fun x hx => by have := sumBy_mem wtPro hx; unfold wtPros at h; omega
  unfold encPros encProsL
  refine meets_upf Try.func16 u_laws_toPromiseS_g rfl ?_; simp only [u_laws_toPromiseS_u]
  have hm := fun b (hb : b ≤ 1000) => e_makeG (e := encPro) (l := l) (el := 44) (k := 12) (b := b) (zz := zPro) (by omega) hb
  have hm1 := hm 176 (by decide)
  unfold zPro at hm1
  simp (disch := first | omega | (simp only [length_take, length_drop, length_append, map_cons, map_nil, length_map, length_cons, length_nil, length_set, length_replicate]; omega) | (simp only [length_cons, length_nil, Nat.zero_add, Nat.reduceAdd])) only [go_sem, ↓reduceIte, Nat.reduceAdd, Int.reduceNeg, Int.reduceAdd, Int.reduceSub, Int.reduceMul, Int.reduceLT, Int.reduceLE, Int.reduceEq, Int.reduceToNat, Nat.reduceBEq, nat1, hm1]
  refine lp_n l.length (fun i => [.sc (.int .i64 i), .sl 44 12 (fillL (l.map encPro) i zPro)]) rfl fun i hi => ?_
  simp only [u_laws_toPromiseS_l0]
  by_cases hlt : i < l.length
  · have e1 := e_chkF (e := encPro) (t := 44) (k := 12) (kd := .i64) (z := zPro) hlt
    have hc := toPro_m _ (hz _ (getD_mem hlt))
    have hix : eIdx 12 (some (.sl 66 12 (l.map encProL))) (some (.sc (.int .i64 (i : Int)))) = some (encProL (l.getD i default)) := by rw [ix_ProL (by omega) (by omega), Int.toNat_natCast]
    have e2 : ∀ ds, ds = encPro (l.getD i default) → eSet 12 0 (some (.sl 44 12 (fillL (l.map encPro) i zPro))) (some (.sc (.int .i64 (i : Int)))) (some ds) = some [.sl 44 12 (fillL (l.map encPro) (i + 1) zPro)] := fun ds hd => e_fill (e := encPro) hd rfl encPro_len hlt
    generalize l.getD i default = x at hc hix e2
    obtain ⟨x0, x1, x2, x3, x4⟩ := x
    obtain ⟨v0, v1, v2, v3, v4, v5, v6, v7⟩ := x4
    have e3 := e2 _ rfl
    simp only [encPro, encProL, encVL, encV, encV_mk, encSs, encZs, List.cons_append, List.nil_append, List.append_nil] at hc hix e3 e1
    repeat' (first | (with_reducible first | refine jn_in ?_ | refine cl_ok (by assumption) rfl ?_ | refine cl_okP (by assumption) rfl ?_ | refine br_if (fun hbr => ?_) fun hbr => ?_ | refine br_ifn (fun hbr => ?_) fun hbr => ?_ | refine br_nb (fun hbr => ?_) fun hbr => ?_ | refine br_b (fun hbr => ?_) fun hbr => ?_) | simp (disch := first | omega | (simp only [length_take, length_drop, length_append, map_cons, map_nil, length_map, length_cons, length_nil, length_set, length_replicate]; omega) | (simp only [length_cons, length_nil, Nat.zero_add, Nat.reduceAdd])) only [go_sem, ↓reduceIte, Nat.reduceAdd, Int.reduceNeg, Int.reduceAdd, Int.reduceSub, Int.reduceMul, Int.reduceLT, Int.reduceLE, Int.reduceEq, Int.reduceToNat, Nat.reduceBEq, nat1, e1, e3, hix])
    all_goals first | omega | exact ⟨rfl, by omega⟩
  · obtain rfl : i = l.length := by omega
    repeat' (first | (with_reducible first | refine jn_in ?_ | refine cl_ok (by assumption) rfl ?_ | refine cl_okP (by assumption) rfl ?_ | refine br_if (fun hbr => ?_) fun hbr => ?_ | refine br_ifn (fun hbr => ?_) fun hbr => ?_ | refine br_nb (fun hbr => ?_) fun hbr => ?_ | refine br_b (fun hbr => ?_) fun hbr => ?_) | simp (disch := first | omega | (simp only [length_take, length_drop, length_append, map_cons, map_nil, length_map, length_cons, length_nil, length_set, length_replicate]; omega) | (simp only [length_cons, length_nil, Nat.zero_add, Nat.reduceAdd])) only [go_sem, ↓reduceIte, Nat.reduceAdd, Int.reduceNeg, Int.reduceAdd, Int.reduceSub, Int.reduceMul, Int.reduceLT, Int.reduceLE, Int.reduceEq, Int.reduceToNat, Nat.reduceBEq, nat1, fillL_endm])
    all_goals first | omega | rfl
theorem eqPro_m (x : Pro) (hw : wtPro x ≤ 1000000000) : Meets Try.prog 38 [(true, encPro x), (true, encPro x)] [(false, [.sc (.bool true)], true)] := by
  obtain ⟨x0, x1, x2, x3, x4⟩ := x
  have hwt : wtPro ⟨x0, x1, x2, x3, x4⟩ = wtV x4 := rfl
  rw [hwt] at hw; clear hwt
  have c4 := eqV_m x4 (by omega)
  clear hw
  obtain ⟨v0, v1, v2, v3, v4, v5, v6, v7⟩ := x4
  simp only [encPro, encProL, encVL, encV, encV_mk, encSs, encZs, List.cons_append, List.nil_append, List.append_nil] at c4 ⊢
  refine meets_upf Try.func38 u_laws_eqPromise_g rfl ?_; simp only [u_laws_eqPromise_u]
  repeat' (first | (with_reducible first | refine jn_in ?_ | refine cl_ok (by assumption) rfl ?_ | refine cl_okP (by assumption) rfl ?_ | refine br_if (fun hbr => ?_) fun hbr => ?_ | refine br_ifn (fun hbr => ?_) fun hbr => ?_ | refine br_nb (fun hbr => ?_) fun hbr => ?_ | refine br_b (fun hbr => ?_) fun hbr => ?_) | simp (disch := first | omega | (simp only [length_take, length_drop, length_append, map_cons, map_nil, length_map, length_cons, length_nil, length_set, length_replicate]; omega) | (simp only [length_cons, length_nil, Nat.zero_add, Nat.reduceAdd])) only [go_sem, ↓reduceIte, Nat.reduceAdd, Int.reduceNeg, Int.reduceAdd, Int.reduceSub, Int.reduceMul, Int.reduceLT, Int.reduceLE, Int.reduceEq, Int.reduceToNat, Nat.reduceBEq, nat1, eq_self])
  all_goals rfl
theorem eqPros_m (l : List Pro) (h : wtPros l ≤ 1000000000) : Meets Try.prog 20 [(false, [encPros l]), (false, [encPros l])] [(false, [.sc (.bool true)], true)] := by
  have hl : l.length ≤ 1000000000 := by unfold wtPros at h; omega
  have hz : ∀ x ∈ l, wtPro x ≤ 1000000000 := fun x hx => by have := sumBy_mem wtPro hx; unfold wtPros at h; omega
  unfold encPros
  refine meets_upf Try.func20 u_laws_eqPromiseS_g rfl ?_; simp only [u_laws_eqPromiseS_u]
  simp (disch := first | omega | (simp only [length_take, length_drop, length_append, map_cons, map_nil, length_map, length_cons, length_nil, length_set, length_replicate]; omega) | (simp only [length_cons, length_nil, Nat.zero_add, Nat.reduceAdd])) only [go_sem, ↓reduceIte, Nat.reduceAdd, Int.reduceNeg, Int.reduceAdd, Int.reduceSub, Int.reduceMul, Int.reduceLT, Int.reduceLE, Int.reduceEq, Int.reduceToNat, Nat.reduceBEq, nat1, eq_self]
  refine lp_n l.length (fun i => [.sc (.int .i64 i)]) rfl fun i hi => ?_
  simp only [u_laws_eqPromiseS_l0]
  by_cases hlt : i < l.length
  · have hc := eqPro_m _ (hz _ (getD_mem hlt))
    have hix : eIdx 12 (some (.sl 44 12 (l.map encPro))) (some (.sc (.int .i64 (i : Int)))) = some (encPro (l.getD i default)) := by rw [ix_Pro (by omega) (by omega), Int.toNat_natCast]
    generalize l.getD i default = x at hc hix
    obtain ⟨x0, x1, x2, x3, x4⟩ := x
    obtain ⟨v0, v1, v2, v3, v4, v5, v6, v7⟩ := x4
    simp only [encPro, encProL, encVL, encV, encV_mk, encSs, encZs, List.cons_append, List.nil_append, List.append_nil] at hc hix
    repeat' (first | (with_reducible first | refine jn_in ?_ | refine cl_ok (by assumption) rfl ?_ | refine cl_okP (by assumption) rfl ?_ | refine br_if (fun hbr => ?_) fun hbr => ?_ | refine br_ifn (fun hbr => ?_) fun hbr => ?_ | refine br_nb (fun hbr => ?_) fun hbr => ?_ | refine br_b (fun hbr => ?_) fun hbr => ?_) | simp (disch := first | omega | (simp only [length_take, length_drop, length_append, map_cons, map_nil, length_map, length_cons, length_nil, length_set, length_replicate]; omega) | (simp only [length_cons, length_nil, Nat.zero_add, Nat.reduceAdd])) only [go_sem, ↓reduceIte, Nat.reduceAdd, Int.reduceNeg, Int.reduceAdd, Int.reduceSub, Int.reduceMul, Int.reduceLT, Int.reduceLE, Int.reduceEq, Int.reduceToNat, Nat.reduceBEq, nat1, hix])
    all_goals first | omega | exact ⟨rfl, by omega⟩
  · obtain rfl : i = l.length := by omega
    repeat' (first | (with_reducible first | refine jn_in ?_ | refine cl_ok (by assumption) rfl ?_ | refine cl_okP (by assumption) rfl ?_ | refine br_if (fun hbr => ?_) fun hbr => ?_ | refine br_ifn (fun hbr => ?_) fun hbr => ?_ | refine br_nb (fun hbr => ?_) fun hbr => ?_ | refine br_b (fun hbr => ?_) fun hbr => ?_) | simp (disch := first | omega | (simp only [length_take, length_drop, length_append, map_cons, map_nil, length_map, length_cons, length_nil, length_set, length_replicate]; omega) | (simp only [length_cons, length_nil, Nat.zero_add, Nat.reduceAdd])) only [go_sem, ↓reduceIte, Nat.reduceAdd, Int.reduceNeg, Int.reduceAdd, Int.reduceSub, Int.reduceMul, Int.reduceLT, Int.reduceLE, Int.reduceEq, Int.reduceToNat, Nat.reduceBEq, nat1, true_and])
    all_goals first | omega | rfl
structure Sto where
  envs : List Env
  promises : List Pro
instance : Inhabited Sto := ⟨⟨default, default⟩⟩
def encSto (x : Sto) : List DV := [encEnvs x.envs] ++ ([encPros x.promises])
def encStoL (x : Sto) : List DV := [encEnvsL x.envs] ++ ([encProsL x.promises])
def wtSto (x : Sto) : Nat := wtEnvs x.envs + wtPros x.promises
def OkSto (x : Sto) : Prop := OkEnvs x.envs ∧ OkPros x.promises
theorem opD_Sto : OpD encStoL OkSto Try.prog 25 := by
  intro H enc w base spare held fuel cs x h
  obtain ⟨hl, n, hf⟩ := open_flds Try.underlying25 h
  obtain ⟨y0, t0⟩ := hf 0 _ rfl
  obtain ⟨a0, r0, i0⟩ := opD_Envs H enc w base spare held n _ _ t0
  obtain ⟨y1, t1⟩ := hf 1 _ rfl
  obtain ⟨a1, r1, i1⟩ := opD_Pros H enc w base spare held n _ _ t1
  exact ⟨⟨a0, a1⟩, repl_cut (o := 0) (k := 1) (repl_at r0 rfl (by kernel_rfl)) (repl_cut (o := 1) (k := 1) (repl_at r1 rfl (by kernel_rfl)) (repl_end hl (by kernel_rfl))), i0, i1⟩
set_option maxHeartbeats 1000000 in
theorem szSto_m (x : Sto) (left : Int) (ok : OkSto x) (h0 : 0 ≤ left) (h1 : left ≤ 1048576) : Meets Try.prog 4 [(true, encStoL x), (false, [.sc (.int .i64 left)])] [(false, [.sc (.int .i64 (szF left (wtSto x)))], true)] := by
  obtain ⟨x0, x1⟩ := x
  obtain ⟨k0, k1⟩ := ok
  simp only at k0 k1
  have hwt : wtSto ⟨x0, x1⟩ = wtEnvs x0 + wtPros x1 := rfl
  rw [hwt]; clear hwt
  have c0 := fun (left : Int) (h0 : 0 ≤ left) (h1 : left ≤ 1048576) => szEnvs_m x0 left k0 h0 h1
  generalize wtEnvs x0 = w0 at *
  have c1 := fun (left : Int) (h0 : 0 ≤ left) (h1 : left ≤ 1048576) => szPros_m x1 left k1 h0 h1
  generalize wtPros x1 = w1 at *
  simp only [encSto, encStoL, encEnvs, encEnvsL, encPros, encProsL, encVL, encV, encV_mk, encSs, encZs, List.cons_append, List.nil_append, List.append_nil] at c0 c1 ⊢
  refine meets_upf Try.func4 u_laws_szStore_g rfl ?_; simp only [u_laws_szStore_u]
  simp (disch := first | omega | (simp only [length_take, length_drop, length_append, map_cons, map_nil, length_map, length_cons, length_nil, length_set, length_replicate]; omega) | (simp only [length_cons, length_nil, Nat.zero_add, Nat.reduceAdd])) only [go_sem, ↓reduceIte, Nat.reduceAdd, Int.reduceNeg, Int.reduceAdd, Int.reduceSub, Int.reduceMul, Int.reduceLT, Int.reduceLE, Int.reduceEq, Int.reduceToNat, Nat.reduceBEq, nat1, true_and]
  refine cl_ok (c0 left (by omega) (by omega)) rfl ?_
  by_cases hw0 : ((w0 : Nat) : Int) ≤ left
  rotate_left
  · have hs := szF_gt (left := left) (wt := w0) (by omega)
    simp (disch := first | omega | (simp only [length_take, length_drop, length_append, map_cons, map_nil, length_map, length_cons, length_nil, length_set, length_replicate]; omega) | (simp only [length_cons, length_nil, Nat.zero_add, Nat.reduceAdd])) only [go_sem, ↓reduceIte, Nat.reduceAdd, Int.reduceNeg, Int.reduceAdd, Int.reduceSub, Int.reduceMul, Int.reduceLT, Int.reduceLE, Int.reduceEq, Int.reduceToNat, Nat.reduceBEq, nat1, hs]
    first | exact ret_z rfl | exact ret_z (szF_gt (by omega))
  have e0 := szF_le hw0
  have d0 : decide (left - ((w0 : Nat) : Int) < 0) = false := decide_eq_false (by omega)
  simp (disch := first | omega | (simp only [length_take, length_drop, length_append, map_cons, map_nil, length_map, length_cons, length_nil, length_set, length_replicate]; omega) | (simp only [length_cons, length_nil, Nat.zero_add, Nat.reduceAdd])) only [go_sem, ↓reduceIte, Nat.reduceAdd, Int.reduceNeg, Int.reduceAdd, Int.reduceSub, Int.reduceMul, Int.reduceLT, Int.reduceLE, Int.reduceEq, Int.reduceToNat, Nat.reduceBEq, nat1, e0, d0]
  generalize hL0 : left - ((w0 : Nat) : Int) = L0 at *
  refine cl_ok (c1 L0 (by omega) (by omega)) rfl ?_
  by_cases hw1 : ((w1 : Nat) : Int) ≤ L0
  rotate_left
  · have hs := szF_gt (left := L0) (wt := w1) (by omega)
    simp (disch := first | omega | (simp only [length_take, length_drop, length_append, map_cons, map_nil, length_map, length_cons, length_nil, length_set, length_replicate]; omega) | (simp only [length_cons, length_nil, Nat.zero_add, Nat.reduceAdd])) only [go_sem, ↓reduceIte, Nat.reduceAdd, Int.reduceNeg, Int.reduceAdd, Int.reduceSub, Int.reduceMul, Int.reduceLT, Int.reduceLE, Int.reduceEq, Int.reduceToNat, Nat.reduceBEq, nat1, hs]
    first | exact ret_z rfl | exact ret_z (szF_gt (by omega))
  have e1 := szF_le hw1
  have d1 : decide (L0 - ((w1 : Nat) : Int) < 0) = false := decide_eq_false (by omega)
  simp (disch := first | omega | (simp only [length_take, length_drop, length_append, map_cons, map_nil, length_map, length_cons, length_nil, length_set, length_replicate]; omega) | (simp only [length_cons, length_nil, Nat.zero_add, Nat.reduceAdd])) only [go_sem, ↓reduceIte, Nat.reduceAdd, Int.reduceNeg, Int.reduceAdd, Int.reduceSub, Int.reduceMul, Int.reduceLT, Int.reduceLE, Int.reduceEq, Int.reduceToNat, Nat.reduceBEq, nat1, e1, d1]
  first | exact ret_z rfl | exact ret_z (by rw [szF_le (by omega)]; omega)
theorem toSto_m (x : Sto) (hw : wtSto x ≤ 1048576) : Meets Try.prog 6 [(true, encStoL x)] [(true, encSto x, true)] := by
  obtain ⟨x0, x1⟩ := x
  have hwt : wtSto ⟨x0, x1⟩ = wtEnvs x0 + wtPros x1 := rfl
  rw [hwt] at hw; clear hwt
  have c0 := toEnvs_m x0 (by omega)
  have c1 := toPros_m x1 (by omega)
  clear hw
  simp only [encSto, encStoL, encEnvs, encEnvsL, encPros, encProsL, encVL, encV, encV_mk, encSs, encZs, List.cons_append, List.nil_append, List.append_nil] at c0 c1 ⊢
  refine meets_upf Try.func6 u_laws_toStore_g rfl ?_; simp only [u_laws_toStore_u]
  repeat' (first | (with_reducible first | refine jn_in ?_ | refine cl_ok (by assumption) rfl ?_ | refine cl_okP (by assumption) rfl ?_ | refine br_if (fun hbr => ?_) fun hbr => ?_ | refine br_ifn (fun hbr => ?_) fun hbr => ?_ | refine br_nb (fun hbr => ?_) fun hbr => ?_ | refine br_b (fun hbr => ?_) fun hbr => ?_) | simp (disch := first | omega | (simp only [length_take, length_drop, length_append, map_cons, map_nil, length_map, length_cons, length_nil, length_set, length_replicate]; omega) | (simp only [length_cons, length_nil, Nat.zero_add, Nat.reduceAdd])) only [go_sem, ↓reduceIte, Nat.reduceAdd, Int.reduceNeg, Int.reduceAdd, Int.reduceSub, Int.reduceMul, Int.reduceLT, Int.reduceLE, Int.reduceEq, Int.reduceToNat, Nat.reduceBEq, nat1, true_and])
  all_goals rfl
theorem eqSto_m (x : Sto) (hw : wtSto x ≤ 1000000000) : Meets Try.prog 8 [(true, encSto x), (true, encSto x)] [(false, [.sc (.bool true)], true)] := by
  obtain ⟨x0, x1⟩ := x
  have hwt : wtSto ⟨x0, x1⟩ = wtEnvs x0 + wtPros x1 := rfl
  rw [hwt] at hw; clear hwt
  have c0 := eqEnvs_m x0 (by omega)
  have c1 := eqPros_m x1 (by omega)
  clear hw
  simp only [encSto, encStoL, encEnvs, encEnvsL, encPros, encProsL, encVL, encV, encV_mk, encSs, encZs, List.cons_append, List.nil_append, List.append_nil] at c0 c1 ⊢
  refine meets_upf Try.func8 u_laws_eqStore_g rfl ?_; simp only [u_laws_eqStore_u]
  repeat' (first | (with_reducible first | refine jn_in ?_ | refine cl_ok (by assumption) rfl ?_ | refine cl_okP (by assumption) rfl ?_ | refine br_if (fun hbr => ?_) fun hbr => ?_ | refine br_ifn (fun hbr => ?_) fun hbr => ?_ | refine br_nb (fun hbr => ?_) fun hbr => ?_ | refine br_b (fun hbr => ?_) fun hbr => ?_) | simp (disch := first | omega | (simp only [length_take, length_drop, length_append, map_cons, map_nil, length_map, length_cons, length_nil, length_set, length_replicate]; omega) | (simp only [length_cons, length_nil, Nat.zero_add, Nat.reduceAdd])) only [go_sem, ↓reduceIte, Nat.reduceAdd, Int.reduceNeg, Int.reduceAdd, Int.reduceSub, Int.reduceMul, Int.reduceLT, Int.reduceLE, Int.reduceEq, Int.reduceToNat, Nat.reduceBEq, nat1, eq_self])
  all_goals rfl
end Go.Proofs.Ytkhibgknpcgneaa

namespace Go.Proofs.Ytkhibgknpcgneaa
open Go.RowKit
set_option maxRecDepth 100000
def u_spec_IsVector_h : List Hint := []
def u_spec_IsVector_d : List (Nat × Nat × Bool × List Nat) := []
def u_spec_IsVector_u : UP := .po (.k (.bool false)) <| .po (.k (.int .i64 3)) <| .cl 43 [(true, [9, 8, 7, 6, 5, 4, 3, 2]), (false, [0])] [(false, [none], true)] <| .ite 0 (.cl 44 [(true, [10, 9, 8, 7, 6, 5, 4, 3])] [(false, [none], true)] <| .po (.k (.int .i64 200)) <| .po (.bin .leq false 1 0) <| .po (.sc 0) <| .ret [(false, [0])]) <| .po (.k (.bool false)) <| .po (.sc 0) <| .ret [(false, [0])]
theorem u_spec_IsVector_g : toUPf Try.prog 27 Try.f27 owA u_spec_IsVector_h u_spec_IsVector_d = some ([(true, 8)], u_spec_IsVector_u) := by kernel_rfl
def u_spec_l4Cells_h : List Hint := [⟨3000003, 2, ⟨[(4, .p false [.d 11]), (3, .p false [.d 12]), (2, .p false [.d 8]), (1, .p false [.ptr 0 0 0]), (0, .p true [.d 0, .d 1, .d 2, .d 3, .d 4, .d 5, .d 6, .d 7])], [(0, .var 0 42 [.d 0, .d 1, .d 2, .d 3, .d 4, .d 5, .d 6, .d 7])], 1, 1, 13, []⟩, []⟩]
def u_spec_l4Cells_d : List (Nat × Nat × Bool × List Nat) := []
def u_spec_l4Cells_l0 : UP := .po (.lenL 4) <| .po (.bin .lss false 2 0) <| .ite 0 (.po (.isI 3) <| .po (.idx 8 6 3) <| .sel [0, 1, 2, 3, 4, 5, 6, 7, 10, 11] <| .cl 44 [(true, [7, 6, 5, 4, 3, 2, 1, 0])] [(false, [none], true)] <| .po (.bin .add false 9 0) <| .po (.k (.int .i64 1)) <| .po (.bin .add false 12 0) <| .jump 0 [0, 2]) <| .po (.sc 2) <| .ret [(false, [2])]
def u_spec_l4Cells_u : UP := .po (.k (.int .i64 0)) <| .cl 59 [(true, [8, 7, 6, 5, 4, 3, 2, 1])] [(false, [none], true)] <| .po (.k (.int .i64 0)) <| .sel [0, 1, 8] <| .loop [0, 1] u_spec_l4Cells_l0
theorem u_spec_l4Cells_g : toUPf Try.prog 44 Try.f44 owA u_spec_l4Cells_h u_spec_l4Cells_d = some ([(true, 8)], u_spec_l4Cells_u) := by kernel_rfl
def u_spec_l4Is_h : List Hint := [⟨3000019, 1, ⟨[(8, .p false [.d 23]), (132, .p false [.d 21]), (6, .p false [.d 19]), (127, .p false [.d 17]), (110, .p false [.d 16]), (87, .p false [.d 14]), (84, .p false [.d 12]), (49, .p false [.d 11]), (5, .p false [.d 10]), (4, .p false [.d 9]), (2, .p false [.ptr 0 0 0]), (0, .p true [.d 0, .d 1, .d 2, .d 3, .d 4, .d 5, .d 6, .d 7]), (1, .p false [.d 8])], [(0, .var 0 42 [.d 0, .d 1, .d 2, .d 3, .d 4, .d 5, .d 6, .d 7])], 1, 1, 24, [(21, false), (17, false), (16, false), (14, false), (12, false), (11, false), (9, false)]⟩, []⟩, ⟨2000001, 4, ⟨[(169, .p false [.d 22]), (7, .p false [.ptr 1 1 0]), (132, .p false [.d 21]), (6, .p false [.d 19]), (127, .p false [.d 17]), (110, .p false [.d 16]), (87, .p false [.d 14]), (84, .p false [.d 12]), (49, .p false [.d 11]), (5, .p false [.d 10]), (4, .p false [.d 9]), (2, .p false [.ptr 0 0 0]), (0, .p true [.d 0, .d 1, .d 2, .d 3, .d 4, .d 5, .d 6, .d 7]), (1, .p false [.d 8])], [(0, .var 0 42 [.d 0, .d 1, .d 2, .d 3, .d 4, .d 5, .d 6, .d 7]), (1, .var 1 75 [.d 23, .d 24, .d 25])], 2, 2, 26, [(21, true), (17, false), (16, false), (14, false), (12, false), (11, false), (9, false)]⟩, []⟩, ⟨3000013, 1, ⟨[(6, .p false [.d 19]), (127, .p false [.d 17]), (110, .p false [.d 16]), (87, .p false [.d 14]), (84, .p false [.d 12]), (49, .p false [.d 11]), (5, .p false [.d 10]), (4, .p false [.d 9]), (2, .p false [.ptr 0 0 0]), (0, .p true [.d 0, .d 1, .d 2, .d 3, .d 4, .d 5, .d 6, .d 7]), (1, .p false [.d 8])], [(0, .var 0 42 [.d 0, .d 1, .d 2, .d 3, .d 4, .d 5, .d 6, .d 7])], 1, 1, 20, [(17, false), (16, false), (14, false), (12, false), (11, false), (9, false)]⟩, []⟩, ⟨10, 1, ⟨[(127, .p false [.d 17]), (110, .p false [.d 16]), (87, .p false [.d 14]), (84, .p false [.d 12]), (49, .p false [.d 11]), (5, .p false [.d 10]), (4, .p false [.d 9]), (2, .p false [.ptr 0 0 0]), (0, .p true [.d 0, .d 1, .d 2, .d 3, .d 4, .d 5, .d 6, .d 7]), (1, .p false [.d 8])], [(0, .var 0 42 [.d 0, .d 1, .d 2, .d 3, .d 4, .d 5, .d 6, .d 7])], 1, 1, 18, [(16, false), (14, false), (12, false), (11, false), (9, false)]⟩, []⟩, ⟨4, 1, ⟨[(84, .p false [.d 12]), (49, .p false [.d 11]), (5, .p false [.d 10]), (4, .p false [.d 9]), (2, .p false [.ptr 0 0 0]), (0, .p true [.d 0, .d 1, .d 2, .d 3, .d 4, .d 5, .d 6, .d 7]), (1, .p false [.d 8])], [(0, .var 0 42 [.d 0, .d 1, .d 2, .d 3, .d 4, .d 5, .d 6, .d 7])], 1, 1, 13, [(11, false), (9, false)]⟩, []⟩, ⟨2, 1, ⟨[(49, .p false [.d 11]), (5, .p false [.d 10]), (4, .p false [.d 9]), (2, .p false [.ptr 0 0 0]), (0, .p true [.d 0, .d 1, .d 2, .d 3, .d 4, .d 5, .d 6, .d 7]), (1, .p false [.d 8])], [(0, .var 0 42 [.d 0, .d 1, .d 2, .d 3, .d 4, .d 5, .d 6, .d 7])], 1, 1, 12, [(9, false)]⟩, []⟩]
def u_spec_l4Is_d : List (Nat × Nat × Bool × List Nat) := []
def u_spec_l4Is_j0 : UP := .po (.k (.int .i64 1)) <| .po (.bin .add false 5 0) <| .jump 0 [0]
def u_spec_l4Is_l1 : UP := .po (.lenL 3) <| .po (.bin .lss false 1 0) <| .ite 0 (.po (.k (.int .i64 0)) <| .po (.bin .eql false 5 0) <| .ite 0 (.po (.k (.bool true)) <| .po (.k (.bool false)) <| .po (.sc 0) <| .ret [(false, [0])]) <| .po (.isI 4) <| .po (.idx 8 7 4) <| .po (.k (.int .i64 1)) <| .po (.bin .sub false 15 0) <| .sel [0, 2, 3, 4, 5, 6, 7, 8, 9, 14] <| .cl 43 [(true, [8, 7, 6, 5, 4, 3, 2, 1]), (false, [0])] [(false, [none], true)] <| .po (.un .not 0) <| .ite 0 (.po (.k (.bool false)) <| .po (.sc 0) <| .ret [(false, [0])]) <| .po (.k (.int .i64 1)) <| .po (.bin .add false 12 0) <| .jump 1 [0]) <| .po (.k (.bool true)) <| .po (.sc 0) <| .ret [(false, [0])]
def u_spec_l4Is_l2 : UP := .po (.lenL 6) <| .po (.bin .lss false 1 0) <| .ite 0 (.sel [2, 6, 8, 9] <| .join 4 u_spec_l4Is_j0 <| .po (.isI 0) <| .po (.idx 3 2 0) <| .po (.k (.int .i64 0)) <| .po (.k (.int .i64 0)) <| .po (.k (.string ⟨#[]⟩)) <| .sel [3, 4, 5, 7, 9] <| .cl 62 [(false, [4]), (true, [2, 1, 0])] [(false, [none], true)] <| .po (.un .not 0) <| .ite 0 (.po (.k (.bool true)) <| .po (.k (.bool false)) <| .po (.sc 0) <| .ret [(false, [0])]) <| .po (.lenL 5) <| .po (.k (.int .i64 0)) <| .po (.bin .gtr false 1 0) <| .ite 0 (.po (.k (.int .i64 0)) <| .po (.bin .neq false 7 0) <| .ite 0 (.po (.k (.int .i64 1)) <| .po (.bin .neq false 9 0) <| .ite 0 (.po (.k (.bool true)) <| .po (.k (.bool false)) <| .po (.sc 0) <| .ret [(false, [0])]) <| .po (.lenL 12) <| .po (.k (.int .i64 1)) <| .sel [0, 1, 11, 12, 13] <| .cl 12 [(false, [4]), (false, [0]), (false, [1])] [(false, [none], true)] <| .po (.un .not 0) <| .ite 0 (.po (.k (.bool false)) <| .po (.sc 0) <| .ret [(false, [0])]) <| .jump 1 [0, 6, 5, 4]) <| .po (.k (.bool false)) <| .jump 1 [0, 10, 9, 8]) <| .po (.k (.bool false)) <| .po (.k (.bool false)) <| .jump 1 [0, 9, 8, 7]) <| .po (.k (.int .i64 0)) <| .sel [0, 6, 8] <| .loop [0] u_spec_l4Is_l1
def u_spec_l4Is_j3 : UP := .ite 0 (.po (.k (.bool false)) <| .po (.sc 0) <| .ret [(false, [0])]) <| .po (.k (.int .i64 0)) <| .loop [0] u_spec_l4Is_l2
def u_spec_l4Is_j4 : UP := .ite 0 (.po (.k (.bool false)) <| .po (.sc 0) <| .ret [(false, [0])]) <| .po (.k (.int .i64 5)) <| .po (.bin .eql false 13 0) <| .ite 0 (.po (.lenL 13) <| .po (.k (.int .i64 0)) <| .po (.bin .eql false 1 0) <| .ite 0 (.po (.lenL 14) <| .po (.k (.int .i64 0)) <| .po (.bin .eql false 1 0) <| .ite 0 (.po (.k (.int .i64 (-999))) <| .po (.k (.int .i64 99999)) <| .sel [0, 1, 15, 16] <| .cl 12 [(false, [3]), (false, [1]), (false, [0])] [(false, [none], true)] <| .ite 0 (.po (.k (.int .i64 0)) <| .po (.k (.int .i64 99999)) <| .sel [0, 1, 5] <| .cl 12 [(false, [2]), (false, [1]), (false, [0])] [(false, [none], true)] <| .po (.sc 0) <| .ret [(false, [0])]) <| .po (.k (.bool false)) <| .po (.sc 0) <| .ret [(false, [0])]) <| .po (.k (.bool false)) <| .po (.k (.bool false)) <| .po (.sc 0) <| .ret [(false, [0])]) <| .po (.k (.bool false)) <| .po (.k (.bool false)) <| .po (.k (.bool false)) <| .po (.sc 0) <| .ret [(false, [0])]) <| .po (.k (.int .i64 0)) <| .po (.bin .eql false 15 0) <| .ite 0 (.po (.k (.int .i64 0)) <| .po (.bin .eql false 7 0) <| .ite 0 (.po (.lenL 14) <| .po (.k (.int .i64 0)) <| .po (.bin .eql false 1 0) <| .po (.sc 0) <| .ret [(false, [0])]) <| .po (.k (.bool false)) <| .po (.sc 0) <| .ret [(false, [0])]) <| .sel [8, 11, 14, 15, 16] <| .join 1 u_spec_l4Is_j3 <| .po (.k (.int .i64 4)) <| .po (.bin .eql false 5 0) <| .ite 0 (.po (.lenL 5) <| .po (.k (.int .i64 0)) <| .po (.bin .gtr false 1 0) <| .jump 0 [0]) <| .po (.k (.bool false)) <| .jump 0 [0]
def u_spec_l4Is_j5 : UP := .ite 0 (.po (.k (.bool false)) <| .po (.sc 0) <| .ret [(false, [0])]) <| .join 1 u_spec_l4Is_j4 <| .po (.k (.int .i64 5)) <| .po (.bin .neq false 12 0) <| .ite 0 (.po (.k (.int .i64 0)) <| .po (.bin .neq false 8 0) <| .ite 0 (.po (.k (.bool true)) <| .po (.k (.bool true)) <| .po (.k (.bool true)) <| .jump 0 [0]) <| .po (.k (.int .i64 0)) <| .po (.bin .neq false 9 0) <| .ite 0 (.po (.k (.bool true)) <| .po (.k (.bool true)) <| .jump 0 [0]) <| .po (.k (.int .i64 2)) <| .po (.bin .neq false 18 0) <| .ite 0 (.po (.lenL 14) <| .po (.k (.int .i64 0)) <| .po (.bin .gtr false 1 0) <| .ite 0 (.po (.k (.bool true)) <| .jump 0 [0]) <| .po (.k (.int .i64 4)) <| .po (.bin .neq false 23 0) <| .ite 0 (.po (.lenL 22) <| .po (.k (.int .i64 0)) <| .po (.bin .gtr false 1 0) <| .jump 0 [0]) <| .po (.k (.bool false)) <| .jump 0 [0]) <| .po (.k (.bool false)) <| .po (.k (.int .i64 4)) <| .po (.bin .neq false 21 0) <| .ite 0 (.po (.lenL 20) <| .po (.k (.int .i64 0)) <| .po (.bin .gtr false 1 0) <| .jump 0 [0]) <| .po (.k (.bool false)) <| .jump 0 [0]) <| .po (.k (.bool false)) <| .po (.k (.int .i64 2)) <| .po (.bin .neq false 15 0) <| .ite 0 (.po (.lenL 11) <| .po (.k (.int .i64 0)) <| .po (.bin .gtr false 1 0) <| .ite 0 (.po (.k (.bool true)) <| .jump 0 [0]) <| .po (.k (.int .i64 4)) <| .po (.bin .neq false 20 0) <| .ite 0 (.po (.lenL 19) <| .po (.k (.int .i64 0)) <| .po (.bin .gtr false 1 0) <| .jump 0 [0]) <| .po (.k (.bool false)) <| .jump 0 [0]) <| .po (.k (.bool false)) <| .po (.k (.int .i64 4)) <| .po (.bin .neq false 18 0) <| .ite 0 (.po (.lenL 17) <| .po (.k (.int .i64 0)) <| .po (.bin .gtr false 1 0) <| .jump 0 [0]) <| .po (.k (.bool false)) <| .jump 0 [0]
def u_spec_l4Is_u : UP := .po (.k (.bool false)) <| .cl 59 [(true, [9, 8, 7, 6, 5, 4, 3, 2])] [(false, [none], true)] <| .join 1 u_spec_l4Is_j5 <| .po (.k (.int .i64 0)) <| .po (.k (.int .i64 5)) <| .sel [0, 1, 2, 7, 8, 9, 12] <| .cl 12 [(false, [6]), (false, [1]), (false, [0])] [(false, [none], true)] <| .po (.un .not 0) <| .ite 0 (.po (.k (.bool true)) <| .po (.k (.bool true)) <| .po (.k (.bool true)) <| .po (.k (.bool true)) <| .po (.k (.bool true)) <| .jump 0 [0]) <| .po (.k (.int .i64 40)) <| .po (.bin .gtr false 5 0) <| .ite 0 (.po (.k (.bool true)) <| .po (.k (.bool true)) <| .po (.k (.bool true)) <| .po (.k (.bool true)) <| .jump 0 [0]) <| .po (.lenL 9) <| .po (.k (.int .i64 0)) <| .po (.bin .neq false 1 0) <| .ite 0 (.po (.lenL 12) <| .po (.bin .neq false 0 10) <| .ite 0 (.po (.k (.bool true)) <| .po (.k (.bool true)) <| .po (.k (.bool true)) <| .jump 0 [0]) <| .sel [12, 13, 14] <| .cl 60 [(false, [2])] [(false, [none], true)] <| .po (.un .not 0) <| .ite 0 (.po (.k (.bool true)) <| .po (.k (.bool true)) <| .jump 0 [0]) <| .po (.k (.int .i64 3)) <| .cl 61 [(false, [4]), (false, [0])] [(false, [none], true)] <| .po (.un .not 0) <| .ite 0 (.po (.k (.bool true)) <| .jump 0 [0]) <| .po (.k (.int .i64 20)) <| .sel [0, 6] <| .cl 61 [(false, [1]), (false, [0])] [(false, [none], true)] <| .po (.un .not 0) <| .jump 0 [0]) <| .po (.k (.bool false)) <| .sel [11, 12, 13] <| .cl 60 [(false, [2])] [(false, [none], true)] <| .po (.un .not 0) <| .ite 0 (.po (.k (.bool true)) <| .po (.k (.bool true)) <| .jump 0 [0]) <| .po (.k (.int .i64 3)) <| .cl 61 [(false, [4]), (false, [0])] [(false, [none], true)] <| .po (.un .not 0) <| .ite 0 (.po (.k (.bool true)) <| .jump 0 [0]) <| .po (.k (.int .i64 20)) <| .sel [0, 6] <| .cl 61 [(false, [1]), (false, [0])] [(false, [none], true)] <| .po (.un .not 0) <| .jump 0 [0]
theorem u_spec_l4Is_g : toUPf Try.prog 43 Try.f43 owA u_spec_l4Is_h u_spec_l4Is_d = some ([(true, 8), (false, 1)], u_spec_l4Is_u) := by kernel_rfl
def u_spec_l4Len_h : List Hint := []
def u_spec_l4Len_d : List (Nat × Nat × Bool × List Nat) := []
def u_spec_l4Len_u : UP := .po (.k (.int .i64 0)) <| .po (.k (.int .i64 5)) <| .po (.bin .eql false 9 0) <| .ite 0 (.po (.k (.int .i64 1)) <| .po (.sc 0) <| .ret [(false, [0])]) <| .po (.lenL 9) <| .po (.lenL 9) <| .po (.bin .add false 1 0) <| .po (.sc 0) <| .ret [(false, [0])]
theorem u_spec_l4Len_g : toUPf Try.prog 59 Try.f59 owA u_spec_l4Len_h u_spec_l4Len_d = some ([(true, 8)], u_spec_l4Len_u) := by kernel_rfl
end Go.Proofs.Ytkhibgknpcgneaa

namespace Go.Proofs.Ytkhibgknpcgneaa
open Go.RowKit
set_option maxRecDepth 100000
def u_impl_allEmpty_h : List Hint := [⟨3000002, 1, ⟨[(7, .p false [.d 4]), (6, .p false [.d 2]), (5, .p false [.d 0]), (2, .p false [.d 1]), (0, .p false [.d 0])], [], 0, 0, 5, [(1, false)]⟩, []⟩]
def u_impl_allEmpty_d : List (Nat × Nat × Bool × List Nat) := []
def u_impl_allEmpty_l0 : UP := .po (.bin .lss false 0 2) <| .ite 0 (.po (.isI 1) <| .po (.idx 1 5 1) <| .po (.k (.string ⟨#[]⟩)) <| .po (.bin .neq false 1 0) <| .ite 0 (.po (.k (.bool false)) <| .po (.sc 0) <| .ret [(false, [0])]) <| .po (.k (.int .i64 1)) <| .po (.bin .add false 5 0) <| .jump 0 [0]) <| .po (.k (.bool true)) <| .po (.sc 0) <| .ret [(false, [0])]
def u_impl_allEmpty_u : UP := .po (.k (.bool false)) <| .po (.lenL 1) <| .po (.k (.int .i64 0)) <| .loop [0] u_impl_allEmpty_l0
theorem u_impl_allEmpty_g : toUPf Try.prog 84 Try.f84 owA u_impl_allEmpty_h u_impl_allEmpty_d = some ([(false, 1)], u_impl_allEmpty_u) := by kernel_rfl
def u_impl_isMissing_h : List Hint := []
def u_impl_isMissing_d : List (Nat × Nat × Bool × List Nat) := []
def u_impl_isMissing_u : UP := .po (.k (.bool false)) <| .po (.k (.int .i64 0)) <| .po (.k (.int .i64 0)) <| .po (.k (.string ⟨#[]⟩)) <| .po (.eqS false [.i, .i, .s] [6, 5, 4] [2, 1, 0]) <| .po (.sc 0) <| .ret [(false, [0])]
theorem u_impl_isMissing_g : toUPf Try.prog 87 Try.f87 owA u_impl_isMissing_h u_impl_isMissing_d = some ([(true, 3)], u_impl_isMissing_u) := by kernel_rfl
def u_impl_itemValid_h : List Hint := []
def u_impl_itemValid_d : List (Nat × Nat × Bool × List Nat) := []
def u_impl_itemValid_u : UP := .po (.k (.bool false)) <| .cl 87 [(true, [3, 2, 1])] [(false, [none], true)] <| .ite 0 (.po (.k (.bool true)) <| .po (.sc 0) <| .ret [(false, [0])]) <| .po (.k (.int .i64 1)) <| .po (.bin .eql false 6 0) <| .ite 0 (.po (.k (.string ⟨#[]⟩)) <| .po (.bin .eql false 5 0) <| .ite 0 (.po (.k (.int .i64 1)) <| .po (.bin .eql false 8 0) <| .ite 0 (.po (.k (.int .i64 0)) <| .po (.bin .eql false 11 0) <| .ite 0 (.po (.k (.bool true)) <| .po (.sc 0) <| .ret [(false, [0])]) <| .po (.k (.int .i64 1)) <| .po (.bin .eql false 13 0) <| .po (.sc 0) <| .ret [(false, [0])]) <| .po (.k (.bool false)) <| .po (.sc 0) <| .ret [(false, [0])]) <| .po (.k (.bool false)) <| .po (.k (.bool false)) <| .po (.sc 0) <| .ret [(false, [0])]) <| .po (.k (.int .i64 2)) <| .po (.bin .eql false 8 0) <| .ite 0 (.sel [6, 7, 8] <| .cl 89 [(true, [2, 1, 0])] [(false, [none], true)] <| .po (.sc 0) <| .ret [(false, [0])]) <| .po (.k (.int .i64 3)) <| .po (.bin .eql false 10 0) <| .ite 0 (.po (.k (.int .i64 0)) <| .po (.bin .eql false 11 0) <| .ite 0 (.po (.k (.int .i64 1)) <| .po (.bin .eql false 12 0) <| .ite 0 (.po (.lenS 12) <| .po (.k (.int .i64 60)) <| .po (.bin .leq false 1 0) <| .po (.sc 0) <| .ret [(false, [0])]) <| .po (.k (.bool false)) <| .po (.sc 0) <| .ret [(false, [0])]) <| .po (.k (.bool false)) <| .po (.k (.bool false)) <| .po (.sc 0) <| .ret [(false, [0])]) <| .po (.k (.bool false)) <| .po (.sc 0) <| .ret [(false, [0])]
theorem u_impl_itemValid_g : toUPf Try.prog 86 Try.f86 owA u_impl_itemValid_h u_impl_itemValid_d = some ([(false, 1), (true, 3)], u_impl_itemValid_u) := by kernel_rfl
def u_impl_labelsValid_h : List Hint := [⟨3000004, 1, ⟨[(13, .p false [.d 7]), (12, .p false [.d 5]), (11, .p false [.d 0]), (10, .p false [.d 4]), (4, .p false [.d 2]), (0, .p false [.d 0]), (1, .p false [.d 1])], [], 0, 0, 8, [(4, false), (2, false)]⟩, []⟩]
def u_impl_labelsValid_d : List (Nat × Nat × Bool × List Nat) := []
def u_impl_labelsValid_l0 : UP := .po (.bin .lss false 0 2) <| .ite 0 (.po (.isI 1) <| .po (.idx 1 4 1) <| .po (.k (.string ⟨#[]⟩)) <| .po (.bin .eql false 1 0) <| .ite 0 (.po (.k (.bool true)) <| .po (.k (.bool true)) <| .po (.k (.bool false)) <| .po (.sc 0) <| .ret [(false, [0])]) <| .po (.lenS 2) <| .po (.k (.int .i64 60)) <| .po (.bin .gtr false 1 0) <| .ite 0 (.po (.k (.bool true)) <| .po (.k (.bool false)) <| .po (.sc 0) <| .ret [(false, [0])]) <| .po (.cutL 1 10 none (some 7)) <| .sel [0, 6, 8] <| .cl 33 [(false, [0]), (false, [1])] [(false, [none], true)] <| .ite 0 (.po (.k (.bool false)) <| .po (.sc 0) <| .ret [(false, [0])]) <| .po (.k (.int .i64 1)) <| .po (.bin .add false 4 0) <| .jump 0 [0]) <| .po (.k (.bool true)) <| .po (.sc 0) <| .ret [(false, [0])]
def u_impl_labelsValid_u : UP := .po (.k (.bool false)) <| .po (.lenL 2) <| .po (.bin .gtr false 0 2) <| .ite 0 (.po (.k (.bool false)) <| .po (.sc 0) <| .ret [(false, [0])]) <| .po (.lenL 4) <| .po (.k (.int .i64 0)) <| .sel [0, 1, 6] <| .loop [0] u_impl_labelsValid_l0
theorem u_impl_labelsValid_g : toUPf Try.prog 83 Try.f83 owA u_impl_labelsValid_h u_impl_labelsValid_d = some ([(false, 1), (false, 1)], u_impl_labelsValid_u) := by kernel_rfl
def u_spec_l4Item_h : List Hint := []
def u_spec_l4Item_d : List (Nat × Nat × Bool × List Nat) := []
def u_spec_l4Item_u : UP := .po (.k (.bool false)) <| .po (.k (.int .i64 0)) <| .po (.k (.int .i64 0)) <| .po (.k (.string ⟨#[]⟩)) <| .po (.eqS false [.i, .i, .s] [6, 5, 4] [2, 1, 0]) <| .ite 0 (.po (.k (.bool true)) <| .po (.sc 0) <| .ret [(false, [0])]) <| .po (.k (.int .i64 1)) <| .po (.bin .eql false 9 0) <| .ite 0 (.po (.k (.int .i64 1)) <| .po (.bin .eql false 9 0) <| .ite 0 (.po (.k (.int .i64 0)) <| .po (.k (.int .i64 1)) <| .sel [0, 1, 11, 13] <| .cl 12 [(false, [3]), (false, [1]), (false, [0])] [(false, [none], true)] <| .ite 0 (.po (.k (.string ⟨#[]⟩)) <| .po (.bin .eql false 4 0) <| .po (.sc 0) <| .ret [(false, [0])]) <| .po (.k (.bool false)) <| .po (.sc 0) <| .ret [(false, [0])]) <| .po (.k (.bool false)) <| .po (.k (.bool false)) <| .po (.sc 0) <| .ret [(false, [0])]) <| .po (.k (.int .i64 2)) <| .po (.bin .eql false 11 0) <| .ite 0 (.sel [9, 10, 11] <| .cl 75 [(true, [2, 1, 0])] [(false, [none], true)] <| .po (.sc 0) <| .ret [(false, [0])]) <| .po (.k (.int .i64 3)) <| .po (.bin .eql false 13 0) <| .ite 0 (.po (.k (.int .i64 0)) <| .po (.bin .eql false 14 0) <| .ite 0 (.po (.k (.int .i64 1)) <| .po (.bin .eql false 15 0) <| .ite 0 (.po (.lenS 15) <| .po (.k (.int .i64 60)) <| .po (.bin .leq false 1 0) <| .po (.sc 0) <| .ret [(false, [0])]) <| .po (.k (.bool false)) <| .po (.sc 0) <| .ret [(false, [0])]) <| .po (.k (.bool false)) <| .po (.k (.bool false)) <| .po (.sc 0) <| .ret [(false, [0])]) <| .po (.k (.bool false)) <| .po (.k (.bool false)) <| .po (.k (.bool false)) <| .po (.sc 0) <| .ret [(false, [0])]
theorem u_spec_l4Item_g : toUPf Try.prog 62 Try.f62 owA u_spec_l4Item_h u_spec_l4Item_d = some ([(false, 1), (true, 3)], u_spec_l4Item_u) := by kernel_rfl
def u_spec_l4Labels_h : List Hint := [⟨3000002, 1, ⟨[(5, .p false [.d 4]), (4, .p false [.d 2]), (0, .p false [.d 0]), (1, .p false [.d 1])], [], 0, 0, 5, [(2, false)]⟩, []⟩]
def u_spec_l4Labels_d : List (Nat × Nat × Bool × List Nat) := []
def u_spec_l4Labels_l0 : UP := .po (.lenL 4) <| .po (.bin .lss false 1 0) <| .ite 0 (.po (.bin .leq false 2 5) <| .ite 0 (.po (.isI 3) <| .po (.idx 1 7 3) <| .po (.k (.string ⟨#[]⟩)) <| .po (.bin .eql false 1 0) <| .ite 0 (.po (.k (.bool true)) <| .po (.k (.bool true)) <| .po (.k (.bool false)) <| .po (.sc 0) <| .ret [(false, [0])]) <| .po (.isI 6) <| .po (.idx 1 10 6) <| .po (.lenS 0) <| .po (.k (.int .i64 60)) <| .po (.bin .gtr false 1 0) <| .ite 0 (.po (.k (.bool true)) <| .po (.k (.bool false)) <| .po (.sc 0) <| .ret [(false, [0])]) <| .po (.isI 10) <| .po (.idx 1 14 10) <| .sel [0, 11, 15] <| .cl 24 [(false, [2]), (false, [0])] [(false, [none], true)] <| .po (.bin .lss false 0 2) <| .ite 0 (.po (.k (.bool false)) <| .po (.sc 0) <| .ret [(false, [0])]) <| .po (.k (.int .i64 1)) <| .po (.bin .add false 4 0) <| .jump 0 [0]) <| .po (.lenL 7) <| .po (.bin .leq false 0 7) <| .po (.sc 0) <| .ret [(false, [0])]) <| .po (.k (.bool false)) <| .po (.lenL 7) <| .po (.bin .leq false 0 7) <| .po (.sc 0) <| .ret [(false, [0])]
def u_spec_l4Labels_u : UP := .po (.k (.bool false)) <| .po (.k (.int .i64 0)) <| .loop [0] u_spec_l4Labels_l0
theorem u_spec_l4Labels_g : toUPf Try.prog 61 Try.f61 owA u_spec_l4Labels_h u_spec_l4Labels_d = some ([(false, 1), (false, 1)], u_spec_l4Labels_u) := by kernel_rfl
def u_spec_l4Named_h : List Hint := [⟨2000001, 2, ⟨[(3, .p false [.d 10]), (19, .p false [.d 11]), (11, .p false [.d 9]), (4, .p false [.d 6]), (2, .p false [.d 1]), (0, .p false [.d 0])], [], 0, 0, 12, [(9, true), (1, false)]⟩, []⟩, ⟨3000003, 2, ⟨[(4, .p false [.d 6]), (3, .p false [.d 7]), (2, .p false [.d 1]), (0, .p false [.d 0])], [], 0, 0, 8, [(1, false)]⟩, []⟩]
def u_spec_l4Named_d : List (Nat × Nat × Bool × List Nat) := []
def u_spec_l4Named_j0 : UP := .po (.k (.int .i64 1)) <| .po (.bin .add false 4 0) <| .jump 0 [0, 3]
def u_spec_l4Named_l1 : UP := .po (.lenL 7) <| .po (.bin .lss false 2 0) <| .ite 0 (.sel [2, 3, 9] <| .join 2 u_spec_l4Named_j0 <| .po (.isI 1) <| .po (.idx 1 2 1) <| .po (.lenS 0) <| .po (.k (.int .i64 60)) <| .po (.bin .gtr false 1 0) <| .ite 0 (.po (.k (.bool false)) <| .po (.sc 0) <| .ret [(false, [0])]) <| .ite 4 (.po (.k (.bool true)) <| .jump 1 [0, 1]) <| .po (.isI 5) <| .po (.idx 1 6 5) <| .po (.k (.string ⟨#[]⟩)) <| .po (.bin .neq false 1 0) <| .jump 1 [0, 3]) <| .po (.sc 2) <| .ret [(false, [2])]
def u_spec_l4Named_u : UP := .po (.k (.bool false)) <| .po (.lenL 1) <| .po (.k (.int .i64 0)) <| .po (.bin .eql false 1 0) <| .po (.k (.int .i64 0)) <| .loop [0, 1] u_spec_l4Named_l1
theorem u_spec_l4Named_g : toUPf Try.prog 60 Try.f60 owA u_spec_l4Named_h u_spec_l4Named_d = some ([(false, 1)], u_spec_l4Named_u) := by kernel_rfl
end Go.Proofs.Ytkhibgknpcgneaa

namespace Go.Proofs.Ytkhibgknpcgneaa
open List (length_take length_drop length_append map_cons map_nil length_map length_cons length_nil length_set length_replicate)
open Go.RowKit
set_option maxRecDepth 100000
theorem bb {a b : Bool} (h : a = b) : [DV.sc (.bool a)] = [.sc (.bool b)] := by rw [h]
def lnV (k : Int) (a b : Nat) : Int := if k = 5 then 1 else (a : Int) + (b : Int)
theorem lnV_bd {k : Int} {a b : Nat} (h1 : a ≤ 1048576) (h2 : b ≤ 1048576) : 0 ≤ lnV k a b ∧ lnV k a b ≤ 2097152 := by unfold lnV; split <;> omega
def labP (l : List ByteArray) (j : Nat) : Bool := !decide (l.getD j default = ⟨#[]⟩) && (decide (((l.getD j default).size : Int) ≤ 60) && !decide (find1 l (l.getD j default) < (j : Int)))
def labB (l : List ByteArray) (m : Int) : Bool := decide ((l.length : Int) ≤ m) && allB (labP l) l.length
def nmP (l : List ByteArray) (j : Nat) : Bool := decide (((l.getD j default).size : Int) ≤ 60)
def emP (l : List ByteArray) (j : Nat) : Bool := decide (l.getD j default = ⟨#[]⟩)
def nmB (l : List ByteArray) : Bool := (decide (l.length = 0) || !allB (emP l) l.length) && allB (nmP l) l.length
def ivB (k : Int) (x : It) : Bool := decide (x = it0) || (if k = 1 then decide (x.den = 1) && (decide (0 ≤ x.num ∧ x.num ≤ 1) && decide (x.text = ⟨#[]⟩)) else if k = 2 then numB x else decide (k = 3) && (decide (x.num = 0) && (decide (x.den = 1) && decide ((x.text.size : Int) ≤ 60))))
theorem eq_itV (x y : It) : eqKD [.i, .i, .s] (encIt x) (encIt y) = some (decide (x = y)) := by
  obtain ⟨a, b, c⟩ := x
  obtain ⟨a', b', c'⟩ := y
  simp only [encIt, eqKD, eqK, if_true, It.mk.injEq, Bool.and_true]
  congr 1
  rw [← Bool.decide_and, ← Bool.decide_and]
theorem eq0_itV (x : It) : eEqS false [.i, .i, .s] (some [.sc (.int .i64 x.num), .sc (.int .i64 x.den), .sc (.string x.text)]) (some [.sc (.int .i64 0), .sc (.int .i64 0), .sc (.string ⟨#[]⟩)]) = some [.sc (.bool (decide (x = it0)))] := e_eqS (eq_itV x it0)
theorem iMiss_m (x : It) : Meets Try.prog 87 [(true, encIt x)] [(false, [.sc (.bool (decide (x = it0)))], true)] := by
  refine meets_upf Try.func87 u_impl_isMissing_g rfl ?_; simp only [u_impl_isMissing_u]
  unfold encIt
  repeat' (first | (with_reducible first | refine jn_in ?_ | refine cl_ok (by assumption) rfl ?_ | refine cl_okP (by assumption) rfl ?_ | refine br_if (fun hbr => ?_) fun hbr => ?_ | refine br_ifn (fun hbr => ?_) fun hbr => ?_ | refine br_nb (fun hbr => ?_) fun hbr => ?_ | refine br_b (fun hbr => ?_) fun hbr => ?_) | simp (disch := first | omega | (simp only [length_take, length_drop, length_append, map_cons, map_nil, length_map, length_cons, length_nil, length_set, length_replicate]; omega) | (simp only [length_cons, length_nil, Nat.zero_add, Nat.reduceAdd])) only [go_sem, ↓reduceIte, Nat.reduceAdd, Int.reduceNeg, Int.reduceAdd, Int.reduceSub, Int.reduceMul, Int.reduceLT, Int.reduceLE, Int.reduceEq, Int.reduceToNat, Nat.reduceBEq, nat1, eq0_itV])
  exact ret_b rfl
theorem iItem_m (k : Int) (x : It) : Meets Try.prog 86 [(false, [.sc (.int .i64 k)]), (true, encIt x)] [(false, [.sc (.bool (ivB k x))], true)] := by
  have h1 := iMiss_m x
  have h2 := mImplIsNum x
  refine meets_upf Try.func86 u_impl_itemValid_g rfl ?_; simp only [u_impl_itemValid_u]
  unfold encIt at *
  repeat' (first | (with_reducible first | refine jn_in ?_ | refine cl_ok (by assumption) rfl ?_ | refine cl_okP (by assumption) rfl ?_ | refine br_if (fun hbr => ?_) fun hbr => ?_ | refine br_ifn (fun hbr => ?_) fun hbr => ?_ | refine br_nb (fun hbr => ?_) fun hbr => ?_ | refine br_b (fun hbr => ?_) fun hbr => ?_) | simp (disch := first | omega | (simp only [length_take, length_drop, length_append, map_cons, map_nil, length_map, length_cons, length_nil, length_set, length_replicate]; omega) | (simp only [length_cons, length_nil, Nat.zero_add, Nat.reduceAdd])) only [go_sem, ↓reduceIte, Nat.reduceAdd, Int.reduceNeg, Int.reduceAdd, Int.reduceSub, Int.reduceMul, Int.reduceLT, Int.reduceLE, Int.reduceEq, Int.reduceToNat, Nat.reduceBEq, nat1, true_and])
  all_goals refine ret_b ?_
  all_goals unfold ivB
  all_goals first
    | (simp [*]; done)
    | (simp_all; done)
    | (rw [Bool.eq_iff_iff]; simp [*]; omega)
theorem sItem_m (k : Int) (x : It) : Meets Try.prog 62 [(false, [.sc (.int .i64 k)]), (true, encIt x)] [(false, [.sc (.bool (ivB k x))], true)] := by
  have h1 := mIn x.num 0 1
  have h2 := mSpecIsNum x
  refine meets_upf Try.func62 u_spec_l4Item_g rfl ?_; simp only [u_spec_l4Item_u]
  unfold encIt at *
  repeat' (first | (with_reducible first | refine jn_in ?_ | refine cl_ok (by assumption) rfl ?_ | refine cl_okP (by assumption) rfl ?_ | refine br_if (fun hbr => ?_) fun hbr => ?_ | refine br_ifn (fun hbr => ?_) fun hbr => ?_ | refine br_nb (fun hbr => ?_) fun hbr => ?_ | refine br_b (fun hbr => ?_) fun hbr => ?_) | simp (disch := first | omega | (simp only [length_take, length_drop, length_append, map_cons, map_nil, length_map, length_cons, length_nil, length_set, length_replicate]; omega) | (simp only [length_cons, length_nil, Nat.zero_add, Nat.reduceAdd])) only [go_sem, ↓reduceIte, Nat.reduceAdd, Int.reduceNeg, Int.reduceAdd, Int.reduceSub, Int.reduceMul, Int.reduceLT, Int.reduceLE, Int.reduceEq, Int.reduceToNat, Nat.reduceBEq, nat1, eq0_itV])
  all_goals refine ret_b ?_
  all_goals unfold ivB
  all_goals first
    | (simp [*]; done)
    | (simp_all; done)
    | (rw [Bool.eq_iff_iff]; simp [*]; omega)
set_option maxHeartbeats 1000000 in
theorem iLab_m (t : Nat) (l : List ByteArray) (m : Int) (hl : l.length ≤ 1048576) : Meets Try.prog 83 [(false, [.sl t 1 (l.map encS)]), (false, [.sc (.int .i64 m)])] [(false, [.sc (.bool (labB l m))], true)] := by
  have hH := fun i => hasText_m t (l.take i) (l.getD i default) (by rw [List.length_take]; omega)
  refine meets_upf Try.func83 u_impl_labelsValid_g rfl ?_; simp only [u_impl_labelsValid_u]
  unfold labB
  simp (disch := first | omega | (simp only [length_take, length_drop, length_append, map_cons, map_nil, length_map, length_cons, length_nil, length_set, length_replicate]; omega) | (simp only [length_cons, length_nil, Nat.zero_add, Nat.reduceAdd])) only [go_sem, ↓reduceIte, Nat.reduceAdd, Int.reduceNeg, Int.reduceAdd, Int.reduceSub, Int.reduceMul, Int.reduceLT, Int.reduceLE, Int.reduceEq, Int.reduceToNat, Nat.reduceBEq, nat1, true_and]
  refine br_if (fun hbr => ?_) (fun hbr => ?_)
  · simp (disch := first | omega | (simp only [length_take, length_drop, length_append, map_cons, map_nil, length_map, length_cons, length_nil, length_set, length_replicate]; omega) | (simp only [length_cons, length_nil, Nat.zero_add, Nat.reduceAdd])) only [go_sem, ↓reduceIte, Nat.reduceAdd, Int.reduceNeg, Int.reduceAdd, Int.reduceSub, Int.reduceMul, Int.reduceLT, Int.reduceLE, Int.reduceEq, Int.reduceToNat, Nat.reduceBEq, nat1, true_and]
    exact ret_b (by rw [decide_eq_false (by omega)]; rfl)
  rw [decide_eq_true (by omega), Bool.true_and]
  simp (disch := first | omega | (simp only [length_take, length_drop, length_append, map_cons, map_nil, length_map, length_cons, length_nil, length_set, length_replicate]; omega) | (simp only [length_cons, length_nil, Nat.zero_add, Nat.reduceAdd])) only [go_sem, ↓reduceIte, Nat.reduceAdd, Int.reduceNeg, Int.reduceAdd, Int.reduceSub, Int.reduceMul, Int.reduceLT, Int.reduceLE, Int.reduceEq, Int.reduceToNat, Nat.reduceBEq, nat1, true_and]
  refine lp (fun i : Nat => [.sc (.int .i64 i)]) (fun i => i ≤ l.length ∧ allB (labP l) i = true) (fun i => l.length - i) 0 rfl ⟨by omega, rfl⟩ ?_
  rintro i ⟨hi, hb⟩
  simp only [u_impl_labelsValid_l0]
  by_cases hlt : i < l.length
  · have hHi := hH i
    rw [hasB_take hlt] at hHi
    repeat' (first | (with_reducible first | refine jn_in ?_ | refine cl_ok (by assumption) rfl ?_ | refine cl_okP (by assumption) rfl ?_ | refine br_if (fun hbr => ?_) fun hbr => ?_ | refine br_ifn (fun hbr => ?_) fun hbr => ?_ | refine br_nb (fun hbr => ?_) fun hbr => ?_ | refine br_b (fun hbr => ?_) fun hbr => ?_) | simp (disch := first | omega | (simp only [length_take, length_drop, length_append, map_cons, map_nil, length_map, length_cons, length_nil, length_set, length_replicate]; omega) | (simp only [length_cons, length_nil, Nat.zero_add, Nat.reduceAdd])) only [go_sem, ↓reduceIte, Nat.reduceAdd, Int.reduceNeg, Int.reduceAdd, Int.reduceSub, Int.reduceMul, Int.reduceLT, Int.reduceLE, Int.reduceEq, Int.reduceToNat, Nat.reduceBEq, nat1, true_and])
    all_goals first
      | omega
      | exact ret_b (by rw [allB_no hlt (by (first | (simp [-List.getD_eq_getElem?_getD, labP, *]; done) | (simp_all [-List.getD_eq_getElem?_getD, labP]; done) | (simp [-List.getD_eq_getElem?_getD, labP, *]; omega) | (simp_all [-List.getD_eq_getElem?_getD, labP]; omega) | omega))])
      | exact ⟨i + 1, rfl, ⟨by omega, allB_step hb (by (first | (simp [-List.getD_eq_getElem?_getD, labP, *]; done) | (simp_all [-List.getD_eq_getElem?_getD, labP]; done) | (simp [-List.getD_eq_getElem?_getD, labP, *]; omega) | (simp_all [-List.getD_eq_getElem?_getD, labP]; omega) | omega))⟩, by omega⟩
      | skip
  · obtain rfl : i = l.length := by omega
    repeat' (first | (with_reducible first | refine jn_in ?_ | refine cl_ok (by assumption) rfl ?_ | refine cl_okP (by assumption) rfl ?_ | refine br_if (fun hbr => ?_) fun hbr => ?_ | refine br_ifn (fun hbr => ?_) fun hbr => ?_ | refine br_nb (fun hbr => ?_) fun hbr => ?_ | refine br_b (fun hbr => ?_) fun hbr => ?_) | simp (disch := first | omega | (simp only [length_take, length_drop, length_append, map_cons, map_nil, length_map, length_cons, length_nil, length_set, length_replicate]; omega) | (simp only [length_cons, length_nil, Nat.zero_add, Nat.reduceAdd])) only [go_sem, ↓reduceIte, Nat.reduceAdd, Int.reduceNeg, Int.reduceAdd, Int.reduceSub, Int.reduceMul, Int.reduceLT, Int.reduceLE, Int.reduceEq, Int.reduceToNat, Nat.reduceBEq, nat1, true_and])
    all_goals first | omega | exact ret_b hb | skip
set_option maxHeartbeats 1000000 in
theorem sLab_m (t : Nat) (l : List ByteArray) (m : Int) (hl : l.length ≤ 1048576) : Meets Try.prog 61 [(false, [.sl t 1 (l.map encS)]), (false, [.sc (.int .i64 m)])] [(false, [.sc (.bool (labB l m))], true)] := by
  have hH := fun s => l1Find_m t l s (by omega)
  refine meets_upf Try.func61 u_spec_l4Labels_g rfl ?_; simp only [u_spec_l4Labels_u]
  unfold labB
  simp (disch := first | omega | (simp only [length_take, length_drop, length_append, map_cons, map_nil, length_map, length_cons, length_nil, length_set, length_replicate]; omega) | (simp only [length_cons, length_nil, Nat.zero_add, Nat.reduceAdd])) only [go_sem, ↓reduceIte, Nat.reduceAdd, Int.reduceNeg, Int.reduceAdd, Int.reduceSub, Int.reduceMul, Int.reduceLT, Int.reduceLE, Int.reduceEq, Int.reduceToNat, Nat.reduceBEq, nat1, true_and]
  refine lp (fun i : Nat => [.sc (.int .i64 i)]) (fun i => i ≤ l.length ∧ allB (labP l) i = true) (fun i => l.length - i) 0 rfl ⟨by omega, rfl⟩ ?_
  rintro i ⟨hi, hb⟩
  simp only [u_spec_l4Labels_l0]
  by_cases hlt : i < l.length
  · have hHi := hH (l.getD i default)
    repeat' (first | (with_reducible first | refine jn_in ?_ | refine cl_ok (by assumption) rfl ?_ | refine cl_okP (by assumption) rfl ?_ | refine br_if (fun hbr => ?_) fun hbr => ?_ | refine br_ifn (fun hbr => ?_) fun hbr => ?_ | refine br_nb (fun hbr => ?_) fun hbr => ?_ | refine br_b (fun hbr => ?_) fun hbr => ?_) | simp (disch := first | omega | (simp only [length_take, length_drop, length_append, map_cons, map_nil, length_map, length_cons, length_nil, length_set, length_replicate]; omega) | (simp only [length_cons, length_nil, Nat.zero_add, Nat.reduceAdd])) only [go_sem, ↓reduceIte, Nat.reduceAdd, Int.reduceNeg, Int.reduceAdd, Int.reduceSub, Int.reduceMul, Int.reduceLT, Int.reduceLE, Int.reduceEq, Int.reduceToNat, Nat.reduceBEq, nat1, true_and])
    all_goals first
      | omega
      | exact ret_b (by rw [allB_no hlt (by (first | (simp [-List.getD_eq_getElem?_getD, labP, *]; done) | (simp_all [-List.getD_eq_getElem?_getD, labP]; done) | (simp [-List.getD_eq_getElem?_getD, labP, *]; omega) | (simp_all [-List.getD_eq_getElem?_getD, labP]; omega) | omega)), Bool.and_false])
      | exact ret_b (by rw [decide_eq_false (show ¬ (l.length : Int) ≤ m by omega), Bool.false_and])
      | exact ⟨i + 1, rfl, ⟨by omega, allB_step hb (by (first | (simp [-List.getD_eq_getElem?_getD, labP, *]; done) | (simp_all [-List.getD_eq_getElem?_getD, labP]; done) | (simp [-List.getD_eq_getElem?_getD, labP, *]; omega) | (simp_all [-List.getD_eq_getElem?_getD, labP]; omega) | omega))⟩, by omega⟩
      | skip
  · obtain rfl : i = l.length := by omega
    repeat' (first | (with_reducible first | refine jn_in ?_ | refine cl_ok (by assumption) rfl ?_ | refine cl_okP (by assumption) rfl ?_ | refine br_if (fun hbr => ?_) fun hbr => ?_ | refine br_ifn (fun hbr => ?_) fun hbr => ?_ | refine br_nb (fun hbr => ?_) fun hbr => ?_ | refine br_b (fun hbr => ?_) fun hbr => ?_) | simp (disch := first | omega | (simp only [length_take, length_drop, length_append, map_cons, map_nil, length_map, length_cons, length_nil, length_set, length_replicate]; omega) | (simp only [length_cons, length_nil, Nat.zero_add, Nat.reduceAdd])) only [go_sem, ↓reduceIte, Nat.reduceAdd, Int.reduceNeg, Int.reduceAdd, Int.reduceSub, Int.reduceMul, Int.reduceLT, Int.reduceLE, Int.reduceEq, Int.reduceToNat, Nat.reduceBEq, nat1, true_and])
    all_goals first | omega | exact ret_b (by rw [hb, Bool.and_true]) | skip
theorem iEmp_m (t : Nat) (l : List ByteArray) (hl : l.length ≤ 1048576) : Meets Try.prog 84 [(false, [.sl t 1 (l.map encS)])] [(false, [.sc (.bool (allB (emP l) l.length))], true)] := by
  refine meets_upf Try.func84 u_impl_allEmpty_g rfl ?_; simp only [u_impl_allEmpty_u]
  simp (disch := first | omega | (simp only [length_take, length_drop, length_append, map_cons, map_nil, length_map, length_cons, length_nil, length_set, length_replicate]; omega) | (simp only [length_cons, length_nil, Nat.zero_add, Nat.reduceAdd])) only [go_sem, ↓reduceIte, Nat.reduceAdd, Int.reduceNeg, Int.reduceAdd, Int.reduceSub, Int.reduceMul, Int.reduceLT, Int.reduceLE, Int.reduceEq, Int.reduceToNat, Nat.reduceBEq, nat1, true_and]
  refine lp (fun i : Nat => [.sc (.int .i64 i)]) (fun i => i ≤ l.length ∧ allB (emP l) i = true) (fun i => l.length - i) 0 rfl ⟨by omega, rfl⟩ ?_
  rintro i ⟨hi, hb⟩
  simp only [u_impl_allEmpty_l0]
  by_cases hlt : i < l.length
  · repeat' (first | (with_reducible first | refine jn_in ?_ | refine cl_ok (by assumption) rfl ?_ | refine cl_okP (by assumption) rfl ?_ | refine br_if (fun hbr => ?_) fun hbr => ?_ | refine br_ifn (fun hbr => ?_) fun hbr => ?_ | refine br_nb (fun hbr => ?_) fun hbr => ?_ | refine br_b (fun hbr => ?_) fun hbr => ?_) | simp (disch := first | omega | (simp only [length_take, length_drop, length_append, map_cons, map_nil, length_map, length_cons, length_nil, length_set, length_replicate]; omega) | (simp only [length_cons, length_nil, Nat.zero_add, Nat.reduceAdd])) only [go_sem, ↓reduceIte, Nat.reduceAdd, Int.reduceNeg, Int.reduceAdd, Int.reduceSub, Int.reduceMul, Int.reduceLT, Int.reduceLE, Int.reduceEq, Int.reduceToNat, Nat.reduceBEq, nat1, true_and])
    all_goals first
      | omega
      | exact ret_b (by rw [allB_no hlt (by (first | (simp [-List.getD_eq_getElem?_getD, emP, *]; done) | (simp_all [-List.getD_eq_getElem?_getD, emP]; done) | (simp [-List.getD_eq_getElem?_getD, emP, *]; omega) | (simp_all [-List.getD_eq_getElem?_getD, emP]; omega) | omega))])
      | exact ⟨i + 1, rfl, ⟨by omega, allB_step hb (by (first | (simp [-List.getD_eq_getElem?_getD, emP, *]; done) | (simp_all [-List.getD_eq_getElem?_getD, emP]; done) | (simp [-List.getD_eq_getElem?_getD, emP, *]; omega) | (simp_all [-List.getD_eq_getElem?_getD, emP]; omega) | omega))⟩, by omega⟩
      | skip
  · obtain rfl : i = l.length := by omega
    repeat' (first | (with_reducible first | refine jn_in ?_ | refine cl_ok (by assumption) rfl ?_ | refine cl_okP (by assumption) rfl ?_ | refine br_if (fun hbr => ?_) fun hbr => ?_ | refine br_ifn (fun hbr => ?_) fun hbr => ?_ | refine br_nb (fun hbr => ?_) fun hbr => ?_ | refine br_b (fun hbr => ?_) fun hbr => ?_) | simp (disch := first | omega | (simp only [length_take, length_drop, length_append, map_cons, map_nil, length_map, length_cons, length_nil, length_set, length_replicate]; omega) | (simp only [length_cons, length_nil, Nat.zero_add, Nat.reduceAdd])) only [go_sem, ↓reduceIte, Nat.reduceAdd, Int.reduceNeg, Int.reduceAdd, Int.reduceSub, Int.reduceMul, Int.reduceLT, Int.reduceLE, Int.reduceEq, Int.reduceToNat, Nat.reduceBEq, nat1, true_and])
    all_goals first | omega | exact ret_b hb | skip
set_option maxHeartbeats 1000000 in
theorem sNam_m (t : Nat) (l : List ByteArray) (hl : l.length ≤ 1048576) : Meets Try.prog 60 [(false, [.sl t 1 (l.map encS)])] [(false, [.sc (.bool (nmB l))], true)] := by
  refine meets_upf Try.func60 u_spec_l4Named_g rfl ?_; simp only [u_spec_l4Named_u]
  unfold nmB
  simp (disch := first | omega | (simp only [length_take, length_drop, length_append, map_cons, map_nil, length_map, length_cons, length_nil, length_set, length_replicate]; omega) | (simp only [length_cons, length_nil, Nat.zero_add, Nat.reduceAdd])) only [go_sem, ↓reduceIte, Nat.reduceAdd, Int.reduceNeg, Int.reduceAdd, Int.reduceSub, Int.reduceMul, Int.reduceLT, Int.reduceLE, Int.reduceEq, Int.reduceToNat, Nat.reduceBEq, nat1, true_and]
  refine lp (fun i : Nat => [.sc (.int .i64 i), .sc (.bool (decide (l.length = 0) || !allB (emP l) i))]) (fun i => i ≤ l.length ∧ allB (nmP l) i = true) (fun i => l.length - i) 0 (by simp [gL, allB_zero]) ⟨by omega, rfl⟩ ?_
  rintro i ⟨hi, hb⟩
  simp only [u_spec_l4Named_l1]
  by_cases hlt : i < l.length
  · have h0 : ¬ l.length = 0 := by omega
    rw [decide_eq_false h0, Bool.false_or, Bool.false_or]
    cases he : allB (emP l) i
    · repeat' (first | (with_reducible first | refine jn_in ?_ | refine cl_ok (by assumption) rfl ?_ | refine cl_okP (by assumption) rfl ?_ | refine br_if (fun hbr => ?_) fun hbr => ?_ | refine br_ifn (fun hbr => ?_) fun hbr => ?_ | refine br_nb (fun hbr => ?_) fun hbr => ?_ | refine br_b (fun hbr => ?_) fun hbr => ?_) | simp (disch := first | omega | (simp only [length_take, length_drop, length_append, map_cons, map_nil, length_map, length_cons, length_nil, length_set, length_replicate]; omega) | (simp only [length_cons, length_nil, Nat.zero_add, Nat.reduceAdd])) only [go_sem, ↓reduceIte, Nat.reduceAdd, Int.reduceNeg, Int.reduceAdd, Int.reduceSub, Int.reduceMul, Int.reduceLT, Int.reduceLE, Int.reduceEq, Int.reduceToNat, Nat.reduceBEq, nat1, u_spec_l4Named_j0])
      all_goals first
        | omega
        | exact ret_b (by rw [allB_no (p := nmP l) hlt (by (first | (simp [-List.getD_eq_getElem?_getD, nmP, *]; done) | (simp_all [-List.getD_eq_getElem?_getD, nmP]; done) | (simp [-List.getD_eq_getElem?_getD, nmP, *]; omega) | (simp_all [-List.getD_eq_getElem?_getD, nmP]; omega) | omega)), Bool.and_false])
        | exact ⟨i + 1, by rw [allB_succ, he]; rfl, ⟨by omega, allB_step hb (by (first | (simp [-List.getD_eq_getElem?_getD, nmP, *]; done) | (simp_all [-List.getD_eq_getElem?_getD, nmP]; done) | (simp [-List.getD_eq_getElem?_getD, nmP, *]; omega) | (simp_all [-List.getD_eq_getElem?_getD, nmP]; omega) | omega))⟩, by omega⟩
        | skip
    · repeat' (first | (with_reducible first | refine jn_in ?_ | refine cl_ok (by assumption) rfl ?_ | refine cl_okP (by assumption) rfl ?_ | refine br_if (fun hbr => ?_) fun hbr => ?_ | refine br_ifn (fun hbr => ?_) fun hbr => ?_ | refine br_nb (fun hbr => ?_) fun hbr => ?_ | refine br_b (fun hbr => ?_) fun hbr => ?_) | simp (disch := first | omega | (simp only [length_take, length_drop, length_append, map_cons, map_nil, length_map, length_cons, length_nil, length_set, length_replicate]; omega) | (simp only [length_cons, length_nil, Nat.zero_add, Nat.reduceAdd])) only [go_sem, ↓reduceIte, Nat.reduceAdd, Int.reduceNeg, Int.reduceAdd, Int.reduceSub, Int.reduceMul, Int.reduceLT, Int.reduceLE, Int.reduceEq, Int.reduceToNat, Nat.reduceBEq, nat1, u_spec_l4Named_j0])
      all_goals first
        | omega
        | exact ret_b (by rw [allB_no (p := nmP l) hlt (by (first | (simp [-List.getD_eq_getElem?_getD, nmP, *]; done) | (simp_all [-List.getD_eq_getElem?_getD, nmP]; done) | (simp [-List.getD_eq_getElem?_getD, nmP, *]; omega) | (simp_all [-List.getD_eq_getElem?_getD, nmP]; omega) | omega)), Bool.and_false])
        | exact ⟨i + 1, by rw [allB_succ, he]; simp [emP], ⟨by omega, allB_step hb (by (first | (simp [-List.getD_eq_getElem?_getD, nmP, *]; done) | (simp_all [-List.getD_eq_getElem?_getD, nmP]; done) | (simp [-List.getD_eq_getElem?_getD, nmP, *]; omega) | (simp_all [-List.getD_eq_getElem?_getD, nmP]; omega) | omega))⟩, by omega⟩
        | skip
  · obtain rfl : i = l.length := by omega
    repeat' (first | (with_reducible first | refine jn_in ?_ | refine cl_ok (by assumption) rfl ?_ | refine cl_okP (by assumption) rfl ?_ | refine br_if (fun hbr => ?_) fun hbr => ?_ | refine br_ifn (fun hbr => ?_) fun hbr => ?_ | refine br_nb (fun hbr => ?_) fun hbr => ?_ | refine br_b (fun hbr => ?_) fun hbr => ?_) | simp (disch := first | omega | (simp only [length_take, length_drop, length_append, map_cons, map_nil, length_map, length_cons, length_nil, length_set, length_replicate]; omega) | (simp only [length_cons, length_nil, Nat.zero_add, Nat.reduceAdd])) only [go_sem, ↓reduceIte, Nat.reduceAdd, Int.reduceNeg, Int.reduceAdd, Int.reduceSub, Int.reduceMul, Int.reduceLT, Int.reduceLE, Int.reduceEq, Int.reduceToNat, Nat.reduceBEq, nat1, true_and])
    all_goals first | omega | exact ret_b (by rw [hb, Bool.and_true]) | skip
def itlB (k : Int) (m : Nat) (x : It) : Bool := ivB k x && (decide (m = 0) || (decide (x.den = 0) || (decide (x.den = 1) && decide (1 ≤ x.num ∧ x.num ≤ (m : Int)))))
theorem ivB_den {k : Int} {x : It} (h : ivB k x = true) : x = it0 ↔ x.den = 0 := by
  constructor
  · rintro rfl; rfl
  · intro hd
    unfold ivB at h
    rcases Bool.or_eq_true _ _ ▸ h with h | h
    · exact of_decide_eq_true h
    · exfalso
      split at h
      · simp [hd] at h
      · split at h
        · simp [numB, hd] at h
        · simp [hd] at h
def gA (k n : Int) (ns cl lv : List ByteArray) : Bool := decide (0 ≤ k ∧ k ≤ 5) && (decide (n ≤ 40) && ((decide (ns.length = 0) || decide ((ns.length : Int) = n)) && (nmB ns && (labB cl 3 && labB lv 20))))
def gB (k c e : Int) (np nl : Nat) : Bool := (decide (k = 5) || (decide (c = 0) && decide (e = 0))) && ((decide (k = 2) || decide (nl = 0)) && (decide (k = 4) || decide (np = 0)))
def gC (k n c e : Int) (its : List It) (nn nc nl : Nat) : Bool :=
  if k = 5 then decide (its.length = 0) && (decide (nn = 0) && (decide (-999 ≤ c ∧ c ≤ 99999) && decide (0 ≤ e ∧ e ≤ 99999)))
  else if k = 0 then decide (n = 0) && decide (nc = 0)
  else if k = 4 then decide (its.length = 0) else allB (fun j => itlB k nl (its.getD j default)) its.length
def shB (k : Int) (its : List It) (np : Nat) (ns cl lv : List ByteArray) (c e : Int) : Bool :=
  gA k (lnV k its.length np) ns cl lv && (gB k c e np lv.length && gC k (lnV k its.length np) c e its ns.length cl.length lv.length)
def vcB : Nat → Vec → Bool
  | 0, .mk k its ps ns cl lv c e => shB k its ps.length ns cl lv c e && allB (fun _ => false) ps.length
  | n + 1, .mk k its ps ns cl lv c e => shB k its ps.length ns cl lv c e && allB (fun j => vcB n (ps.getD j default)) ps.length
def kidB (n : Nat) (ps : List Vec) (j : Nat) : Bool := match n with | 0 => false | n + 1 => vcB n (ps.getD j default)
theorem vcB_mk (n : Nat) (k : Int) (its : List It) (ps : List Vec) (ns cl lv : List ByteArray) (c e : Int) : vcB n (.mk k its ps ns cl lv c e) = (shB k its ps.length ns cl lv c e && allB (kidB n ps) ps.length) := by
  cases n <;> rw [vcB] <;> rfl
structure BdV (its : List It) (ps : List Vec) (ns cl lv : List ByteArray) : Prop where
  b1 : its.length ≤ 1048576
  b2 : ps.length ≤ 1048576
  b3 : ns.length ≤ 1048576
  b4 : cl.length ≤ 1048576
  b5 : lv.length ≤ 1048576
  kid : ∀ p ∈ ps, wtV p ≤ 1048576
theorem bdV {k c e : Int} {its : List It} {ps : List Vec} {ns cl lv : List ByteArray} (h : wtV (.mk k its ps ns cl lv c e) ≤ 1048576) : BdV its ps ns cl lv := by
  rw [wtV_mk] at h
  exact ⟨by unfold wtItems at h; omega, by omega, wtSs_len (n := 1048576) (by omega), wtSs_len (n := 1048576) (by omega), wtSs_len (n := 1048576) (by omega), fun p hp => by have := sumBy_mem wtV hp; omega⟩
def ceN : Nat → Vec → Nat
  | 0, .mk k its ps ns cl lv c e => (lnV k its.length ps.length).toNat + sumBy (fun _ => 0) ps
  | n + 1, .mk k its ps ns cl lv c e => (lnV k its.length ps.length).toNat + sumBy (fun p => ceN n p) ps
def kidC (n : Nat) (p : Vec) : Nat := match n with | 0 => 0 | n + 1 => ceN n p
theorem ceN_mk' (n : Nat) (k : Int) (its : List It) (ps : List Vec) (ns cl lv : List ByteArray) (c e : Int) : ceN n (.mk k its ps ns cl lv c e) = (lnV k its.length ps.length).toNat + sumBy (kidC n) ps := by
  cases n <;> rw [ceN] <;> rfl
theorem lnV_nn (k : Int) (a b : Nat) : 0 ≤ lnV k a b := by unfold lnV; split <;> omega
theorem ceN_mk (n : Nat) (k : Int) (its : List It) (ps : List Vec) (ns cl lv : List ByteArray) (c e : Int) : ((ceN n (.mk k its ps ns cl lv c e) : Nat) : Int) = lnV k its.length ps.length + (sumBy (kidC n) ps : Nat) := by
  have := lnV_nn k its.length ps.length
  rw [ceN_mk']; omega
def ceB : Nat → Nat
  | 0 => 40
  | n + 1 => 40 + 40 * ceB n
theorem sumBy_bd {α : Type} (f : α → Nat) (m : Nat) : ∀ l : List α, (∀ x ∈ l, f x ≤ m) → sumBy f l ≤ l.length * m
  | [], _ => by simp [sumBy]
  | x :: l, h => by
    have h1 := h x (List.mem_cons_self ..)
    have h2 := sumBy_bd f m l fun y hy => h y (List.mem_cons_of_mem _ hy)
    have : sumBy f (x :: l) = f x + sumBy f l := by simp [sumBy]
    rw [this, List.length_cons, Nat.succ_mul]; omega
theorem shB_bd {k : Int} {its : List It} {np : Nat} {ns cl lv : List ByteArray} {c e : Int} (h : shB k its np ns cl lv c e = true) : lnV k its.length np ≤ 40 ∧ np ≤ 40 := by
  unfold shB gA gB at h
  simp only [Bool.and_eq_true, Bool.or_eq_true, decide_eq_true_eq] at h
  have h1 := h.1.2.1
  have h2 := h.2.1.2.2
  refine ⟨h1, ?_⟩
  rcases h2 with h2 | h2
  · unfold lnV at h1; rw [if_neg (by omega)] at h1; omega
  · omega
theorem ceN_le : ∀ n v, vcB n v = true → ceN n v ≤ ceB n := by
  intro n
  induction n with
  | zero =>
    rintro ⟨k, its, ps, ns, cl, lv, c, e⟩ h
    rw [vcB_mk, Bool.and_eq_true] at h
    have hb := shB_bd h.1
    have := lnV_nn k its.length ps.length
    rw [ceN_mk']
    have h2 := sumBy_bd (kidC 0) 0 ps fun x _ => Nat.le_refl 0
    show _ ≤ 40
    omega
  | succ n ih =>
    rintro ⟨k, its, ps, ns, cl, lv, c, e⟩ h
    rw [vcB_mk, Bool.and_eq_true] at h
    have hb := shB_bd h.1
    have := lnV_nn k its.length ps.length
    rw [ceN_mk']
    have h2 := sumBy_bd (kidC (n + 1)) (ceB n) ps fun x hx => ih x (by
      obtain ⟨j, hj, rfl⟩ := List.getElem_of_mem hx
      have := allB_iff.1 h.2 j hj
      have e : kidB (n + 1) ps j = vcB n (ps.getD j default) := rfl
      rw [e, List.getD_eq_getElem?_getD, List.getElem?_eq_getElem hj] at this
      exact this)
    show _ ≤ 40 + 40 * ceB n
    have h3 : ps.length * ceB n ≤ 40 * ceB n := Nat.mul_le_mul_right _ hb.2
    omega
theorem ceN_bd (n : Nat) (hn : n ≤ 3) (v : Vec) (h : vcB n v = true) : ceN n v ≤ 3000000 := by
  have h1 := ceN_le n v h
  have h2 : ceB n ≤ 3000000 := by
    rcases n with _ | _ | _ | _ | n
    · decide
    · decide
    · decide
    · decide
    · omega
  omega
def isVc (v : Vec) : Bool := vcB 3 v && decide ((ceN 3 v : Int) ≤ 200)
def dpB : Nat → Vec → Bool
  | 0, .mk k its ps ns cl lv c e => allB (fun _ => false) ps.length
  | n + 1, .mk k its ps ns cl lv c e => allB (fun j => dpB n (ps.getD j default)) ps.length
def neN : Nat → Vec → Nat
  | 0, _ => 1
  | n + 1, .mk k its ps ns cl lv c e => (ps.map fun p => neN n p + 1).foldl max 0
theorem vcB_dpB : ∀ n v, vcB n v = true → dpB n v = true := by
  intro n
  induction n with
  | zero =>
    rintro ⟨k, its, ps, ns, cl, lv, c, e⟩ h
    rw [vcB, Bool.and_eq_true] at h
    rw [dpB]; exact h.2
  | succ n ih =>
    rintro ⟨k, its, ps, ns, cl, lv, c, e⟩ h
    rw [vcB, Bool.and_eq_true] at h
    rw [dpB]
    exact allB_iff.2 fun i hi => ih _ (allB_iff.1 h.2 i hi)
theorem foldl_max_le (m : Nat) : ∀ (l : List Nat) (a : Nat), l.foldl max a ≤ m ↔ a ≤ m ∧ ∀ x ∈ l, x ≤ m
  | [], a => by simp
  | x :: l, a => by
    rw [List.foldl_cons, foldl_max_le m l]
    simp only [List.mem_cons, forall_eq_or_imp, Nat.max_le, and_assoc]
theorem neN_dp : ∀ n v, neN (n + 1) v ≤ n ↔ dpB n v = true := by
  intro n
  induction n with
  | zero =>
    rintro ⟨k, its, ps, ns, cl, lv, c, e⟩
    rw [neN, dpB, foldl_max_le]
    cases ps with
    | nil => simp [allB]
    | cons p l =>
      constructor
      · intro h; have := h.2 (neN 0 p + 1) (by simp); omega
      · intro h; have := allB_iff.1 h 0 (by simp); exact absurd this (by decide)
  | succ n ih =>
    rintro ⟨k, its, ps, ns, cl, lv, c, e⟩
    rw [neN, dpB, foldl_max_le]
    constructor
    · intro h
      exact allB_iff.2 fun i hi => (ih _).1 (by have := h.2 (neN (n + 1) (ps.getD i default) + 1) (List.mem_map.2 ⟨_, getD_mem hi, rfl⟩); omega)
    · intro h
      refine ⟨by omega, fun x hx => ?_⟩
      obtain ⟨p, hp, rfl⟩ := List.mem_map.1 hx
      obtain ⟨j, hj, rfl⟩ := List.getElem_of_mem hp
      have h1 := allB_iff.1 h j hj
      have e : ps.getD j default = ps[j] := by rw [List.getD_eq_getElem?_getD, List.getElem?_eq_getElem hj]; rfl
      rw [e] at h1
      have := (ih _).2 h1
      omega
theorem neN_bd : ∀ n v, neN n v ≤ n + 1 := by
  intro n
  induction n with
  | zero => intro v; unfold neN; omega
  | succ n ih =>
    rintro ⟨k, its, ps, ns, cl, lv, c, e⟩
    rw [neN, foldl_max_le]
    refine ⟨by omega, fun x hx => ?_⟩
    obtain ⟨p, hp, rfl⟩ := List.mem_map.1 hx
    have := ih p
    omega
end Go.Proofs.Ytkhibgknpcgneaa

