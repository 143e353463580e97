/- The laws' sizes, conversions, comparisons: []string, []int. -/
import Derived.Test.YtmbjaohohkfjbaaTxt
import Derived.Test.YtmbjaohohkfjbaaRdT
namespace Go.Proofs.Ytmbjaohohkfjbaa
open Go.RowKit
set_option linter.unusedVariables false
set_option linter.unusedSimpArgs false
set_option maxRecDepth 100000

/-- what is left, or -1 -/
def szF (left : Int) (wt : Nat) : Int := if (wt : Int) ≤ left then left - wt else -1
theorem szF_le {left : Int} {wt : Nat} (h : (wt : Int) ≤ left) : szF left wt = left - wt := if_pos h
theorem szF_gt {left : Int} {wt : Nat} (h : left < wt) : szF left wt = -1 := if_neg (by omega)

def sumOf {α : Type} (f : α → Nat) : List α → Nat
  | [] => 0
  | x :: l => f x + sumOf f l
theorem sumOf_app {α : Type} (f : α → Nat) (l m : List α) : sumOf f (l ++ m) = sumOf f l + sumOf f m := by
  induction l with
  | nil => simp [sumOf]
  | cons x l ih => simp only [List.cons_append, sumOf, ih]; omega
theorem sumOf_take {α : Type} [Inhabited α] (f : α → Nat) {l : List α} {i : Nat} (h : i < l.length) : sumOf f (l.take (i + 1)) = sumOf f (l.take i) + f (l.getD i default) := by
  rw [List.take_succ_eq_append_getElem h, sumOf_app, List.getD_eq_getElem?_getD, List.getElem?_eq_getElem h]; simp [sumOf]
theorem sumOf_le {α : Type} (f : α → Nat) (l : List α) (i : Nat) : sumOf f (l.take i) ≤ sumOf f l := by
  have := sumOf_app f (l.take i) (l.drop i)
  rw [List.take_append_drop] at this; omega
theorem sumOf_mem {α : Type} (f : α → Nat) {l : List α} {x : α} (h : x ∈ l) : f x ≤ sumOf f l := by
  induction l with
  | nil => cases h
  | cons y l ih => rcases List.mem_cons.1 h with rfl | h
                   · simp [sumOf]
                   · have := ih h; simp only [sumOf]; omega
theorem getD_mem {α : Type} [Inhabited α] {l : List α} {i : Nat} (h : i < l.length) : l.getD i default ∈ l := by
  rw [List.getD_eq_getElem?_getD, List.getElem?_eq_getElem h]; exact List.getElem_mem h
/-- rows that are filled from the left -/
def fillL {α : Type} (l : List α) (k : Nat) (z : α) : List α := l.take k ++ List.replicate (l.length - k) z
theorem fill0 {α β : Type} (l : List α) (e : α → β) (z : β) : List.replicate l.length z = fillL (l.map e) 0 z := by simp [fillL]
theorem fillL_len {α : Type} {l : List α} {k : Nat} {z : α} (h : k ≤ l.length) : (fillL l k z).length = l.length := by simp [fillL]; omega
theorem fillL_get {α : Type} {l : List α} {k : Nat} {z : α} (h : k < l.length) : (fillL l k z)[k]? = some z := by
  unfold fillL
  rw [List.getElem?_append_right (by simp; omega), List.length_take, Nat.min_eq_left (by omega), Nat.sub_self, List.getElem?_replicate, if_pos (by omega)]
theorem fillL_set {α : Type} {l : List α} {k : Nat} {x z : α} (h : l[k]? = some x) : (fillL l k z).set k x = fillL l (k + 1) z := by
  have hk : k < l.length := (List.getElem?_eq_some_iff.1 h).1
  apply List.ext_getElem?
  intro j
  rw [List.getElem?_set]
  unfold fillL
  by_cases hj : k = j
  · subst hj
    rw [if_pos rfl, if_pos (by simp; omega), List.getElem?_append_left (by simp; omega)]
    rw [List.getElem?_take, if_pos (by omega), h]
  · rw [if_neg hj]
    by_cases hlt : j < k
    · rw [List.getElem?_append_left (by simp; omega), List.getElem?_append_left (by simp; omega), List.getElem?_take, List.getElem?_take, if_pos hlt, if_pos (by omega)]
    · rw [List.getElem?_append_right (by simp; omega), List.getElem?_append_right (by simp; omega)]
      simp only [List.length_take, List.getElem?_replicate]
      have e1 : (j - min k l.length < l.length - k) ↔ (j - min (k + 1) l.length < l.length - (k + 1)) := by omega
      by_cases h2 : j - min k l.length < l.length - k
      · rw [if_pos h2, if_pos (e1.1 h2)]
      · rw [if_neg h2, if_neg (fun h => h2 (e1.2 h))]
theorem fillL_end {α : Type} (l : List α) (z : α) : fillL l l.length z = l := by simp [fillL]
theorem fillL_endm {α β : Type} (l : List α) (e : α → β) (z : β) : fillL (l.map e) l.length z = l.map e := by have := fillL_end (l.map e) z; rwa [List.length_map] at this
theorem e_fill {α : Type} [Inhabited α] {e : α → List DV} {l : List α} {t k i : Nat} {kd : IntKind} {z ds : List DV} (hd : ds = e (l.getD i default)) (hz : z.length = k) (he : ∀ x, (e x).length = k) (h : i < l.length) :
    eSet k 0 (some (.sl t k (fillL (l.map e) i z))) (some (.sc (.int kd (i : Int)))) (some ds) = some [.sl t k (fillL (l.map e) (i + 1) z)] := by
  subst hd
  have h1 : (l.map e)[i]? = some (e (l.getD i default)) := by rw [List.getElem?_map, getD_some h]; rfl
  rw [e_set (e := z) (by omega) (by rw [he]; omega) (by rw [Int.toNat_natCast]; exact fillL_get (by simpa using h)), Int.toNat_natCast]
  have h2 : plug 0 (e (l.getD i default)) z = e (l.getD i default) := by
    unfold plug
    simp only [List.take_zero, List.nil_append, Nat.zero_add]
    rw [List.drop_of_length_le (by rw [he, hz]; exact Nat.le_refl _), List.append_nil]
  rw [h2, fillL_set h1]
theorem e_chkF {α : Type} {e : α → List DV} {l : List α} {t k i : Nat} {kd : IntKind} {z : List DV} (h : i < l.length) : eChk k (some (.sl t k (fillL (l.map e) i z))) (some (.sc (.int kd (i : Int)))) = some [] :=
  e_chk (by omega) (by rw [fillL_len (by simp; omega)]; simp; omega)
theorem e_makeL {α : Type} {e : α → List DV} {l : List α} {el k b : Nat} {zz : List DV} (h1 : l.length ≤ 1000000000) (hb : b ≤ 140) : eMake el k b zz (some (.sc (.int .i64 (l.length : Int)))) = some [.sl el k (fillL (l.map e) 0 zz)] := by
  rw [e_make (by omega) (by omega) hb, ← fill0, Int.toNat_natCast]

def wtSs (l : List ByteArray) : Nat := l.length + sumOf ByteArray.size l
def OkSs (l : List ByteArray) : Prop := l.length ≤ 9223372036854775807 ∧ ∀ s ∈ l, s.size ≤ 9223372036854775807
def OkZs (l : List Int) : Prop := l.length ≤ 9223372036854775807 ∧ ∀ n ∈ l, In64 n
theorem wtSs_len {l : List ByteArray} {n : Nat} (h : wtSs l ≤ n) : l.length ≤ n := by unfold wtSs at h; omega
theorem wtSs_size {l : List ByteArray} {n : Nat} (h : wtSs l ≤ n) : ∀ s ∈ l, s.size ≤ n := fun s hs => by have := sumOf_mem ByteArray.size hs; unfold wtSs at h; omega
theorem hasB_take {F : List ByteArray} {i : Nat} (h : i < F.length) : hasB (F.take i) (F.getD i default) = decide (find1 F (F.getD i default) < i) := by
  have hm := getD_mem (l := F) h
  rcases find1_spec F (F.getD i default) with ⟨_, h2⟩ | ⟨k, h1, h2, h3⟩
  · exact absurd hm h2
  · rw [h1]
    rw [Bool.eq_iff_iff, hasB_iff, decide_eq_true_eq]
    constructor
    · intro hx
      obtain ⟨j, hj⟩ := List.getElem?_of_mem hx
      have hj2 := (List.getElem?_eq_some_iff.1 hj).1
      rw [List.length_take] at hj2
      rw [List.getElem?_take, if_pos (by omega)] at hj
      rcases Nat.lt_or_ge j k with g | g
      · exact absurd hj (h3 j g)
      · omega
    · intro hk
      refine List.mem_of_getElem? (i := k) ?_
      rw [List.getElem?_take, if_pos (by omega)]; exact h2
theorem opD_Ss : OpD (fun l => [encSs l]) OkSs Try.prog 24 := opD_slice (e := encS) 9 Try.underlying24 (by kernel_rfl) (by decide) (fun _ => rfl) (opD_str Try.underlying9)
theorem opD_Zs : OpD (fun l => [encZs l]) OkZs Try.prog 27 := opD_slice (e := encZ) 3 Try.underlying27 (by kernel_rfl) (by decide) (fun _ => rfl) (opD_int Try.underlying3)

end Go.Proofs.Ytmbjaohohkfjbaa
