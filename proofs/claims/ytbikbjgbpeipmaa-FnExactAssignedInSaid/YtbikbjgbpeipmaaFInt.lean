/- Texts as lists of bytes; FormatInt (impl and spec). -/
import Derived.Test.YtbikbjgbpeipmaaTxt
namespace Go.Proofs.Ytbikbjgbpeipmaa
open Go.RowKit
set_option linter.unusedVariables false
set_option linter.unusedSimpArgs false
set_option maxRecDepth 100000

def encU (n : Nat) : List DV := [.sc (.int .u8 (n : Int))]
def ofN (l : List Nat) : ByteArray := strOfNums (l.map fun n : Nat => (n : Int))
theorem ofN_data (l : List Nat) : (ofN l).data.toList = l.map UInt8.ofNat := by
  unfold ofN; rw [strOfNums_data, List.map_map]; rfl
theorem ofN_app (l m : List Nat) : ofN (l ++ m) = ofN l ++ ofN m := by
  apply ByteArray.ext
  apply Array.ext'
  rw [ByteArray.data_append, Array.toList_append, ofN_data, ofN_data, ofN_data, List.map_append]
theorem ofN_size (l : List Nat) : (ofN l).size = l.length := by
  unfold ofN; rw [strOfNums_size, List.length_map]
theorem ofN_nil : ofN [] = ⟨#[]⟩ := rfl
theorem nums_encU (l : List Nat) : numsOf (l.map encU) = some (l.map fun n : Nat => (n : Int)) := by
  induction l with
  | nil => rfl
  | cons n l ih => simp only [List.map_cons, encU, numsOf]; rw [ih]
theorem cvB_u {t : Nat} {l : List Nat} : eCvB (some (.sl t 1 (l.map encU))) = some [.sc (.string (ofN l))] := e_cvB (nums_encU l)
theorem ix_u {t : Nat} {l : List Nat} {kd : IntKind} {z : Int} (h : 0 ≤ z) (h1 : z < l.length) : eIdx 1 (some (.sl t 1 (l.map encU))) (some (.sc (.int kd z))) = some [.sc (.int .u8 (l.getD z.toNat default : Nat))] := e_idx_map (fun _ => rfl) h h1
theorem st_u {t : Nat} {l : List Nat} {kd : IntKind} {z : Int} {n : Nat} (h : 0 ≤ z) (h1 : z < l.length) : eSet 1 0 (some (.sl t 1 (l.map encU))) (some (.sc (.int kd z))) (some [.sc (.int .u8 (n : Int))]) = some [.sl t 1 ((l.set z.toNat n).map encU)] := by
  rw [e_set_map (e := encU) (fun _ => rfl) h h1 rfl, List.map_set]; rfl
theorem map_u (l : List Nat) (n : Nat) : l.map encU ++ [[.sc (.int .u8 (n : Int))]] = (l ++ [n]).map encU := by rw [List.map_append]; rfl
theorem byte_mk {s : ByteArray} {i : Nat} (h : i < s.size) : s.extract i (i + 1) = ofN [byteAt s i] := by
  apply ByteArray.ext
  apply Array.ext'
  rw [ofN_data, ByteArray.data_extract]
  have hd : i < s.data.size := h
  have hb : byteAt s i = (s.data[i]).toNat := by unfold byteAt; rw [getElem?_pos s i h]; rfl
  rw [hb]
  apply List.ext_getElem
  · simp; omega
  · intro j h1 h2
    simp at h1 h2
    have : j = 0 := by omega
    subst this
    simp

/-- the digits of a number -/
def dgs (m : Nat) : List Nat := if h : m = 0 then [] else dgs (m / 10) ++ [48 + m % 10]
termination_by m
decreasing_by omega
theorem dgs_zero : dgs 0 = [] := by rw [dgs]; simp
theorem dgs_pos {m : Nat} (h : m ≠ 0) : dgs m = dgs (m / 10) ++ [48 + m % 10] := by rw [dgs, dif_neg h]
theorem dgs_len (k : Nat) : ∀ m, m < 10 ^ k → (dgs m).length ≤ k := by
  induction k with
  | zero => intro m h; have : m = 0 := by simpa using h
            subst this; rw [dgs_zero]; exact Nat.zero_le _
  | succ k ih =>
    intro m h
    by_cases h0 : m = 0
    · subst h0; rw [dgs_zero]; exact Nat.zero_le _
    · rw [dgs_pos h0, List.length_append, List.length_singleton]
      have := ih (m / 10) (by rw [Nat.pow_succ] at h; omega)
      omega
theorem dgs_len19 {m : Nat} (h : m ≤ 9223372036854775808) : (dgs m).length ≤ 19 := dgs_len 19 m (Nat.lt_of_le_of_lt h (by decide))
def fmtIntL (n : Int) : List Nat := if n = 0 then [48] else if n < 0 then 45 :: dgs n.natAbs else dgs n.natAbs
def fmtInt (n : Int) : ByteArray := ofN (fmtIntL n)
theorem fmtIntL_len {n : Int} (h : In64 n) : (fmtIntL n).length ≤ 20 := by
  have h2 : n.natAbs ≤ 9223372036854775808 := by unfold In64 at h; omega
  have := dgs_len19 h2
  unfold fmtIntL
  split
  · simp
  · split
    · simp; omega
    · omega
theorem absdiv {x : Int} : (x.tdiv 10).natAbs = x.natAbs / 10 := by rw [Int.natAbs_tdiv]; rfl
theorem absmod {x : Int} : (x.tmod 10).natAbs = x.natAbs % 10 := by rw [Int.natAbs_tmod]; rfl
def digS : ByteArray := ⟨#[48, 49, 50, 51, 52, 53, 54, 55, 56, 57]⟩
theorem digS_at {d : Nat} (h : d < 10) : digS.extract d (d + 1) = ofN [48 + d] := by
  have hs : d < digS.size := h
  rw [byte_mk hs]
  have : ∀ k : Fin 10, byteAt digS k.val = 48 + k.val := by decide
  rw [this ⟨d, h⟩]

def swp (D : List Nat) (i : Nat) : List Nat := (List.range D.length).map fun k => if k < i ∨ D.length - 1 - k < i then D.getD (D.length - 1 - k) default else D.getD k default
theorem swp_len (D : List Nat) (i : Nat) : (swp D i).length = D.length := by simp [swp]
theorem swp_at (D : List Nat) (i k : Nat) (h : k < D.length) : (swp D i)[k]? = some (if k < i ∨ D.length - 1 - k < i then D.getD (D.length - 1 - k) default else D.getD k default) := by
  unfold swp; rw [List.getElem?_map, List.getElem?_range h]; rfl
theorem swp_getD (D : List Nat) (i k : Nat) (h : k < D.length) : (swp D i).getD k default = if k < i ∨ D.length - 1 - k < i then D.getD (D.length - 1 - k) default else D.getD k default := by
  rw [List.getD_eq_getElem?_getD, swp_at D i k h]; rfl
theorem swp_zero (D : List Nat) : swp D 0 = D := by
  apply List.ext_getElem?
  intro k
  by_cases h : k < D.length
  · rw [swp_at D 0 k h, if_neg (by omega), getD_some h]
  · rw [List.getElem?_eq_none (by rw [swp_len]; omega), List.getElem?_eq_none (by omega)]
theorem swp_step {D : List Nat} {i : Nat} (h : i < D.length - 1 - i) : ((swp D i).set i ((swp D i).getD (D.length - 1 - i) default)).set (D.length - 1 - i) ((swp D i).getD i default) = swp D (i + 1) := by
  apply List.ext_getElem?
  intro k
  by_cases hk : k < D.length
  · rw [List.getElem?_set, List.getElem?_set, swp_at D (i + 1) k hk, swp_at D i k hk, swp_getD D i i (by omega), swp_getD D i (D.length - 1 - i) (by omega)]
    by_cases e1 : D.length - 1 - i = k
    · subst e1
      rw [if_pos rfl, if_pos (by rw [List.length_set, swp_len]; exact hk), if_neg (by omega), if_pos (by omega)]
      congr 2; omega
    · rw [if_neg e1]
      by_cases e2 : i = k
      · subst e2
        rw [if_pos rfl, if_pos (by rw [swp_len]; exact hk), if_neg (by omega), if_pos (by omega)]
      · rw [if_neg e2]
        by_cases e3 : k < i ∨ D.length - 1 - k < i
        · rw [if_pos e3, if_pos (by omega)]
        · rw [if_neg e3, if_neg (by omega)]
  · rw [List.getElem?_eq_none (by simp [swp_len]; omega), List.getElem?_eq_none (by rw [swp_len]; omega)]
theorem swp_end {D : List Nat} {i : Nat} (h : ¬ i < D.length - 1 - i) : swp D i = D.reverse := by
  apply List.ext_getElem?
  intro k
  by_cases hk : k < D.length
  · rw [swp_at D i k hk, List.getElem?_reverse hk]
    split
    · rw [getD_some (by omega)]
    · rw [← getD_some hk]; congr 1; omega
  · rw [List.getElem?_eq_none (by rw [swp_len]; omega), List.getElem?_eq_none (by simp; omega)]

end Go.Proofs.Ytbikbjgbpeipmaa
