/- Texts as lists of bytes; FormatInt (impl and spec). -/
import Derived.Test.YtgmpajfhjnojiaaUFInt
import Derived.Test.YtgmpajfhjnojiaaTxt
namespace Go.Proofs.Ytgmpajfhjnojiaa
open Go.RowKit
set_option linter.unusedVariables false
set_option linter.unusedSimpArgs false
set_option maxRecDepth 100000

def encU (n : Nat) : List DV := [.sc (.int .u8 (n : Int))]
def ofN (l : List Nat) : ByteArray := strOfNums (l.map fun n : Nat => (n : Int))
theorem ofN_data (l : List Nat) : (ofN l).data.toList = l.map UInt8.ofNat := by
  unfold ofN; rw [strOfNums_data, List.map_map]; rfl
theorem ofN_app (l m : List Nat) : ofN (l ++ m) = ofN l ++ ofN m := by
  apply ByteArray.ext
  apply Array.ext'
  rw [ByteArray.data_append, Array.toList_append, ofN_data, ofN_data, ofN_data, List.map_append]
theorem ofN_size (l : List Nat) : (ofN l).size = l.length := by
  unfold ofN; rw [strOfNums_size, List.length_map]
theorem ofN_nil : ofN [] = ⟨#[]⟩ := rfl
theorem nums_encU (l : List Nat) : numsOf (l.map encU) = some (l.map fun n : Nat => (n : Int)) := by
  induction l with
  | nil => rfl
  | cons n l ih => simp only [List.map_cons, encU, numsOf]; rw [ih]
theorem cvB_u {t : Nat} {l : List Nat} : eCvB (some (.sl t 1 (l.map encU))) = some [.sc (.string (ofN l))] := e_cvB (nums_encU l)
theorem ix_u {t : Nat} {l : List Nat} {kd : IntKind} {z : Int} (h : 0 ≤ z) (h1 : z < l.length) : eIdx 1 (some (.sl t 1 (l.map encU))) (some (.sc (.int kd z))) = some [.sc (.int .u8 (l.getD z.toNat default : Nat))] := e_idx_map (fun _ => rfl) h h1
theorem st_u {t : Nat} {l : List Nat} {kd : IntKind} {z : Int} {n : Nat} (h : 0 ≤ z) (h1 : z < l.length) : eSet 1 0 (some (.sl t 1 (l.map encU))) (some (.sc (.int kd z))) (some [.sc (.int .u8 (n : Int))]) = some [.sl t 1 ((l.set z.toNat n).map encU)] := by
  rw [e_set_map (e := encU) (fun _ => rfl) h h1 rfl, List.map_set]; rfl
theorem map_u (l : List Nat) (n : Nat) : l.map encU ++ [[.sc (.int .u8 (n : Int))]] = (l ++ [n]).map encU := by rw [List.map_append]; rfl
theorem byte_mk {s : ByteArray} {i : Nat} (h : i < s.size) : s.extract i (i + 1) = ofN [byteAt s i] := by
  apply ByteArray.ext
  apply Array.ext'
  rw [ofN_data, ByteArray.data_extract]
  have hd : i < s.data.size := h
  have hb : byteAt s i = (s.data[i]).toNat := by unfold byteAt; rw [getElem?_pos s i h]; rfl
  rw [hb]
  apply List.ext_getElem
  · simp; omega
  · intro j h1 h2
    simp at h1 h2
    have : j = 0 := by omega
    subst this
    simp

/-- the digits of a number -/
def dgs (m : Nat) : List Nat := if h : m = 0 then [] else dgs (m / 10) ++ [48 + m % 10]
termination_by m
decreasing_by omega
theorem dgs_zero : dgs 0 = [] := by rw [dgs]; simp
theorem dgs_pos {m : Nat} (h : m ≠ 0) : dgs m = dgs (m / 10) ++ [48 + m % 10] := by rw [dgs, dif_neg h]
theorem dgs_len (k : Nat) : ∀ m, m < 10 ^ k → (dgs m).length ≤ k := by
  induction k with
  | zero => intro m h; have : m = 0 := by simpa using h
            subst this; rw [dgs_zero]; exact Nat.zero_le _
  | succ k ih =>
    intro m h
    by_cases h0 : m = 0
    · subst h0; rw [dgs_zero]; exact Nat.zero_le _
    · rw [dgs_pos h0, List.length_append, List.length_singleton]
      have := ih (m / 10) (by rw [Nat.pow_succ] at h; omega)
      omega
theorem dgs_len19 {m : Nat} (h : m ≤ 9223372036854775808) : (dgs m).length ≤ 19 := dgs_len 19 m (Nat.lt_of_le_of_lt h (by decide))
def fmtIntL (n : Int) : List Nat := if n = 0 then [48] else if n < 0 then 45 :: dgs n.natAbs else dgs n.natAbs
def fmtInt (n : Int) : ByteArray := ofN (fmtIntL n)
theorem fmtIntL_len {n : Int} (h : In64 n) : (fmtIntL n).length ≤ 20 := by
  have h2 : n.natAbs ≤ 9223372036854775808 := by unfold In64 at h; omega
  have := dgs_len19 h2
  unfold fmtIntL
  split
  · simp
  · split
    · simp; omega
    · omega
theorem absdiv {x : Int} : (x.tdiv 10).natAbs = x.natAbs / 10 := by rw [Int.natAbs_tdiv]; rfl
theorem absmod {x : Int} : (x.tmod 10).natAbs = x.natAbs % 10 := by rw [Int.natAbs_tmod]; rfl
def digS : ByteArray := ⟨#[48, 49, 50, 51, 52, 53, 54, 55, 56, 57]⟩
theorem digS_at {d : Nat} (h : d < 10) : digS.extract d (d + 1) = ofN [48 + d] := by
  have hs : d < digS.size := h
  rw [byte_mk hs]
  have : ∀ k : Fin 10, byteAt digS k.val = 48 + k.val := by decide
  rw [this ⟨d, h⟩]

set_option maxHeartbeats 1000000 in
theorem specFmtInt_m (n : Int) (hn : In64 n) : Meets Try.prog 94 [(false, [.sc (.int .i64 n)])] [(false, [.sc (.string (fmtInt n))], true)] := by
  have hn' : -9223372036854775808 ≤ n ∧ n ≤ 9223372036854775807 := hn
  have hlen := dgs_len19 (m := n.natAbs) (by omega)
  refine meets_upf Try.func94 u_spec_FormatInt_g rfl ?_; simp only [u_spec_FormatInt_u]
  simp (disch := first | omega | (simp only [List.length_take, List.length_drop, List.length_append, List.map_cons, List.map_nil, List.length_map, List.length_cons, List.length_nil, List.length_set, List.length_replicate]; omega) | (simp only [List.length_cons, List.length_nil, Nat.zero_add, Nat.reduceAdd])) only [go_sem, ↓reduceIte, Nat.reduceAdd, Int.reduceNeg, Int.reduceAdd, Int.reduceSub, Int.reduceMul, Int.reduceLT, Int.reduceLE, Int.reduceEq, Int.reduceToNat, Nat.reduceBEq, e_sle, e_sge, e_shl1, e_orI, e_andI, e_shr, wrapu, wrap8, tn1, nat1, ix_s, ix_z, st_s, st_z, fl_s, fl_z, fl1_s, fl1_z, map_s, map_z, true_and]
  refine lp (fun s : Int × List Nat => [.sc (.int .i64 s.1), .sc (.string (ofN s.2))]) (fun s => s.1.natAbs ≤ 9223372036854775808 ∧ -9223372036854775808 ≤ s.1 ∧ s.1 ≤ 9223372036854775807 ∧ dgs s.1.natAbs ++ s.2 = dgs n.natAbs) (fun s => s.1.natAbs) (n, []) rfl ⟨by simp only; omega, by simp only; omega, by simp only; omega, by simp⟩ ?_
  rintro ⟨x, acc⟩ ⟨g1, g2, g3, g4⟩
  simp only at g1 g2 g3 g4 ⊢
  simp only [u_spec_FormatInt_l1]
  by_cases hx : x = 0
  · subst hx
    rw [Int.natAbs_zero, dgs_zero, List.nil_append] at g4
    have hsz := ofN_size acc
    rw [g4] at hsz ⊢
    have e1 : (⟨#[45]⟩ : ByteArray).size + (ofN (dgs n.natAbs)).size ≤ maxLen := by
      have e : (⟨#[45]⟩ : ByteArray).size = 1 := rfl
      unfold maxLen; omega
    repeat' (first | (with_reducible refine jn_in ?_) | (with_reducible refine cl_ok (by assumption) rfl ?_) | (with_reducible refine cl_okP (by assumption) rfl ?_) | (with_reducible refine br_if (fun hbr => ?_) (fun hbr => ?_)) | (with_reducible refine br_ifn (fun hbr => ?_) (fun hbr => ?_)) | (with_reducible refine br_nb (fun hbr => ?_) (fun hbr => ?_)) | (with_reducible refine br_b (fun hbr => ?_) (fun hbr => ?_)) | simp (disch := first | omega | (simp only [List.length_take, List.length_drop, List.length_append, List.map_cons, List.map_nil, List.length_map, List.length_cons, List.length_nil, List.length_set, List.length_replicate]; omega) | (simp only [List.length_cons, List.length_nil, Nat.zero_add, Nat.reduceAdd])) only [go_sem, ↓reduceIte, Nat.reduceAdd, Int.reduceNeg, Int.reduceAdd, Int.reduceSub, Int.reduceMul, Int.reduceLT, Int.reduceLE, Int.reduceEq, Int.reduceToNat, Nat.reduceBEq, e_sle, e_sge, e_shl1, e_orI, e_andI, e_shr, wrapu, wrap8, tn1, nat1, ix_s, ix_z, st_s, st_z, fl_s, fl_z, fl1_s, fl1_z, map_s, map_z, e_cat e1])
    · exact ret_s (by unfold fmtInt fmtIntL; rw [if_pos ‹n = 0›]; rfl)
    · refine ret_s ?_
      unfold fmtInt fmtIntL
      rw [if_neg ‹¬ n = 0›, if_pos ‹n < 0›]
      exact ofN_app [45] _
    · refine ret_s ?_
      unfold fmtInt fmtIntL
      rw [if_neg ‹¬ n = 0›, if_neg ‹¬ n < 0›]
  · have hd := dgs_pos (m := x.natAbs) (by omega)
    have a1 := @absdiv x
    have a2 := @absmod x
    have a3 : x.tmod 10 < 10 ∧ -10 < x.tmod 10 := by omega
    have hl2 : acc.length ≤ 19 := by
      have := congrArg List.length g4
      rw [List.length_append] at this; omega
    have hsz := ofN_size acc
    have hm10 : x.natAbs % 10 < 10 := Nat.mod_lt _ (by decide)
    have hdg := digS_at hm10
    have e0 : (ofN [48 + x.natAbs % 10]).size = 1 := by rw [ofN_size]; rfl
    have e1 : (ofN [48 + x.natAbs % 10]).size + (ofN acc).size ≤ maxLen := by unfold maxLen; omega
    have happ : ofN [48 + x.natAbs % 10] ++ ofN acc = ofN ((48 + x.natAbs % 10) :: acc) := (ofN_app [48 + x.natAbs % 10] acc).symm
    have hne : ¬ (10 : Int) = 0 := by decide
    have hfin : ∀ y : Int, y = x.tdiv 10 → (∃ a' : Int × List Nat, [DV.sc (.int .i64 y), .sc (.string (ofN ((48 + x.natAbs % 10) :: acc)))] = [.sc (.int .i64 a'.1), .sc (.string (ofN a'.2))] ∧ (a'.1.natAbs ≤ 9223372036854775808 ∧ -9223372036854775808 ≤ a'.1 ∧ a'.1 ≤ 9223372036854775807 ∧ dgs a'.1.natAbs ++ a'.2 = dgs n.natAbs) ∧ a'.1.natAbs < x.natAbs) := by
      rintro y rfl
      refine ⟨(x.tdiv 10, (48 + x.natAbs % 10) :: acc), rfl, ⟨by simp only; omega, by simp only; omega, by simp only; omega, ?_⟩, by simp only; omega⟩
      rw [← g4, hd, a1]; simp
    generalize hdd : x.natAbs % 10 = d at *
    by_cases hneg : x.tmod 10 < 0
    · have t1 : x.tmod 10 = -(d : Int) := by omega
      have c1 : (0 : Int) - -(d : Int) = (d : Int) := by omega
      have hcut : eCutS (some (.sc (.string ⟨#[48, 49, 50, 51, 52, 53, 54, 55, 56, 57]⟩))) (some (some (d : Int))) (some (some ((d + 1 : Nat) : Int))) = some [.sc (.string (ofN [48 + d]))] := by
        rw [e_cS (by omega) (by omega) (by show ((d + 1 : Nat) : Int) ≤ ((10 : Nat) : Int); omega)]
        exact congrArg (fun z => some [DV.sc (.string z)]) hdg
      repeat' (first | (with_reducible refine jn_in ?_) | (with_reducible refine cl_ok (by assumption) rfl ?_) | (with_reducible refine cl_okP (by assumption) rfl ?_) | (with_reducible refine br_if (fun hbr => ?_) (fun hbr => ?_)) | (with_reducible refine br_ifn (fun hbr => ?_) (fun hbr => ?_)) | (with_reducible refine br_nb (fun hbr => ?_) (fun hbr => ?_)) | (with_reducible refine br_b (fun hbr => ?_) (fun hbr => ?_)) | simp (disch := first | omega | (simp only [List.length_take, List.length_drop, List.length_append, List.map_cons, List.map_nil, List.length_map, List.length_cons, List.length_nil, List.length_set, List.length_replicate]; omega) | (simp only [List.length_cons, List.length_nil, Nat.zero_add, Nat.reduceAdd])) only [go_sem, ↓reduceIte, Nat.reduceAdd, Int.reduceNeg, Int.reduceAdd, Int.reduceSub, Int.reduceMul, Int.reduceLT, Int.reduceLE, Int.reduceEq, Int.reduceToNat, Nat.reduceBEq, e_sle, e_sge, e_shl1, e_orI, e_andI, e_shr, wrapu, wrap8, tn1, nat1, ix_s, ix_z, st_s, st_z, fl_s, fl_z, fl1_s, fl1_z, map_s, map_z, t1, c1, hcut, e_cat e1, happ, u_spec_FormatInt_j0])
      all_goals first | omega | exact hfin _ rfl
    · have t1 : x.tmod 10 = (d : Int) := by omega
      have hcut : eCutS (some (.sc (.string ⟨#[48, 49, 50, 51, 52, 53, 54, 55, 56, 57]⟩))) (some (some (d : Int))) (some (some ((d + 1 : Nat) : Int))) = some [.sc (.string (ofN [48 + d]))] := by
        rw [e_cS (by omega) (by omega) (by show ((d + 1 : Nat) : Int) ≤ ((10 : Nat) : Int); omega)]
        exact congrArg (fun z => some [DV.sc (.string z)]) hdg
      repeat' (first | (with_reducible refine jn_in ?_) | (with_reducible refine cl_ok (by assumption) rfl ?_) | (with_reducible refine cl_okP (by assumption) rfl ?_) | (with_reducible refine br_if (fun hbr => ?_) (fun hbr => ?_)) | (with_reducible refine br_ifn (fun hbr => ?_) (fun hbr => ?_)) | (with_reducible refine br_nb (fun hbr => ?_) (fun hbr => ?_)) | (with_reducible refine br_b (fun hbr => ?_) (fun hbr => ?_)) | simp (disch := first | omega | (simp only [List.length_take, List.length_drop, List.length_append, List.map_cons, List.map_nil, List.length_map, List.length_cons, List.length_nil, List.length_set, List.length_replicate]; omega) | (simp only [List.length_cons, List.length_nil, Nat.zero_add, Nat.reduceAdd])) only [go_sem, ↓reduceIte, Nat.reduceAdd, Int.reduceNeg, Int.reduceAdd, Int.reduceSub, Int.reduceMul, Int.reduceLT, Int.reduceLE, Int.reduceEq, Int.reduceToNat, Nat.reduceBEq, e_sle, e_sge, e_shl1, e_orI, e_andI, e_shr, wrapu, wrap8, tn1, nat1, ix_s, ix_z, st_s, st_z, fl_s, fl_z, fl1_s, fl1_z, map_s, map_z, t1, hcut, e_cat e1, happ, u_spec_FormatInt_j0])
      all_goals first | omega | exact hfin _ rfl
/-! ### a list turned round by swaps -/
def swp (D : List Nat) (i : Nat) : List Nat := (List.range D.length).map fun k => if k < i ∨ D.length - 1 - k < i then D.getD (D.length - 1 - k) default else D.getD k default
theorem swp_len (D : List Nat) (i : Nat) : (swp D i).length = D.length := by simp [swp]
theorem swp_at (D : List Nat) (i k : Nat) (h : k < D.length) : (swp D i)[k]? = some (if k < i ∨ D.length - 1 - k < i then D.getD (D.length - 1 - k) default else D.getD k default) := by
  unfold swp; rw [List.getElem?_map, List.getElem?_range h]; rfl
theorem swp_getD (D : List Nat) (i k : Nat) (h : k < D.length) : (swp D i).getD k default = if k < i ∨ D.length - 1 - k < i then D.getD (D.length - 1 - k) default else D.getD k default := by
  rw [List.getD_eq_getElem?_getD, swp_at D i k h]; rfl
theorem swp_zero (D : List Nat) : swp D 0 = D := by
  apply List.ext_getElem?
  intro k
  by_cases h : k < D.length
  · rw [swp_at D 0 k h, if_neg (by omega), getD_some h]
  · rw [List.getElem?_eq_none (by rw [swp_len]; omega), List.getElem?_eq_none (by omega)]
theorem swp_step {D : List Nat} {i : Nat} (h : i < D.length - 1 - i) : ((swp D i).set i ((swp D i).getD (D.length - 1 - i) default)).set (D.length - 1 - i) ((swp D i).getD i default) = swp D (i + 1) := by
  apply List.ext_getElem?
  intro k
  by_cases hk : k < D.length
  · rw [List.getElem?_set, List.getElem?_set, swp_at D (i + 1) k hk, swp_at D i k hk, swp_getD D i i (by omega), swp_getD D i (D.length - 1 - i) (by omega)]
    by_cases e1 : D.length - 1 - i = k
    · subst e1
      rw [if_pos rfl, if_pos (by rw [List.length_set, swp_len]; exact hk), if_neg (by omega), if_pos (by omega)]
      congr 2; omega
    · rw [if_neg e1]
      by_cases e2 : i = k
      · subst e2
        rw [if_pos rfl, if_pos (by rw [swp_len]; exact hk), if_neg (by omega), if_pos (by omega)]
      · rw [if_neg e2]
        by_cases e3 : k < i ∨ D.length - 1 - k < i
        · rw [if_pos e3, if_pos (by omega)]
        · rw [if_neg e3, if_neg (by omega)]
  · rw [List.getElem?_eq_none (by simp [swp_len]; omega), List.getElem?_eq_none (by rw [swp_len]; omega)]
theorem swp_end {D : List Nat} {i : Nat} (h : ¬ i < D.length - 1 - i) : swp D i = D.reverse := by
  apply List.ext_getElem?
  intro k
  by_cases hk : k < D.length
  · rw [swp_at D i k hk, List.getElem?_reverse hk]
    split
    · rw [getD_some (by omega)]
    · rw [← getD_some hk]; congr 1; omega
  · rw [List.getElem?_eq_none (by rw [swp_len]; omega), List.getElem?_eq_none (by simp; omega)]

set_option maxHeartbeats 2000000 in
theorem implFmtInt_m (n : Int) (hn : In64 n) : Meets Try.prog 97 [(false, [.sc (.int .i64 n)])] [(false, [.sc (.string (fmtInt n))], true)] := by
  have hn' : -9223372036854775808 ≤ n ∧ n ≤ 9223372036854775807 := hn
  have hlen := dgs_len19 (m := n.natAbs) (by omega)
  refine meets_upf Try.func97 u_impl_FormatInt_g rfl ?_; simp only [u_impl_FormatInt_u]
  simp (disch := first | omega | (simp only [List.length_take, List.length_drop, List.length_append, List.map_cons, List.map_nil, List.length_map, List.length_cons, List.length_nil, List.length_set, List.length_replicate]; omega) | (simp only [List.length_cons, List.length_nil, Nat.zero_add, Nat.reduceAdd])) only [go_sem, ↓reduceIte, Nat.reduceAdd, Int.reduceNeg, Int.reduceAdd, Int.reduceSub, Int.reduceMul, Int.reduceLT, Int.reduceLE, Int.reduceEq, Int.reduceToNat, Nat.reduceBEq, e_sle, e_sge, e_shl1, e_orI, e_andI, e_shr, wrapu, wrap8, tn1, nat1, ix_s, ix_z, st_s, st_z, fl_s, fl_z, fl1_s, fl1_z, map_s, map_z, true_and]
  refine br_if (fun hn0 => ?_) (fun hn0 => ?_)
  · simp (disch := first | omega | (simp only [List.length_take, List.length_drop, List.length_append, List.map_cons, List.map_nil, List.length_map, List.length_cons, List.length_nil, List.length_set, List.length_replicate]; omega) | (simp only [List.length_cons, List.length_nil, Nat.zero_add, Nat.reduceAdd])) only [go_sem, ↓reduceIte, Nat.reduceAdd, Int.reduceNeg, Int.reduceAdd, Int.reduceSub, Int.reduceMul, Int.reduceLT, Int.reduceLE, Int.reduceEq, Int.reduceToNat, Nat.reduceBEq, e_sle, e_sge, e_shl1, e_orI, e_andI, e_shr, wrapu, wrap8, tn1, nat1, ix_s, ix_z, st_s, st_z, fl_s, fl_z, fl1_s, fl1_z, map_s, map_z, true_and]
    exact ret_s (by unfold fmtInt fmtIntL; rw [if_pos hn0]; rfl)
  simp (disch := first | omega | (simp only [List.length_take, List.length_drop, List.length_append, List.map_cons, List.map_nil, List.length_map, List.length_cons, List.length_nil, List.length_set, List.length_replicate]; omega) | (simp only [List.length_cons, List.length_nil, Nat.zero_add, Nat.reduceAdd])) only [go_sem, ↓reduceIte, Nat.reduceAdd, Int.reduceNeg, Int.reduceAdd, Int.reduceSub, Int.reduceMul, Int.reduceLT, Int.reduceLE, Int.reduceEq, Int.reduceToNat, Nat.reduceBEq, e_sle, e_sge, e_shl1, e_orI, e_andI, e_shr, wrapu, wrap8, tn1, nat1, ix_s, ix_z, st_s, st_z, fl_s, fl_z, fl1_s, fl1_z, map_s, map_z, true_and]
  refine lp (fun s : Int × List Nat => [.sc (.int .i64 s.1), .sl 5 1 (s.2.map encU)]) (fun s => s.1.natAbs ≤ 9223372036854775808 ∧ -9223372036854775808 ≤ s.1 ∧ s.1 ≤ 9223372036854775807 ∧ dgs s.1.natAbs ++ s.2.reverse = dgs n.natAbs) (fun s => s.1.natAbs) (n, []) rfl ⟨by simp only; omega, by simp only; omega, by simp only; omega, by simp⟩ ?_
  rintro ⟨x, acc⟩ ⟨g1, g2, g3, g4⟩
  simp only at g1 g2 g3 g4 ⊢
  simp only [u_impl_FormatInt_l3]
  have hl2 : acc.length ≤ 19 := by
    have := congrArg List.length g4
    rw [List.length_append, List.length_reverse] at this; omega
  by_cases hx : x = 0
  · subst hx
    rw [Int.natAbs_zero, dgs_zero, List.nil_append] at g4
    have m45 : acc.map encU ++ [[.sc (.int .u8 45)]] = (acc ++ [45]).map encU := by rw [List.map_append]; rfl
    have key : ∀ (J : List DV → Prop) (c0 c : DV) (D : List Nat), D.length ≤ 20 → D.reverse = fmtIntL n → V Try.prog (isRes [(false, [.sc (.string (fmtInt n))], true)]) u_impl_FormatInt_j2 [J] [.sl 5 1 (D.map encU), c0, c] := by
      intro J c0 c D hD hrev
      simp only [u_impl_FormatInt_j2]
      simp (disch := first | omega | (simp only [List.length_take, List.length_drop, List.length_append, List.map_cons, List.map_nil, List.length_map, List.length_cons, List.length_nil, List.length_set, List.length_replicate]; omega) | (simp only [List.length_cons, List.length_nil, Nat.zero_add, Nat.reduceAdd])) only [go_sem, ↓reduceIte, Nat.reduceAdd, Int.reduceNeg, Int.reduceAdd, Int.reduceSub, Int.reduceMul, Int.reduceLT, Int.reduceLE, Int.reduceEq, Int.reduceToNat, Nat.reduceBEq, e_sle, e_sge, e_shl1, e_orI, e_andI, e_shr, wrapu, wrap8, tn1, nat1, ix_s, ix_z, st_s, st_z, fl_s, fl_z, fl1_s, fl1_z, map_s, map_z, true_and]
      refine lp (fun i : Nat => [.sc (.int .i64 ((D.length : Int) - 1 - i)), .sc (.int .i64 i), .sl 5 1 ((swp D i).map encU)]) (fun i => 2 * i ≤ D.length) (fun i => D.length - i) 0 (by simp [gL, swp_zero]) (by omega) ?_
      intro i hi
      have hsl := swp_len D i
      simp only [u_impl_FormatInt_l1]
      by_cases hlt : i < D.length - 1 - i
      · have hj : (D.length : Int) - 1 - i = ((D.length - 1 - i : Nat) : Int) := by omega
        have hst := swp_step hlt
        have hj2 : ((D.length - 1 - i : Nat) : Int) - 1 = (D.length : Int) - 1 - ((i + 1 : Nat) : Int) := by omega
        rw [hj]
        generalize D.length - 1 - i = j at *
        repeat' (first | (with_reducible refine jn_in ?_) | (with_reducible refine cl_ok (by assumption) rfl ?_) | (with_reducible refine cl_okP (by assumption) rfl ?_) | (with_reducible refine br_if (fun hbr => ?_) (fun hbr => ?_)) | (with_reducible refine br_ifn (fun hbr => ?_) (fun hbr => ?_)) | (with_reducible refine br_nb (fun hbr => ?_) (fun hbr => ?_)) | (with_reducible refine br_b (fun hbr => ?_) (fun hbr => ?_)) | simp (disch := first | omega | (simp only [List.length_take, List.length_drop, List.length_append, List.map_cons, List.map_nil, List.length_map, List.length_cons, List.length_nil, List.length_set, List.length_replicate]; omega) | (simp only [List.length_cons, List.length_nil, Nat.zero_add, Nat.reduceAdd])) only [go_sem, ↓reduceIte, Nat.reduceAdd, Int.reduceNeg, Int.reduceAdd, Int.reduceSub, Int.reduceMul, Int.reduceLT, Int.reduceLE, Int.reduceEq, Int.reduceToNat, Nat.reduceBEq, e_sle, e_sge, e_shl1, e_orI, e_andI, e_shr, wrapu, wrap8, tn1, nat1, ix_s, ix_z, st_s, st_z, fl_s, fl_z, fl1_s, fl1_z, map_s, map_z, ix_u, st_u, List.length_set, hsl, hst, hj2])
        · exact ⟨i + 1, rfl, by omega, by omega⟩
        · omega
      · have he := swp_end hlt
        repeat' (first | (with_reducible refine jn_in ?_) | (with_reducible refine cl_ok (by assumption) rfl ?_) | (with_reducible refine cl_okP (by assumption) rfl ?_) | (with_reducible refine br_if (fun hbr => ?_) (fun hbr => ?_)) | (with_reducible refine br_ifn (fun hbr => ?_) (fun hbr => ?_)) | (with_reducible refine br_nb (fun hbr => ?_) (fun hbr => ?_)) | (with_reducible refine br_b (fun hbr => ?_) (fun hbr => ?_)) | simp (disch := first | omega | (simp only [List.length_take, List.length_drop, List.length_append, List.map_cons, List.map_nil, List.length_map, List.length_cons, List.length_nil, List.length_set, List.length_replicate]; omega) | (simp only [List.length_cons, List.length_nil, Nat.zero_add, Nat.reduceAdd])) only [go_sem, ↓reduceIte, Nat.reduceAdd, Int.reduceNeg, Int.reduceAdd, Int.reduceSub, Int.reduceMul, Int.reduceLT, Int.reduceLE, Int.reduceEq, Int.reduceToNat, Nat.reduceBEq, e_sle, e_sge, e_shl1, e_orI, e_andI, e_shr, wrapu, wrap8, tn1, nat1, ix_s, ix_z, st_s, st_z, fl_s, fl_z, fl1_s, fl1_z, map_s, map_z, cvB_u, he, hrev])
        · omega
        · rfl
    simp (disch := first | omega | (simp only [List.length_take, List.length_drop, List.length_append, List.map_cons, List.map_nil, List.length_map, List.length_cons, List.length_nil, List.length_set, List.length_replicate]; omega) | (simp only [List.length_cons, List.length_nil, Nat.zero_add, Nat.reduceAdd])) only [go_sem, ↓reduceIte, Nat.reduceAdd, Int.reduceNeg, Int.reduceAdd, Int.reduceSub, Int.reduceMul, Int.reduceLT, Int.reduceLE, Int.reduceEq, Int.reduceToNat, Nat.reduceBEq, e_sle, e_sge, e_shl1, e_orI, e_andI, e_shr, wrapu, wrap8, tn1, nat1, ix_s, ix_z, st_s, st_z, fl_s, fl_z, fl1_s, fl1_z, map_s, map_z, true_and]
    by_cases hneg : n < 0
    · repeat' (first | (with_reducible refine jn_in ?_) | (with_reducible refine cl_ok (by assumption) rfl ?_) | (with_reducible refine cl_okP (by assumption) rfl ?_) | (with_reducible refine br_if (fun hbr => ?_) (fun hbr => ?_)) | (with_reducible refine br_ifn (fun hbr => ?_) (fun hbr => ?_)) | (with_reducible refine br_nb (fun hbr => ?_) (fun hbr => ?_)) | (with_reducible refine br_b (fun hbr => ?_) (fun hbr => ?_)) | simp (disch := first | omega | (simp only [List.length_take, List.length_drop, List.length_append, List.map_cons, List.map_nil, List.length_map, List.length_cons, List.length_nil, List.length_set, List.length_replicate]; omega) | (simp only [List.length_cons, List.length_nil, Nat.zero_add, Nat.reduceAdd])) only [go_sem, ↓reduceIte, Nat.reduceAdd, Int.reduceNeg, Int.reduceAdd, Int.reduceSub, Int.reduceMul, Int.reduceLT, Int.reduceLE, Int.reduceEq, Int.reduceToNat, Nat.reduceBEq, e_sle, e_sge, e_shl1, e_orI, e_andI, e_shr, wrapu, wrap8, tn1, nat1, ix_s, ix_z, st_s, st_z, fl_s, fl_z, fl1_s, fl1_z, map_s, map_z, hneg, m45])
      exact key _ _ _ (acc ++ [45]) (by simp; omega) (by rw [List.reverse_append, g4]; unfold fmtIntL; rw [if_neg hn0, if_pos hneg]; rfl)
    · repeat' (first | (with_reducible refine jn_in ?_) | (with_reducible refine cl_ok (by assumption) rfl ?_) | (with_reducible refine cl_okP (by assumption) rfl ?_) | (with_reducible refine br_if (fun hbr => ?_) (fun hbr => ?_)) | (with_reducible refine br_ifn (fun hbr => ?_) (fun hbr => ?_)) | (with_reducible refine br_nb (fun hbr => ?_) (fun hbr => ?_)) | (with_reducible refine br_b (fun hbr => ?_) (fun hbr => ?_)) | simp (disch := first | omega | (simp only [List.length_take, List.length_drop, List.length_append, List.map_cons, List.map_nil, List.length_map, List.length_cons, List.length_nil, List.length_set, List.length_replicate]; omega) | (simp only [List.length_cons, List.length_nil, Nat.zero_add, Nat.reduceAdd])) only [go_sem, ↓reduceIte, Nat.reduceAdd, Int.reduceNeg, Int.reduceAdd, Int.reduceSub, Int.reduceMul, Int.reduceLT, Int.reduceLE, Int.reduceEq, Int.reduceToNat, Nat.reduceBEq, e_sle, e_sge, e_shl1, e_orI, e_andI, e_shr, wrapu, wrap8, tn1, nat1, ix_s, ix_z, st_s, st_z, fl_s, fl_z, fl1_s, fl1_z, map_s, map_z, hneg, m45])
      exact key _ _ _ acc (by omega) (by rw [g4]; unfold fmtIntL; rw [if_neg hn0, if_neg hneg])
  · have hd := dgs_pos (m := x.natAbs) (by omega)
    have a1 := @absdiv x
    have a2 := @absmod x
    have a3 : x.tmod 10 < 10 ∧ -10 < x.tmod 10 := by omega
    have hm10 : x.natAbs % 10 < 10 := Nat.mod_lt _ (by decide)
    have hfin : ∀ y : Int, y = x.tdiv 10 → (∃ a' : Int × List Nat, [DV.sc (.int .i64 y), .sl 5 1 ((acc ++ [48 + x.natAbs % 10]).map encU)] = [.sc (.int .i64 a'.1), .sl 5 1 (a'.2.map encU)] ∧ (a'.1.natAbs ≤ 9223372036854775808 ∧ -9223372036854775808 ≤ a'.1 ∧ a'.1 ≤ 9223372036854775807 ∧ dgs a'.1.natAbs ++ a'.2.reverse = dgs n.natAbs) ∧ a'.1.natAbs < x.natAbs) := by
      rintro y rfl
      refine ⟨(x.tdiv 10, acc ++ [48 + x.natAbs % 10]), rfl, ⟨by simp only; omega, by simp only; omega, by simp only; omega, ?_⟩, by simp only; omega⟩
      rw [← g4, hd, a1]; simp
    generalize hdd : x.natAbs % 10 = d at *
    have c3 : (48 : Int) + (d : Int) = ((48 + d : Nat) : Int) := rfl
    have w8 : IntKind.u8.wrap ((48 + d : Nat) : Int) = ((48 + d : Nat) : Int) := wrap8 (by omega) (by omega)
    by_cases hneg : x.tmod 10 < 0
    · have t1 : x.tmod 10 = -(d : Int) := by omega
      have c1 : (0 : Int) - -(d : Int) = (d : Int) := by omega
      repeat' (first | (with_reducible refine jn_in ?_) | (with_reducible refine cl_ok (by assumption) rfl ?_) | (with_reducible refine cl_okP (by assumption) rfl ?_) | (with_reducible refine br_if (fun hbr => ?_) (fun hbr => ?_)) | (with_reducible refine br_ifn (fun hbr => ?_) (fun hbr => ?_)) | (with_reducible refine br_nb (fun hbr => ?_) (fun hbr => ?_)) | (with_reducible refine br_b (fun hbr => ?_) (fun hbr => ?_)) | simp (disch := first | omega | (simp only [List.length_take, List.length_drop, List.length_append, List.map_cons, List.map_nil, List.length_map, List.length_cons, List.length_nil, List.length_set, List.length_replicate]; omega) | (simp only [List.length_cons, List.length_nil, Nat.zero_add, Nat.reduceAdd])) only [go_sem, ↓reduceIte, Nat.reduceAdd, Int.reduceNeg, Int.reduceAdd, Int.reduceSub, Int.reduceMul, Int.reduceLT, Int.reduceLE, Int.reduceEq, Int.reduceToNat, Nat.reduceBEq, e_sle, e_sge, e_shl1, e_orI, e_andI, e_shr, wrapu, wrap8, tn1, nat1, ix_s, ix_z, st_s, st_z, fl_s, fl_z, fl1_s, fl1_z, map_s, map_z, t1, c1, c3, w8, map_u, u_impl_FormatInt_j0])
      all_goals first | omega | with_reducible exact hfin _ rfl
    · have t1 : x.tmod 10 = (d : Int) := by omega
      repeat' (first | (with_reducible refine jn_in ?_) | (with_reducible refine cl_ok (by assumption) rfl ?_) | (with_reducible refine cl_okP (by assumption) rfl ?_) | (with_reducible refine br_if (fun hbr => ?_) (fun hbr => ?_)) | (with_reducible refine br_ifn (fun hbr => ?_) (fun hbr => ?_)) | (with_reducible refine br_nb (fun hbr => ?_) (fun hbr => ?_)) | (with_reducible refine br_b (fun hbr => ?_) (fun hbr => ?_)) | simp (disch := first | omega | (simp only [List.length_take, List.length_drop, List.length_append, List.map_cons, List.map_nil, List.length_map, List.length_cons, List.length_nil, List.length_set, List.length_replicate]; omega) | (simp only [List.length_cons, List.length_nil, Nat.zero_add, Nat.reduceAdd])) only [go_sem, ↓reduceIte, Nat.reduceAdd, Int.reduceNeg, Int.reduceAdd, Int.reduceSub, Int.reduceMul, Int.reduceLT, Int.reduceLE, Int.reduceEq, Int.reduceToNat, Nat.reduceBEq, e_sle, e_sge, e_shl1, e_orI, e_andI, e_shr, wrapu, wrap8, tn1, nat1, ix_s, ix_z, st_s, st_z, fl_s, fl_z, fl1_s, fl1_z, map_s, map_z, t1, c3, w8, map_u, u_impl_FormatInt_j0])
      all_goals first | omega | with_reducible exact hfin _ rfl
end Go.Proofs.Ytgmpajfhjnojiaa
