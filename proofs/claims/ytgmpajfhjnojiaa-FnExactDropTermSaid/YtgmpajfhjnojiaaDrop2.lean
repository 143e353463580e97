/- Terms numbered anew and sorted in: impl.numberedFormula. -/
import Derived.Test.YtgmpajfhjnojiaaUDrop2
import Derived.Test.YtgmpajfhjnojiaaDrop1
namespace Go.Proofs.Ytgmpajfhjnojiaa
open Go.RowKit
set_option linter.unusedVariables false
set_option linter.unusedSimpArgs false
set_option maxRecDepth 100000

theorem bit_tb (n i : Nat) : (n / 2 ^ i % 2 = 1) ↔ n.testBit i = true := by rw [Nat.testBit_eq_decide_div_mod_eq, decide_eq_true_eq]
theorem orL_bit {T : List Int} {i : Nat} : ∀ {n j : Nat}, j < n → (T.getD j default).toNat / 2 ^ i % 2 = 1 → orL T n / 2 ^ i % 2 = 1
  | n + 1, j, h, hb => by
    rw [bit_tb] at hb ⊢
    rw [orL, Nat.testBit_or, Bool.or_eq_true]
    by_cases e : j = n
    · subst e; exact .inr hb
    · left; rw [← bit_tb] at hb ⊢; exact orL_bit (by omega) hb
def plcL (u n i : Nat) : List Int := (List.range n).map fun j => if j < i ∧ u / 2 ^ j % 2 = 1 then (cntU u j : Int) else 0
theorem plcL_len (u n i : Nat) : (plcL u n i).length = n := by simp [plcL]
theorem plcL_0 (u n : Nat) : plcL u n 0 = List.replicate n 0 := by
  apply List.ext_getElem
  · simp [plcL]
  · intro j h1 h2; simp [plcL]
theorem plcL_t {u n i : Nat} (h : u / 2 ^ i % 2 = 1) (hi : i < n) : plcL u n (i + 1) = (plcL u n i).set i (cntU u i : Nat) := by
  apply List.ext_getElem
  · simp [plcL]
  · intro j h1 h2
    rw [List.getElem_set]
    simp only [plcL, List.getElem_map, List.getElem_range]
    by_cases e : i = j
    · subst e; rw [if_pos ⟨by omega, h⟩, if_pos rfl]
    · rw [if_neg e]
      by_cases hb : u / 2 ^ j % 2 = 1
      · by_cases hj : j < i
        · rw [if_pos ⟨by omega, hb⟩, if_pos ⟨hj, hb⟩]
        · rw [if_neg (by omega), if_neg (by omega)]
      · rw [if_neg (fun h => hb h.2), if_neg (fun h => hb h.2)]
theorem plcL_f {u n i : Nat} (h : ¬ u / 2 ^ i % 2 = 1) : plcL u n (i + 1) = plcL u n i := by
  apply List.ext_getElem
  · simp [plcL]
  · intro j h1 h2
    simp only [plcL, List.getElem_map, List.getElem_range]
    by_cases e : j = i
    · subst e; rw [if_neg (fun hh => h hh.2), if_neg (fun hh => h hh.2)]
    · by_cases hb : u / 2 ^ j % 2 = 1
      · by_cases hj : j < i
        · rw [if_pos ⟨by omega, hb⟩, if_pos ⟨hj, hb⟩]
        · rw [if_neg (by omega), if_neg (by omega)]
      · rw [if_neg (fun h => hb h.2), if_neg (fun h => hb h.2)]
theorem plcL_getD {u n i : Nat} (h : u / 2 ^ i % 2 = 1) (hi : i < n) : (plcL u n n).getD i default = (cntU u i : Nat) := by
  rw [List.getD_eq_getElem?_getD, List.getElem?_eq_getElem (by rw [plcL_len]; exact hi)]
  simp [plcL, hi, h]
/-- where a term is put in -/
def posI (l : List Int) (y : Int) : Nat → Nat
  | 0 => 0
  | j + 1 => if tLess y (l.getD j default) = true then posI l y j else j + 1
theorem posI_le (l : List Int) (y : Int) : ∀ j, posI l y j ≤ j
  | 0 => Nat.le_refl _
  | j + 1 => by
    rw [posI]; split
    · have := posI_le l y j; omega
    · exact Nat.le_refl _
def insI (l : List Int) (y : Int) : List Int := l.take (posI l y l.length) ++ y :: l.drop (posI l y l.length)
theorem insI_len (l : List Int) (y : Int) : (insI l y).length = l.length + 1 := by
  have := posI_le l y l.length
  simp [insI]; omega
def insT (l : List Int) : List Int := l.foldl insI []
theorem fold_len1 (l : List Int) : ∀ a : List Int, (l.foldl insI a).length = a.length + l.length := by
  induction l with
  | nil => intro a; simp
  | cons x l ih => intro a; rw [List.foldl_cons, ih, insI_len, List.length_cons]; omega
theorem insT_len (l : List Int) : (insT l).length = l.length := by unfold insT; rw [fold_len1]; simp
theorem insT_take {f : Int → Int} {T : List Int} {i : Nat} (h : i < T.length) : insT ((T.take (i + 1)).map f) = insI (insT ((T.take i).map f)) (f (T.getD i default)) := by
  unfold insT
  rw [map_take f h, List.foldl_append]; rfl
theorem flatZ_all (l : List Int) : (l.map encZ).flatten.all isScD = true := by
  rw [List.all_eq_true]
  intro d hd
  obtain ⟨x, hx, hd⟩ := List.mem_flatten.1 hd
  obtain ⟨z, _, rfl⟩ := List.mem_map.1 hx
  simp [encZ] at hd; subst hd; rfl
theorem ins_set {l : List Int} {p : Nat} (v y : Int) (h : p ≤ l.length) : (l.take p ++ v :: l.drop p).set p y = l.take p ++ y :: l.drop p := by
  rw [List.set_append_right _ _ (by rw [List.length_take]; omega), List.length_take, Nat.min_eq_left h, Nat.sub_self]; rfl
theorem mem_insI {l : List Int} {y z : Int} (h : z ∈ insI l y) : z ∈ l ∨ z = y := by
  unfold insI at h
  rcases List.mem_append.1 h with h | h
  · exact .inl (List.mem_of_mem_take h)
  · rcases List.mem_cons.1 h with h | h
    · exact .inr h
    · exact .inl (List.mem_of_mem_drop h)
theorem mem_fold {l : List Int} {z : Int} : ∀ {a : List Int}, z ∈ l.foldl insI a → z ∈ a ∨ z ∈ l := by
  induction l with
  | nil => intro a h; exact .inl h
  | cons x l ih =>
    intro a h
    rw [List.foldl_cons] at h
    rcases ih h with h | h
    · rcases mem_insI h with h | h
      · exact .inl h
      · subst h; exact .inr (List.mem_cons_self ..)
    · exact .inr (List.mem_cons_of_mem _ h)
theorem mem_insT {l : List Int} {z : Int} (h : z ∈ insT l) : z ∈ l := by
  rcases mem_fold h with h | h
  · cases h
  · exact h
theorem cmpZ_lt {u n : Nat} (h : n ≤ 5) (x : Int) : 0 ≤ cmpZ u n x ∧ cmpZ u n x < 32 := by
  have h1 := cmpS_lt u x.toNat n
  have h2 := cntU_le u n
  have h3 := pow_le5 (n := cntU u n) (by omega)
  unfold cmpZ; omega
theorem posI_t {l : List Int} {y : Int} {a : Nat} (h : tLess y (l.getD a default) = true) : posI l y (a + 1) = posI l y a := by rw [posI, if_pos h]
theorem posI_f {l : List Int} {y : Int} {a : Nat} (h : tLess y (l.getD a default) = false) : posI l y (a + 1) = a + 1 := by rw [posI, h]; rfl
def okT (T : List Int) (n : Nat) : Prop := ∀ i, i < T.length → 0 ≤ T.getD i default ∧ T.getD i default < 32
set_option maxHeartbeats 8000000 in
theorem implNum_m (r : ByteArray) (b : Bool) (V : List ByteArray) (T : List Int) (hV : V.length ≤ 5) (hl : T.length ≤ 100) (hT : ∀ i, i < T.length → 0 ≤ T.getD i default ∧ T.getD i default < 32) :
    Meets Try.prog 33 [(false, [.sc (.string r)]), (false, [.sc (.bool b)]), (false, [encSs V]), (false, [encZs T])] [(true, encFml ⟨r, b, varsU (orT T) V V.length, insT (T.map (cmpZ (orT T) V.length))⟩, true)] := by
  have hbit := fun i n (j : Nat) => @orL_bit T i n j
  refine meets_upf Try.func33 u_impl_numberedFormula_g rfl ?_; simp only [u_impl_numberedFormula_u]
  simp only [encFml, encSs, encZs]
  simp (disch := first | omega | (simp only [List.length_take, List.length_drop, List.length_append, List.map_cons, List.map_nil, List.length_map, List.length_cons, List.length_nil, List.length_set, List.length_replicate]; omega) | (simp only [List.length_cons, List.length_nil, Nat.zero_add, Nat.reduceAdd])) only [go_sem, ↓reduceIte, Nat.reduceAdd, Int.reduceNeg, Int.reduceAdd, Int.reduceSub, Int.reduceMul, Int.reduceLT, Int.reduceLE, Int.reduceEq, Int.reduceToNat, Nat.reduceBEq, e_sle, e_sge, e_shl1, e_orI, e_andI, e_shr, wrapu, wrap8, tn1, nat1, ix_s, ix_z, st_s, st_z, fl_s, fl_z, fl1_s, fl1_z, map_s, map_z, true_and]
  refine lp_n T.length (fun i => [.sc (.int .i64 i), .sc (.int .i64 (orL T i : Nat))]) rfl fun i hi => ?_
  simp only [u_impl_numberedFormula_l7]
  have ho := orL_lt32 hT i hi
  by_cases hlt : i < T.length
  · have hz := hT i hlt
    have e1 : orL T (i + 1) = orL T i ||| (T.getD i default).toNat := rfl
    repeat' (first | (with_reducible refine jn_in ?_) | (with_reducible refine cl_ok (by assumption) rfl ?_) | (with_reducible refine cl_okP (by assumption) rfl ?_) | (with_reducible refine br_if (fun hbr => ?_) (fun hbr => ?_)) | (with_reducible refine br_ifn (fun hbr => ?_) (fun hbr => ?_)) | (with_reducible refine br_nb (fun hbr => ?_) (fun hbr => ?_)) | (with_reducible refine br_b (fun hbr => ?_) (fun hbr => ?_)) | simp (disch := first | omega | (simp only [List.length_take, List.length_drop, List.length_append, List.map_cons, List.map_nil, List.length_map, List.length_cons, List.length_nil, List.length_set, List.length_replicate]; omega) | (simp only [List.length_cons, List.length_nil, Nat.zero_add, Nat.reduceAdd])) only [go_sem, ↓reduceIte, Nat.reduceAdd, Int.reduceNeg, Int.reduceAdd, Int.reduceSub, Int.reduceMul, Int.reduceLT, Int.reduceLE, Int.reduceEq, Int.reduceToNat, Nat.reduceBEq, e_sle, e_sge, e_shl1, e_orI, e_andI, e_shr, wrapu, wrap8, tn1, nat1, ix_s, ix_z, st_s, st_z, fl_s, fl_z, fl1_s, fl1_z, map_s, map_z, e1])
    all_goals first | omega | exact ⟨rfl, hlt⟩ | skip
  obtain rfl : i = T.length := by omega
  clear hi hlt
  have hu : orL T T.length = orT T := rfl
  have hsub : ∀ i j, j < T.length → (T.getD j default).toNat / 2 ^ i % 2 = 1 → orT T / 2 ^ i % 2 = 1 := fun i j h1 h2 => hbit i _ j h1 h2
  rw [hu] at ho ⊢
  clear hbit
  generalize orT T = u at *
  have hz : (List.replicate V.length [DV.sc (.int .i64 0)]) = (plcL u V.length 0).map encZ := by rw [plcL_0, List.map_replicate]; rfl
  simp (disch := first | omega | (simp only [List.length_take, List.length_drop, List.length_append, List.map_cons, List.map_nil, List.length_map, List.length_cons, List.length_nil, List.length_set, List.length_replicate]; omega) | (simp only [List.length_cons, List.length_nil, Nat.zero_add, Nat.reduceAdd])) only [go_sem, ↓reduceIte, Nat.reduceAdd, Int.reduceNeg, Int.reduceAdd, Int.reduceSub, Int.reduceMul, Int.reduceLT, Int.reduceLE, Int.reduceEq, Int.reduceToNat, Nat.reduceBEq, e_sle, e_sge, e_shl1, e_orI, e_andI, e_shr, wrapu, wrap8, tn1, nat1, ix_s, ix_z, st_s, st_z, fl_s, fl_z, fl1_s, fl1_z, map_s, map_z, true_and]
  refine br_if (fun hbr => ?_) (fun hbr => ?_)
  · omega
  simp (disch := first | omega | (simp only [List.length_take, List.length_drop, List.length_append, List.map_cons, List.map_nil, List.length_map, List.length_cons, List.length_nil, List.length_set, List.length_replicate]; omega) | (simp only [List.length_cons, List.length_nil, Nat.zero_add, Nat.reduceAdd])) only [go_sem, ↓reduceIte, Nat.reduceAdd, Int.reduceNeg, Int.reduceAdd, Int.reduceSub, Int.reduceMul, Int.reduceLT, Int.reduceLE, Int.reduceEq, Int.reduceToNat, Nat.reduceBEq, e_sle, e_sge, e_shl1, e_orI, e_andI, e_shr, wrapu, wrap8, tn1, nat1, ix_s, ix_z, st_s, st_z, fl_s, fl_z, fl1_s, fl1_z, map_s, map_z, hz]
  refine lp_n V.length (fun i => [.sc (.int .i64 i), .sl 9 1 ((varsU u V i).map encS), .sl 3 1 ((plcL u V.length i).map encZ)]) rfl fun i hi => ?_
  simp only [u_impl_numberedFormula_l6]
  have hvl := varsU_len u V i
  have hcl := cntU_le u i
  have hpl := plcL_len u V.length i
  by_cases hlt : i < V.length
  · have e2 := @e_shr false .u64 u i (by omega)
    have e3 := @e_and false (u / 2 ^ i) 1 (Nat.lt_of_le_of_lt (Nat.div_le_self _ _) (by omega))
    rw [and1] at e3
    simp only [Int.natCast_one] at e3
    by_cases hb : u / 2 ^ i % 2 = 1
    · have hv := varsU_t (V := V) hb
      have hp := plcL_t hb hlt
      rw [hv, hp]
      repeat' (first | (with_reducible refine jn_in ?_) | (with_reducible refine cl_ok (by assumption) rfl ?_) | (with_reducible refine cl_okP (by assumption) rfl ?_) | (with_reducible refine br_if (fun hbr => ?_) (fun hbr => ?_)) | (with_reducible refine br_ifn (fun hbr => ?_) (fun hbr => ?_)) | (with_reducible refine br_nb (fun hbr => ?_) (fun hbr => ?_)) | (with_reducible refine br_b (fun hbr => ?_) (fun hbr => ?_)) | simp (disch := first | omega | (simp only [List.length_take, List.length_drop, List.length_append, List.map_cons, List.map_nil, List.length_map, List.length_cons, List.length_nil, List.length_set, List.length_replicate]; omega) | (simp only [List.length_cons, List.length_nil, Nat.zero_add, Nat.reduceAdd])) only [go_sem, ↓reduceIte, Nat.reduceAdd, Int.reduceNeg, Int.reduceAdd, Int.reduceSub, Int.reduceMul, Int.reduceLT, Int.reduceLE, Int.reduceEq, Int.reduceToNat, Nat.reduceBEq, e_sle, e_sge, e_shl1, e_orI, e_andI, e_shr, wrapu, wrap8, tn1, nat1, ix_s, ix_z, st_s, st_z, fl_s, fl_z, fl1_s, fl1_z, map_s, map_z, e2, e3, hb, hvl, u_impl_numberedFormula_j0])
      all_goals first | omega | exact ⟨rfl, hlt⟩ | skip
    · have hb0 : u / 2 ^ i % 2 = 0 := by omega
      have hv := varsU_f (V := V) hb
      have hp := plcL_f (n := V.length) hb
      rw [hv, hp]
      repeat' (first | (with_reducible refine jn_in ?_) | (with_reducible refine cl_ok (by assumption) rfl ?_) | (with_reducible refine cl_okP (by assumption) rfl ?_) | (with_reducible refine br_if (fun hbr => ?_) (fun hbr => ?_)) | (with_reducible refine br_ifn (fun hbr => ?_) (fun hbr => ?_)) | (with_reducible refine br_nb (fun hbr => ?_) (fun hbr => ?_)) | (with_reducible refine br_b (fun hbr => ?_) (fun hbr => ?_)) | simp (disch := first | omega | (simp only [List.length_take, List.length_drop, List.length_append, List.map_cons, List.map_nil, List.length_map, List.length_cons, List.length_nil, List.length_set, List.length_replicate]; omega) | (simp only [List.length_cons, List.length_nil, Nat.zero_add, Nat.reduceAdd])) only [go_sem, ↓reduceIte, Nat.reduceAdd, Int.reduceNeg, Int.reduceAdd, Int.reduceSub, Int.reduceMul, Int.reduceLT, Int.reduceLE, Int.reduceEq, Int.reduceToNat, Nat.reduceBEq, e_sle, e_sge, e_shl1, e_orI, e_andI, e_shr, wrapu, wrap8, tn1, nat1, ix_s, ix_z, st_s, st_z, fl_s, fl_z, fl1_s, fl1_z, map_s, map_z, e2, e3, hb0, u_impl_numberedFormula_j0])
      all_goals first | omega | exact ⟨rfl, hlt⟩ | skip
  obtain rfl : i = V.length := by omega
  clear hi hlt
  simp (disch := first | omega | (simp only [List.length_take, List.length_drop, List.length_append, List.map_cons, List.map_nil, List.length_map, List.length_cons, List.length_nil, List.length_set, List.length_replicate]; omega) | (simp only [List.length_cons, List.length_nil, Nat.zero_add, Nat.reduceAdd])) only [go_sem, ↓reduceIte, Nat.reduceAdd, Int.reduceNeg, Int.reduceAdd, Int.reduceSub, Int.reduceMul, Int.reduceLT, Int.reduceLE, Int.reduceEq, Int.reduceToNat, Nat.reduceBEq, e_sle, e_sge, e_shl1, e_orI, e_andI, e_shr, wrapu, wrap8, tn1, nat1, ix_s, ix_z, st_s, st_z, fl_s, fl_z, fl1_s, fl1_z, map_s, map_z, true_and]
  refine br_if (fun hbr => ?_) (fun hbr => ?_)
  · omega
  simp (disch := first | omega | (simp only [List.length_take, List.length_drop, List.length_append, List.map_cons, List.map_nil, List.length_map, List.length_cons, List.length_nil, List.length_set, List.length_replicate]; omega) | (simp only [List.length_cons, List.length_nil, Nat.zero_add, Nat.reduceAdd])) only [go_sem, ↓reduceIte, Nat.reduceAdd, Int.reduceNeg, Int.reduceAdd, Int.reduceSub, Int.reduceMul, Int.reduceLT, Int.reduceLE, Int.reduceEq, Int.reduceToNat, Nat.reduceBEq, e_sle, e_sge, e_shl1, e_orI, e_andI, e_shr, wrapu, wrap8, tn1, nat1, ix_s, ix_z, st_s, st_z, fl_s, fl_z, fl1_s, fl1_z, map_s, map_z, true_and]
  refine lp_n T.length (fun i => [.sc (.int .i64 i), .sl 3 1 ((insT ((T.take i).map (cmpZ u V.length))).map encZ)]) rfl fun i hi => ?_
  simp only [u_impl_numberedFormula_l5]
  by_cases hlt : i < T.length
  · have hzi := hT i hlt
    have hsb := fun k => hsub k i hlt
    have hm := insT_take (f := cmpZ u V.length) hlt
    have hll := insT_len ((T.take i).map (cmpZ u V.length))
    have hlb : ∀ z ∈ insT ((T.take i).map (cmpZ u V.length)), z ≤ 9223372036854775807 := fun z hz => by
      obtain ⟨w, _, rfl⟩ := List.mem_map.1 (mem_insT hz)
      have := cmpZ_lt (u := u) hV w
      omega
    rw [List.length_map, List.length_take] at hll
    simp (disch := first | omega | (simp only [List.length_take, List.length_drop, List.length_append, List.map_cons, List.map_nil, List.length_map, List.length_cons, List.length_nil, List.length_set, List.length_replicate]; omega) | (simp only [List.length_cons, List.length_nil, Nat.zero_add, Nat.reduceAdd])) only [go_sem, ↓reduceIte, Nat.reduceAdd, Int.reduceNeg, Int.reduceAdd, Int.reduceSub, Int.reduceMul, Int.reduceLT, Int.reduceLE, Int.reduceEq, Int.reduceToNat, Nat.reduceBEq, e_sle, e_sge, e_shl1, e_orI, e_andI, e_shr, wrapu, wrap8, tn1, nat1, ix_s, ix_z, st_s, st_z, fl_s, fl_z, fl1_s, fl1_z, map_s, map_z, true_and]
    refine br_if (fun hbr => ?_) (fun hbr => ?_)
    rotate_left
    · omega
    simp (disch := first | omega | (simp only [List.length_take, List.length_drop, List.length_append, List.map_cons, List.map_nil, List.length_map, List.length_cons, List.length_nil, List.length_set, List.length_replicate]; omega) | (simp only [List.length_cons, List.length_nil, Nat.zero_add, Nat.reduceAdd])) only [go_sem, ↓reduceIte, Nat.reduceAdd, Int.reduceNeg, Int.reduceAdd, Int.reduceSub, Int.reduceMul, Int.reduceLT, Int.reduceLE, Int.reduceEq, Int.reduceToNat, Nat.reduceBEq, e_sle, e_sge, e_shl1, e_orI, e_andI, e_shr, wrapu, wrap8, tn1, nat1, ix_s, ix_z, st_s, st_z, fl_s, fl_z, fl1_s, fl1_z, map_s, map_z, true_and]
    obtain ⟨x, hx⟩ := Int.eq_ofNat_of_zero_le hzi.1
    rw [hx] at hzi hm hsb
    simp only [Int.toNat_natCast] at hsb
    generalize insT ((T.take i).map (cmpZ u V.length)) = l at *
    simp only [hx]
    refine lp_n V.length (fun k => [.sc (.int .i64 k), .sc (.int .i64 V.length), .sc (.int .i64 (cmpS u x k : Nat)), .sc (.int .i64 x), .sc (.bool (decide ((i : Int) < T.length))), .sc (.int .i64 i), .sl 3 1 (l.map encZ)]) rfl fun k hk => ?_
    simp only [u_impl_numberedFormula_l4]
    have hc := cmpS_lt u x k
    have hcl := cntU_le u k
    have hp := pow_le5 (n := cntU u k) (by omega)
    by_cases hkl : k < V.length
    · have e4 := @e_shr false .u64 x k (by omega)
      have e5 := @e_and false (x / 2 ^ k) 1 (Nat.lt_of_le_of_lt (Nat.div_le_self _ _) (by omega))
      rw [and1] at e5
      simp only [Int.natCast_one] at e5
      have e6 := @e_shl1 false .u64 (cntU u k) (by omega)
      have e7 := @e_or false (cmpS u x k) (2 ^ cntU u k) (by omega) (by omega)
      by_cases hb : x / 2 ^ k % 2 = 1
      · have hub := hsb k hb
        have hv := cmpS_t (x := x) hub
        rw [hb, Nat.one_mul] at hv
        have hpg := plcL_getD hub hkl
        rw [hv]
        repeat' (first | (with_reducible refine jn_in ?_) | (with_reducible refine cl_ok (by assumption) rfl ?_) | (with_reducible refine cl_okP (by assumption) rfl ?_) | (with_reducible refine br_if (fun hbr => ?_) (fun hbr => ?_)) | (with_reducible refine br_ifn (fun hbr => ?_) (fun hbr => ?_)) | (with_reducible refine br_nb (fun hbr => ?_) (fun hbr => ?_)) | (with_reducible refine br_b (fun hbr => ?_) (fun hbr => ?_)) | simp (disch := first | omega | (simp only [List.length_take, List.length_drop, List.length_append, List.map_cons, List.map_nil, List.length_map, List.length_cons, List.length_nil, List.length_set, List.length_replicate]; omega) | (simp only [List.length_cons, List.length_nil, Nat.zero_add, Nat.reduceAdd])) only [go_sem, ↓reduceIte, Nat.reduceAdd, Int.reduceNeg, Int.reduceAdd, Int.reduceSub, Int.reduceMul, Int.reduceLT, Int.reduceLE, Int.reduceEq, Int.reduceToNat, Nat.reduceBEq, e_sle, e_sge, e_shl1, e_orI, e_andI, e_shr, wrapu, wrap8, tn1, nat1, ix_s, ix_z, st_s, st_z, fl_s, fl_z, fl1_s, fl1_z, map_s, map_z, e4, e5, hb, hpg, e6, e7, hpl, u_impl_numberedFormula_j1])
        all_goals first | omega | exact ⟨rfl, hkl⟩ | skip
      · have hb0 : x / 2 ^ k % 2 = 0 := by omega
        have hv : cmpS u x (k + 1) = cmpS u x k := by
          by_cases hub : u / 2 ^ k % 2 = 1
          · rw [cmpS_t hub, hb0, Nat.zero_mul, Nat.or_zero]
          · rw [cmpS_f hub]
        rw [hv]
        repeat' (first | (with_reducible refine jn_in ?_) | (with_reducible refine cl_ok (by assumption) rfl ?_) | (with_reducible refine cl_okP (by assumption) rfl ?_) | (with_reducible refine br_if (fun hbr => ?_) (fun hbr => ?_)) | (with_reducible refine br_ifn (fun hbr => ?_) (fun hbr => ?_)) | (with_reducible refine br_nb (fun hbr => ?_) (fun hbr => ?_)) | (with_reducible refine br_b (fun hbr => ?_) (fun hbr => ?_)) | simp (disch := first | omega | (simp only [List.length_take, List.length_drop, List.length_append, List.map_cons, List.map_nil, List.length_map, List.length_cons, List.length_nil, List.length_set, List.length_replicate]; omega) | (simp only [List.length_cons, List.length_nil, Nat.zero_add, Nat.reduceAdd])) only [go_sem, ↓reduceIte, Nat.reduceAdd, Int.reduceNeg, Int.reduceAdd, Int.reduceSub, Int.reduceMul, Int.reduceLT, Int.reduceLE, Int.reduceEq, Int.reduceToNat, Nat.reduceBEq, e_sle, e_sge, e_shl1, e_orI, e_andI, e_shr, wrapu, wrap8, tn1, nat1, ix_s, ix_z, st_s, st_z, fl_s, fl_z, fl1_s, fl1_z, map_s, map_z, e4, e5, hb0, u_impl_numberedFormula_j1])
        all_goals first | omega | exact ⟨rfl, hkl⟩ | skip
    obtain rfl : k = V.length := by omega
    have hy : cmpZ u V.length (x : Int) = (cmpS u x V.length : Nat) := rfl
    rw [hy] at hm
    rw [hm]
    generalize cmpS u x V.length = y at *
    have hpo := posI_le l y l.length
    have hle : insI l (y : Int) = l.take (posI l y l.length) ++ (y : Int) :: l.drop (posI l y l.length) := rfl
    rw [hle]
    generalize hpe : posI l y l.length = p at *
    simp (disch := first | omega | (simp only [List.length_take, List.length_drop, List.length_append, List.map_cons, List.map_nil, List.length_map, List.length_cons, List.length_nil, List.length_set, List.length_replicate]; omega) | (simp only [List.length_cons, List.length_nil, Nat.zero_add, Nat.reduceAdd])) only [go_sem, ↓reduceIte, Nat.reduceAdd, Int.reduceNeg, Int.reduceAdd, Int.reduceSub, Int.reduceMul, Int.reduceLT, Int.reduceLE, Int.reduceEq, Int.reduceToNat, Nat.reduceBEq, e_sle, e_sge, e_shl1, e_orI, e_andI, e_shr, wrapu, wrap8, tn1, nat1, ix_s, ix_z, st_s, st_z, fl_s, fl_z, fl1_s, fl1_z, map_s, map_z, true_and]
    refine br_if (fun hbr => ?_) (fun hbr => ?_)
    · omega
    simp (disch := first | omega | (simp only [List.length_take, List.length_drop, List.length_append, List.map_cons, List.map_nil, List.length_map, List.length_cons, List.length_nil, List.length_set, List.length_replicate]; omega) | (simp only [List.length_cons, List.length_nil, Nat.zero_add, Nat.reduceAdd])) only [go_sem, ↓reduceIte, Nat.reduceAdd, Int.reduceNeg, Int.reduceAdd, Int.reduceSub, Int.reduceMul, Int.reduceLT, Int.reduceLE, Int.reduceEq, Int.reduceToNat, Nat.reduceBEq, e_sle, e_sge, e_shl1, e_orI, e_andI, e_shr, wrapu, wrap8, tn1, nat1, ix_s, ix_z, st_s, st_z, fl_s, fl_z, fl1_s, fl1_z, map_s, map_z, true_and]
    refine jn (fun vs => ∃ c, vs = [c, .sc (.int .i64 (p : Nat))]) ?_ ?_
    rotate_left
    · rintro vs - ⟨c, rfl⟩
      simp only [u_impl_numberedFormula_j3]
      have e1 : (((l ++ [0] : List Int).length : Int) - ((p + 1 : Nat) : Int)).toNat = l.length - p := by rw [List.length_append, List.length_singleton]; omega
      have e2 : (((l ++ [0] : List Int).length : Int) - ((p : Nat) : Int)).toNat = l.length + 1 - p := by rw [List.length_append, List.length_singleton]; omega
      have hcp := e_cpy (k := 1) (t := 3) (e := encZ) (l := l ++ [0]) (a := ((p + 1 : Nat) : Int)) (m := ((l ++ [0] : List Int).length : Int) - ((p + 1 : Nat) : Int)) (b := ((p : Nat) : Int)) (m' := ((l ++ [0] : List Int).length : Int) - ((p : Nat) : Int)) (flatZ_all _)
      rw [e1, e2, Int.toNat_natCast, Int.toNat_natCast, cpyL_ins l 0 hpo] at hcp
      have hset := ins_set ((l ++ [0]).getD p 0) (y : Int) hpo
      have hsl : (l.take p ++ (l ++ [0]).getD p 0 :: l.drop p).length = l.length + 1 := by simp; omega
      generalize (l ++ [0]).getD p 0 = v at *
      generalize hL : l.take p ++ v :: l.drop p = L2 at *
      repeat' (first | (with_reducible refine jn_in ?_) | (with_reducible refine cl_ok (by assumption) rfl ?_) | (with_reducible refine cl_okP (by assumption) rfl ?_) | (with_reducible refine br_if (fun hbr => ?_) (fun hbr => ?_)) | (with_reducible refine br_ifn (fun hbr => ?_) (fun hbr => ?_)) | (with_reducible refine br_nb (fun hbr => ?_) (fun hbr => ?_)) | (with_reducible refine br_b (fun hbr => ?_) (fun hbr => ?_)) | simp (disch := first | omega | (simp only [List.length_take, List.length_drop, List.length_append, List.map_cons, List.map_nil, List.length_map, List.length_cons, List.length_nil, List.length_set, List.length_replicate]; omega) | (simp only [List.length_cons, List.length_nil, Nat.zero_add, Nat.reduceAdd])) only [go_sem, ↓reduceIte, Nat.reduceAdd, Int.reduceNeg, Int.reduceAdd, Int.reduceSub, Int.reduceMul, Int.reduceLT, Int.reduceLE, Int.reduceEq, Int.reduceToNat, Nat.reduceBEq, e_sle, e_sge, e_shl1, e_orI, e_andI, e_shr, wrapu, wrap8, tn1, nat1, ix_s, ix_z, st_s, st_z, fl_s, fl_z, fl1_s, fl1_z, map_s, map_z, hcp, hset])
      all_goals first | omega | exact ⟨rfl, hlt⟩ | skip
    simp (disch := first | omega | (simp only [List.length_take, List.length_drop, List.length_append, List.map_cons, List.map_nil, List.length_map, List.length_cons, List.length_nil, List.length_set, List.length_replicate]; omega) | (simp only [List.length_cons, List.length_nil, Nat.zero_add, Nat.reduceAdd])) only [go_sem, ↓reduceIte, Nat.reduceAdd, Int.reduceNeg, Int.reduceAdd, Int.reduceSub, Int.reduceMul, Int.reduceLT, Int.reduceLE, Int.reduceEq, Int.reduceToNat, Nat.reduceBEq, e_sle, e_sge, e_shl1, e_orI, e_andI, e_shr, wrapu, wrap8, tn1, nat1, ix_s, ix_z, st_s, st_z, fl_s, fl_z, fl1_s, fl1_z, map_s, map_z, true_and]
    refine lp (fun a : Nat => [.sc (.int .i64 a)]) (fun a => a ≤ l.length ∧ posI l y a = p) (fun a => a) l.length rfl ⟨Nat.le_refl _, hpe⟩ ?_
    rintro a ⟨ha, hap⟩
    simp only [u_impl_numberedFormula_l2]
    by_cases ha0 : 0 < a
    · obtain ⟨q, rfl⟩ := Nat.exists_eq_succ_of_ne_zero (Nat.pos_iff_ne_zero.1 ha0)
      have htl := termLess_m (y : Int) (l.getD q default) (by omega) (hlb _ (getD_mem (by omega)))
      have hq : (((q + 1 : Nat) : Int) - 1) = (q : Nat) := by omega
      simp only [Nat.succ_eq_add_one] at *
      cases ht : tLess (y : Int) (l.getD q default)
      · rw [ht] at htl
        have := posI_f ht
        repeat' (first | (with_reducible refine jn_in ?_) | (with_reducible refine cl_ok (by assumption) rfl ?_) | (with_reducible refine cl_okP (by assumption) rfl ?_) | (with_reducible refine br_if (fun hbr => ?_) (fun hbr => ?_)) | (with_reducible refine br_ifn (fun hbr => ?_) (fun hbr => ?_)) | (with_reducible refine br_nb (fun hbr => ?_) (fun hbr => ?_)) | (with_reducible refine br_b (fun hbr => ?_) (fun hbr => ?_)) | simp (disch := first | omega | (simp only [List.length_take, List.length_drop, List.length_append, List.map_cons, List.map_nil, List.length_map, List.length_cons, List.length_nil, List.length_set, List.length_replicate]; omega) | (simp only [List.length_cons, List.length_nil, Nat.zero_add, Nat.reduceAdd])) only [go_sem, ↓reduceIte, Nat.reduceAdd, Int.reduceNeg, Int.reduceAdd, Int.reduceSub, Int.reduceMul, Int.reduceLT, Int.reduceLE, Int.reduceEq, Int.reduceToNat, Nat.reduceBEq, e_sle, e_sge, e_shl1, e_orI, e_andI, e_shr, wrapu, wrap8, tn1, nat1, ix_s, ix_z, st_s, st_z, fl_s, fl_z, fl1_s, fl1_z, map_s, map_z, hq])
        all_goals first | omega | exact ⟨_, by rw [← hap, this]⟩ | skip
      · rw [ht] at htl
        have := posI_t ht
        repeat' (first | (with_reducible refine jn_in ?_) | (with_reducible refine cl_ok (by assumption) rfl ?_) | (with_reducible refine cl_okP (by assumption) rfl ?_) | (with_reducible refine br_if (fun hbr => ?_) (fun hbr => ?_)) | (with_reducible refine br_ifn (fun hbr => ?_) (fun hbr => ?_)) | (with_reducible refine br_nb (fun hbr => ?_) (fun hbr => ?_)) | (with_reducible refine br_b (fun hbr => ?_) (fun hbr => ?_)) | simp (disch := first | omega | (simp only [List.length_take, List.length_drop, List.length_append, List.map_cons, List.map_nil, List.length_map, List.length_cons, List.length_nil, List.length_set, List.length_replicate]; omega) | (simp only [List.length_cons, List.length_nil, Nat.zero_add, Nat.reduceAdd])) only [go_sem, ↓reduceIte, Nat.reduceAdd, Int.reduceNeg, Int.reduceAdd, Int.reduceSub, Int.reduceMul, Int.reduceLT, Int.reduceLE, Int.reduceEq, Int.reduceToNat, Nat.reduceBEq, e_sle, e_sge, e_shl1, e_orI, e_andI, e_shr, wrapu, wrap8, tn1, nat1, ix_s, ix_z, st_s, st_z, fl_s, fl_z, fl1_s, fl1_z, map_s, map_z, hq])
        all_goals first | omega | exact ⟨q, rfl, ⟨by omega, by rw [← hap, this]⟩, by omega⟩ | skip
    · obtain rfl : a = 0 := by omega
      repeat' (first | (with_reducible refine jn_in ?_) | (with_reducible refine cl_ok (by assumption) rfl ?_) | (with_reducible refine cl_okP (by assumption) rfl ?_) | (with_reducible refine br_if (fun hbr => ?_) (fun hbr => ?_)) | (with_reducible refine br_ifn (fun hbr => ?_) (fun hbr => ?_)) | (with_reducible refine br_nb (fun hbr => ?_) (fun hbr => ?_)) | (with_reducible refine br_b (fun hbr => ?_) (fun hbr => ?_)) | simp (disch := first | omega | (simp only [List.length_take, List.length_drop, List.length_append, List.map_cons, List.map_nil, List.length_map, List.length_cons, List.length_nil, List.length_set, List.length_replicate]; omega) | (simp only [List.length_cons, List.length_nil, Nat.zero_add, Nat.reduceAdd])) only [go_sem, ↓reduceIte, Nat.reduceAdd, Int.reduceNeg, Int.reduceAdd, Int.reduceSub, Int.reduceMul, Int.reduceLT, Int.reduceLE, Int.reduceEq, Int.reduceToNat, Nat.reduceBEq, e_sle, e_sge, e_shl1, e_orI, e_andI, e_shr, wrapu, wrap8, tn1, nat1, ix_s, ix_z, st_s, st_z, fl_s, fl_z, fl1_s, fl1_z, map_s, map_z, true_and])
      all_goals first | omega | exact ⟨_, by rw [← hap]; rfl⟩ | skip
  obtain rfl : i = T.length := by omega
  rw [List.take_length]
  repeat' (first | (with_reducible refine jn_in ?_) | (with_reducible refine cl_ok (by assumption) rfl ?_) | (with_reducible refine cl_okP (by assumption) rfl ?_) | (with_reducible refine br_if (fun hbr => ?_) (fun hbr => ?_)) | (with_reducible refine br_ifn (fun hbr => ?_) (fun hbr => ?_)) | (with_reducible refine br_nb (fun hbr => ?_) (fun hbr => ?_)) | (with_reducible refine br_b (fun hbr => ?_) (fun hbr => ?_)) | simp (disch := first | omega | (simp only [List.length_take, List.length_drop, List.length_append, List.map_cons, List.map_nil, List.length_map, List.length_cons, List.length_nil, List.length_set, List.length_replicate]; omega) | (simp only [List.length_cons, List.length_nil, Nat.zero_add, Nat.reduceAdd])) only [go_sem, ↓reduceIte, Nat.reduceAdd, Int.reduceNeg, Int.reduceAdd, Int.reduceSub, Int.reduceMul, Int.reduceLT, Int.reduceLE, Int.reduceEq, Int.reduceToNat, Nat.reduceBEq, e_sle, e_sge, e_shl1, e_orI, e_andI, e_shr, wrapu, wrap8, tn1, nat1, ix_s, ix_z, st_s, st_z, fl_s, fl_z, fl1_s, fl1_z, map_s, map_z, true_and])
  all_goals first | omega | rfl
end Go.Proofs.Ytgmpajfhjnojiaa
