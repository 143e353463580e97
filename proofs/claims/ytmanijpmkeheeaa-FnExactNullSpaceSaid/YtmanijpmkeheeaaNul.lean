/- NullSpace, both packages. -/
import Derived.Test.YtmanijpmkeheeaaUNul
import Derived.Test.YtmanijpmkeheeaaAug
import Derived.Test.YtmanijpmkeheeaaRedR
namespace Go.Proofs.Ytmanijpmkeheeaa
open Go.RowKit
set_option linter.unusedVariables false
set_option linter.unusedSimpArgs false
set_option maxRecDepth 100000

def rowL (W : Nat) (st : List Stp) : Nat → List Int
  | 0 => List.replicate W (-1)
  | i + 1 => (rowL W st i).set (st.getD i default).1 (i : Int)
theorem rowL_len (W : Nat) (st : List Stp) : ∀ i, (rowL W st i).length = W
  | 0 => by simp [rowL]
  | i + 1 => by simp [rowL, rowL_len W st i]
theorem getD_set {α : Type} {l : List α} {i k : Nat} {x d : α} (hk : k < l.length) : (l.set i x).getD k d = if i = k then x else l.getD k d := by
  rw [List.getD_eq_getElem?_getD, List.getElem?_set, List.getD_eq_getElem?_getD]
  by_cases h : i = k
  · subst h; rw [if_pos rfl, if_pos rfl, if_pos hk]; rfl
  · rw [if_neg h, if_neg h]
theorem getD_rep {α : Type} {n k : Nat} {x d : α} (hk : k < n) : (List.replicate n x).getD k d = x := by
  rw [List.getD_eq_getElem?_getD, List.getElem?_replicate, if_pos hk]; rfl
theorem rowL_g0 {W k : Nat} {st : List Stp} (hk : k < W) : (rowL W st 0).getD k default = -1 := getD_rep hk
theorem rowL_gS {W k i : Nat} {st : List Stp} (hk : k < W) : (rowL W st (i + 1)).getD k default = if (st.getD i default).1 = k then (i : Int) else (rowL W st i).getD k default := getD_set (by rw [rowL_len]; exact hk)
theorem rowL_bd {W : Nat} {st : List Stp} {k : Nat} (hk : k < W) : ∀ i, (rowL W st i).getD k default < (i : Int) ∧ -1 ≤ (rowL W st i).getD k default
  | 0 => by rw [rowL_g0 hk]; omega
  | i + 1 => by
    have := rowL_bd (st := st) hk i
    rw [rowL_gS hk]
    split <;> omega
def qOf (W : Nat) (st : List Stp) (k : Nat) : Int := (rowL W st st.length).getD k default
def ent (W : Nat) (f : Nat → Nat → It) (st : List Stp) (k c : Nat) : It := if 0 ≤ qOf W st k then negN (f (qOf W st k).toNat c) else if c = k then l2N 1 else l2N 0
def fr (W : Nat) (st : List Stp) (n : Nat) : List Nat := (List.range n).filter fun k => decide (qOf W st k < 0)
theorem fr_succ {W : Nat} {st : List Stp} {n : Nat} : fr W st (n + 1) = fr W st n ++ (if qOf W st n < 0 then [n] else []) := by
  unfold fr
  rw [List.range_succ, List.filter_append]
  congr 1
  by_cases h : qOf W st n < 0 <;> simp [h]
theorem fr_len {W : Nat} {st : List Stp} {n : Nat} : (fr W st n).length ≤ n := by
  unfold fr
  have := List.length_filter_le (fun k => decide (qOf W st k < 0)) (List.range n)
  simpa using this
theorem fr_get {W : Nat} {st : List Stp} {n j : Nat} (h : j < (fr W st n).length) : (fr W st n).getD j default < n ∧ qOf W st ((fr W st n).getD j default) < 0 := by
  have hm : (fr W st n).getD j default ∈ fr W st n := by
    rw [List.getD_eq_getElem?_getD, List.getElem?_eq_getElem h]; exact List.getElem_mem h
  generalize (fr W st n).getD j default = x at *
  unfold fr at hm
  rw [List.mem_filter] at hm
  exact ⟨List.mem_range.1 hm.1, by simpa using hm.2⟩
def nulL (W : Nat) (f : Nat → Nat → It) (st : List Stp) (n : Nat) : List It := gridL (fr W st W).length (fun i j => ent W f st i ((fr W st W).getD j default)) n
def nulO (m : Mt) : Option Mt := match rdc m with
  | none => none
  | some x => some ⟨m.cols, (fr m.cols.toNat x.2 m.cols.toNat).length, nulL m.cols.toNat x.1 x.2 (m.cols.toNat * (fr m.cols.toNat x.2 m.cols.toNat).length)⟩
def nulM (m : Mt) : Mt := (nulO m).getD ⟨0, 0, []⟩
theorem nulM_len (m : Mt) : (nulM m).cells.length ≤ 144 := by
  unfold nulM nulO
  cases h : rdc m with
  | none => simp
  | some x =>
    obtain ⟨f, st⟩ := x
    obtain ⟨_, _, _, h3, _⟩ := rdc_bd h
    simp only [Option.getD_some, nulL, gridL_len]
    have := fr_len (W := m.cols.toNat) (st := st) (n := m.cols.toNat)
    have : m.cols.toNat * (fr m.cols.toNat st m.cols.toNat).length ≤ 12 * 12 := Nat.mul_le_mul h3 (by omega)
    omega
theorem rdc_red {m : Mt} {x : (Nat → Nat → It) × List Stp} (h : rdc m = some x) : redS m.cols.toNat m.rows.toNat (celF m.cols.toNat m.cells) m.cols.toNat = some x := by
  unfold rdc at h
  split at h
  · exact h
  · cases h

/-! ### the columns, as the reference makes them -/
def colL (W : Nat) (f : Nat → Nat → It) (st : List Stp) (c : Nat) : Nat → List It
  | 0 => List.replicate W (l2N 0)
  | i + 1 => (colL W f st c i).set (st.getD i default).1 (negN (f i c))
theorem colL_len (W : Nat) (f : Nat → Nat → It) (st : List Stp) (c : Nat) : ∀ i, (colL W f st c i).length = W
  | 0 => by simp [colL]
  | i + 1 => by simp [colL, colL_len W f st c i]
theorem colL_get {W : Nat} {f : Nat → Nat → It} {st : List Stp} {c k : Nat} (hk : k < W) : ∀ i, (colL W f st c i).getD k default = if 0 ≤ (rowL W st i).getD k default then negN (f ((rowL W st i).getD k default).toNat c) else l2N 0
  | 0 => by rw [rowL_g0 hk, if_neg (by omega)]; exact getD_rep hk
  | i + 1 => by
    have ih := colL_get (f := f) (st := st) (c := c) hk i
    rw [rowL_gS hk]
    unfold colL
    rw [getD_set (by rw [colL_len]; exact hk)]
    by_cases h : (st.getD i default).1 = k
    · rw [if_pos h, if_pos h, if_pos (by omega)]; rfl
    · rw [if_neg h, if_neg h, ih]
def frB (st : List Stp) (c i : Nat) : Bool := (st.take i).all fun x => decide (x.1 ≠ c)
theorem frB_succ {st : List Stp} {c i : Nat} (h : i < st.length) : frB st c (i + 1) = (frB st c i && decide ((st.getD i default).1 ≠ c)) := by
  unfold frB
  rw [List.take_succ_eq_append_getElem h, List.all_append, List.getD_eq_getElem?_getD, List.getElem?_eq_getElem h]; simp
theorem frB_row {W : Nat} {st : List Stp} {c : Nat} (hc : c < W) : ∀ i, i ≤ st.length → frB st c i = decide ((rowL W st i).getD c default < 0)
  | 0, _ => by rw [rowL_g0 hc]; rfl
  | i + 1, hi => by
    rw [frB_succ hi, frB_row hc i (by omega)]
    rw [rowL_gS hc]
    by_cases h : (st.getD i default).1 = c
    · rw [if_pos h]
      rw [decide_eq_false (show ¬ ((i : Int) < 0) by omega), decide_eq_false (p := (st.getD i default).1 ≠ c) (fun hn => hn h), Bool.and_false]
    · rw [if_neg h]; simp only [ne_eq, h, not_false_eq_true, decide_true, Bool.and_true]
theorem frB_q {W : Nat} {st : List Stp} {c : Nat} (hc : c < W) : frB st c st.length = decide (qOf W st c < 0) := frB_row hc _ (Nat.le_refl _)
def vec (W : Nat) (f : Nat → Nat → It) (st : List Stp) (c : Nat) : List It := (List.range W).map fun k => ent W f st k c
theorem vec_len {W : Nat} {f : Nat → Nat → It} {st : List Stp} {c : Nat} : (vec W f st c).length = W := by simp [vec]
theorem vec_col {W : Nat} {f : Nat → Nat → It} {st : List Stp} {c : Nat} (hc : c < W) (hq : qOf W st c < 0) : (colL W f st c st.length).set c (l2N 1) = vec W f st c := by
  apply List.ext_getElem?
  intro k
  by_cases hk : k < W
  · have e1 : ∀ l : List It, k < l.length → l[k]? = some (l.getD k default) := fun l h => by rw [List.getD_eq_getElem?_getD, List.getElem?_eq_getElem h]; rfl
    rw [e1 _ (by rw [List.length_set, colL_len]; exact hk), getD_set (by rw [colL_len]; exact hk), colL_get hk]
    unfold vec
    rw [List.getElem?_map, List.getElem?_range hk, Option.map_some]
    unfold ent
    by_cases h : c = k
    · subst h
      rw [if_pos rfl, if_neg (show ¬ 0 ≤ qOf W st c by omega), if_pos rfl]
    · rw [if_neg h, if_neg h]; rfl
  · rw [List.getElem?_eq_none (by rw [List.length_set, colL_len]; omega), List.getElem?_eq_none (by rw [vec_len]; omega)]
theorem flatv_len {α β : Type} {W : Nat} {v : α → List β} (hv : ∀ c, (v c).length = W) (l : List α) : (l.flatMap v).length = l.length * W := by
  induction l with
  | nil => simp
  | cons x l ih => rw [List.flatMap_cons, List.length_append, ih, hv, List.length_cons, Nat.succ_mul]; omega
theorem flatv_get {α β : Type} [Inhabited α] {W : Nat} {v : α → List β} (hv : ∀ c, (v c).length = W) : ∀ (l : List α) (j k : Nat), j < l.length → k < W → (l.flatMap v)[j * W + k]? = (v (l.getD j default))[k]?
  | [], j, k, h, _ => by simp at h
  | x :: l, 0, k, _, hk => by
    rw [List.flatMap_cons, Nat.zero_mul, Nat.zero_add, List.getElem?_append_left (by rw [hv]; exact hk)]; rfl
  | x :: l, j + 1, k, h, hk => by
    rw [List.flatMap_cons, List.getElem?_append_right (by rw [hv, Nat.succ_mul]; omega), hv, show (j + 1) * W + k - W = j * W + k by rw [Nat.succ_mul]; omega]
    rw [flatv_get hv l j k (by simpa using h) hk]; rfl
theorem nul_turn {W : Nat} {f : Nat → Nat → It} {st : List Stp} : turnL (fr W st W).length W ((fr W st W).flatMap (vec W f st)) (W * (fr W st W).length) = nulL W f st (W * (fr W st W).length) := by
  unfold turnL nulL gridL
  refine List.map_congr_left fun t ht => ?_
  have ht := List.mem_range.1 ht
  generalize hF : fr W st W = F at *
  have hFp : 0 < F.length := by
    rcases Nat.eq_zero_or_pos F.length with h | h
    · rw [h] at ht; omega
    · exact h
  have h1 : t / F.length < W := Nat.div_lt_of_lt_mul (by rw [Nat.mul_comm]; exact ht)
  have h2 : t % F.length < F.length := Nat.mod_lt _ hFp
  unfold turnAt
  rw [List.getD_eq_getElem?_getD, flatv_get (fun c => vec_len) F _ _ h2 h1]
  unfold vec
  rw [List.getElem?_map, List.getElem?_range h1]; rfl
theorem fl1_it' {t : Nat} {x : It} : eFlat (some (.sl t 3 [[.sc (.int .i64 x.num), .sc (.int .i64 x.den), .sc (.string x.text)]])) = some [] := rfl
def negOnes (W i : Nat) : List Int := List.replicate i (-1) ++ List.replicate (W - i) 0
theorem negOnes_len {W i : Nat} (h : i ≤ W) : (negOnes W i).length = W := by simp [negOnes]; omega
theorem negOnes_set {W i : Nat} (h : i < W) : (negOnes W i).set i (-1) = negOnes W (i + 1) := by
  unfold negOnes
  rw [List.set_append_right _ _ (by simp), List.length_replicate, Nat.sub_self, List.replicate_succ', show W - i = (W - (i + 1)) + 1 by omega, List.replicate_succ, List.set_cons_zero, List.append_assoc]; rfl
def ofN (l : List Nat) : List Int := l.map fun x : Nat => (x : Int)
theorem ofN_get {l : List Nat} {j : Nat} (h : j < l.length) : (ofN l).getD j default = (l.getD j default : Int) := by
  unfold ofN
  rw [List.getD_eq_getElem?_getD, List.getD_eq_getElem?_getD, List.getElem?_map, List.getElem?_eq_getElem h]; rfl
set_option maxHeartbeats 4000000 in
theorem implNul_m (m : Mt) : Meets Try.prog 35 [(true, encMt m)] [(true, encMt (nulM m), true), (false, [.sc (.bool (nulO m).isSome)], true)] := by
  have hm := implRR_m m
  unfold nulM nulO
  unfold rrM rrP at hm
  cases hd : rdc m with
  | none =>
    obtain ⟨r, c, l⟩ := m
    rw [hd] at hm
    refine meets_upf Try.func35 u_impl_NullSpace_g rfl ?_; simp only [u_impl_NullSpace_u]
    simp only [encMt, encIts, encZs, Option.isSome_none] at hm ⊢
    simp (disch := first | omega | (simp only [List.length_take, List.length_drop, List.length_append, List.map_cons, List.map_nil, List.length_map, List.length_cons, List.length_nil, List.length_set, List.length_replicate]; omega) | (simp only [List.length_cons, List.length_nil, Nat.zero_add, Nat.reduceAdd])) only [go_sem, ↓reduceIte, Nat.reduceAdd, Int.reduceNeg, Int.reduceAdd, Int.reduceSub, Int.reduceMul, Int.reduceLT, Int.reduceLE, Int.reduceEq, Int.reduceToNat, Nat.reduceBEq, true_and]
    refine cl_ok hm rfl ?_
    simp (disch := first | omega | (simp only [List.length_take, List.length_drop, List.length_append, List.map_cons, List.map_nil, List.length_map, List.length_cons, List.length_nil, List.length_set, List.length_replicate]; omega) | (simp only [List.length_cons, List.length_nil, Nat.zero_add, Nat.reduceAdd])) only [go_sem, ↓reduceIte, Nat.reduceAdd, Int.reduceNeg, Int.reduceAdd, Int.reduceSub, Int.reduceMul, Int.reduceLT, Int.reduceLE, Int.reduceEq, Int.reduceToNat, Nat.reduceBEq, true_and]
    rfl
  | some x =>
    obtain ⟨f, st⟩ := x
    obtain ⟨hA, b1, b2, b3, b4⟩ := rdc_bd hd
    have hR := rdc_red hd
    obtain ⟨r, c, l⟩ := m
    obtain ⟨g1, g2, g3, g4, -⟩ := mtB_dims hA
    simp only at g1 g2 g3 g4
    obtain ⟨n, rfl⟩ := Int.eq_ofNat_of_zero_le g1
    obtain ⟨W, rfl⟩ := Int.eq_ofNat_of_zero_le g3
    simp only [Int.toNat_natCast] at b1 b2 b3 b4 hR
    rw [hd] at hm
    simp only [gM, Int.toNat_natCast] at hm ⊢
    have hpl : ((pivL st).map encZ).length = st.length := by rw [List.length_map]; exact pivL_len st
    have hpl' := pivL_len st
    have hi0 := mIntItem 0
    have hi1 := mIntItem 1
    rw [intN_eq (by omega)] at hi0 hi1
    refine meets_upf Try.func35 u_impl_NullSpace_g rfl ?_; simp only [u_impl_NullSpace_u]
    simp only [encMt, encIts, encZs, encIt, Option.isSome_some] at hm hi0 hi1 ⊢
    simp (disch := first | omega | (simp only [List.length_take, List.length_drop, List.length_append, List.map_cons, List.map_nil, List.length_map, List.length_cons, List.length_nil, List.length_set, List.length_replicate]; omega) | (simp only [List.length_cons, List.length_nil, Nat.zero_add, Nat.reduceAdd])) only [go_sem, ↓reduceIte, Nat.reduceAdd, Int.reduceNeg, Int.reduceAdd, Int.reduceSub, Int.reduceMul, Int.reduceLT, Int.reduceLE, Int.reduceEq, Int.reduceToNat, Nat.reduceBEq, true_and]
    refine cl_ok hm rfl ?_
    simp (disch := first | omega | (simp only [List.length_take, List.length_drop, List.length_append, List.map_cons, List.map_nil, List.length_map, List.length_cons, List.length_nil, List.length_set, List.length_replicate]; omega) | (simp only [List.length_cons, List.length_nil, Nat.zero_add, Nat.reduceAdd])) only [go_sem, ↓reduceIte, Nat.reduceAdd, Int.reduceNeg, Int.reduceAdd, Int.reduceSub, Int.reduceMul, Int.reduceLT, Int.reduceLE, Int.reduceEq, Int.reduceToNat, Nat.reduceBEq, true_and]
    refine lp_n W (fun i => [.sc (.int .i64 (i : Nat)), .sl 3 1 ((negOnes W i).map encZ)]) (by unfold negOnes; rw [List.replicate_zero, List.nil_append, List.map_replicate]; rfl) fun i hi => ?_
    have hnl := negOnes_len hi
    simp only [u_impl_NullSpace_l6]
    simp (disch := first | omega | (simp only [List.length_take, List.length_drop, List.length_append, List.map_cons, List.map_nil, List.length_map, List.length_cons, List.length_nil, List.length_set, List.length_replicate]; omega) | (simp only [List.length_cons, List.length_nil, Nat.zero_add, Nat.reduceAdd])) only [go_sem, ↓reduceIte, Nat.reduceAdd, Int.reduceNeg, Int.reduceAdd, Int.reduceSub, Int.reduceMul, Int.reduceLT, Int.reduceLE, Int.reduceEq, Int.reduceToNat, Nat.reduceBEq, List.length_replicate]
    refine br_if (fun h => ?_) (fun h => ?_)
    · have hlt : i < W := by omega
      simp (disch := first | omega | (simp only [List.length_take, List.length_drop, List.length_append, List.map_cons, List.map_nil, List.length_map, List.length_cons, List.length_nil, List.length_set, List.length_replicate]; omega) | (simp only [List.length_cons, List.length_nil, Nat.zero_add, Nat.reduceAdd])) only [go_sem, ↓reduceIte, Nat.reduceAdd, Int.reduceNeg, Int.reduceAdd, Int.reduceSub, Int.reduceMul, Int.reduceLT, Int.reduceLE, Int.reduceEq, Int.reduceToNat, Nat.reduceBEq, st_z, nat1, negOnes_set hlt]
      exact hlt
    obtain rfl : W = i := by omega
    have e0 : negOnes W W = rowL W st 0 := by unfold negOnes rowL; rw [Nat.sub_self]; simp
    simp (disch := first | omega | (simp only [List.length_take, List.length_drop, List.length_append, List.map_cons, List.map_nil, List.length_map, List.length_cons, List.length_nil, List.length_set, List.length_replicate]; omega) | (simp only [List.length_cons, List.length_nil, Nat.zero_add, Nat.reduceAdd])) only [go_sem, ↓reduceIte, Nat.reduceAdd, Int.reduceNeg, Int.reduceAdd, Int.reduceSub, Int.reduceMul, Int.reduceLT, Int.reduceLE, Int.reduceEq, Int.reduceToNat, Nat.reduceBEq, hpl, e0]
    refine lp_n st.length (fun i => [.sc (.int .i64 (i : Nat)), .sl 3 1 ((rowL W st i).map encZ)]) rfl fun i hi => ?_
    have hrl := rowL_len W st i
    simp only [u_impl_NullSpace_l5]
    simp (disch := first | omega | (simp only [List.length_take, List.length_drop, List.length_append, List.map_cons, List.map_nil, List.length_map, List.length_cons, List.length_nil, List.length_set, List.length_replicate]; omega) | (simp only [List.length_cons, List.length_nil, Nat.zero_add, Nat.reduceAdd])) only [go_sem, ↓reduceIte, Nat.reduceAdd, Int.reduceNeg, Int.reduceAdd, Int.reduceSub, Int.reduceMul, Int.reduceLT, Int.reduceLE, Int.reduceEq, Int.reduceToNat, Nat.reduceBEq, hpl]
    refine br_if (fun h => ?_) (fun h => ?_)
    · have hlt : i < st.length := by omega
      have hp := piv_lt hR hlt
      have hpg := pivL_getD hlt
      simp (disch := first | omega | (simp only [List.length_take, List.length_drop, List.length_append, List.map_cons, List.map_nil, List.length_map, List.length_cons, List.length_nil, List.length_set, List.length_replicate]; omega) | (simp only [List.length_cons, List.length_nil, Nat.zero_add, Nat.reduceAdd])) only [go_sem, ↓reduceIte, Nat.reduceAdd, Int.reduceNeg, Int.reduceAdd, Int.reduceSub, Int.reduceMul, Int.reduceLT, Int.reduceLE, Int.reduceEq, Int.reduceToNat, Nat.reduceBEq, ix_z, hpg, st_z, nat1]
      exact ⟨rfl, hlt⟩
    obtain rfl : i = st.length := by omega
    simp (disch := first | omega | (simp only [List.length_take, List.length_drop, List.length_append, List.map_cons, List.map_nil, List.length_map, List.length_cons, List.length_nil, List.length_set, List.length_replicate]; omega) | (simp only [List.length_cons, List.length_nil, Nat.zero_add, Nat.reduceAdd])) only [go_sem, ↓reduceIte, Nat.reduceAdd, Int.reduceNeg, Int.reduceAdd, Int.reduceSub, Int.reduceMul, Int.reduceLT, Int.reduceLE, Int.reduceEq, Int.reduceToNat, Nat.reduceBEq, true_and]
    refine lp_n W (fun k => [.sc (.int .i64 (k : Nat)), .sl 3 1 ((ofN (fr W st k)).map encZ)]) rfl fun k hk => ?_
    have hfl := fr_len (W := W) (st := st) (n := k)
    have hfl' : (ofN (fr W st k)).length ≤ k := by simpa [ofN] using hfl
    simp only [u_impl_NullSpace_l4]
    simp (disch := first | omega | (simp only [List.length_take, List.length_drop, List.length_append, List.map_cons, List.map_nil, List.length_map, List.length_cons, List.length_nil, List.length_set, List.length_replicate]; omega) | (simp only [List.length_cons, List.length_nil, Nat.zero_add, Nat.reduceAdd])) only [go_sem, ↓reduceIte, Nat.reduceAdd, Int.reduceNeg, Int.reduceAdd, Int.reduceSub, Int.reduceMul, Int.reduceLT, Int.reduceLE, Int.reduceEq, Int.reduceToNat, Nat.reduceBEq, true_and]
    refine br_if (fun h => ?_) (fun h => ?_)
    · have hlt : k < W := by omega
      have hfs := fr_succ (W := W) (st := st) (n := k)
      refine jn (fun vs => ∃ y0 y2, vs = [y0, y2, .sl 3 1 ((ofN (fr W st (k + 1))).map encZ)]) ?_ ?_
      · simp (disch := first | omega | (simp only [List.length_take, List.length_drop, List.length_append, List.map_cons, List.map_nil, List.length_map, List.length_cons, List.length_nil, List.length_set, List.length_replicate]; omega) | (simp only [List.length_cons, List.length_nil, Nat.zero_add, Nat.reduceAdd])) only [go_sem, ↓reduceIte, Nat.reduceAdd, Int.reduceNeg, Int.reduceAdd, Int.reduceSub, Int.reduceMul, Int.reduceLT, Int.reduceLE, Int.reduceEq, Int.reduceToNat, Nat.reduceBEq, ix_z]
        refine br_if (fun h2 => ?_) (fun h2 => ?_)
        · simp (disch := first | omega | (simp only [List.length_take, List.length_drop, List.length_append, List.map_cons, List.map_nil, List.length_map, List.length_cons, List.length_nil, List.length_set, List.length_replicate]; omega) | (simp only [List.length_cons, List.length_nil, Nat.zero_add, Nat.reduceAdd])) only [go_sem, ↓reduceIte, Nat.reduceAdd, Int.reduceNeg, Int.reduceAdd, Int.reduceSub, Int.reduceMul, Int.reduceLT, Int.reduceLE, Int.reduceEq, Int.reduceToNat, Nat.reduceBEq, ix_z, fl1_z]
          rw [hfs, if_pos (show qOf W st k < 0 from h2)]
          rw [show ofN (fr W st k ++ [k]) = ofN (fr W st k) ++ [(k : Int)] from by simp [ofN], List.map_append]
          exact ⟨_, _, rfl⟩
        · simp (disch := first | omega | (simp only [List.length_take, List.length_drop, List.length_append, List.map_cons, List.map_nil, List.length_map, List.length_cons, List.length_nil, List.length_set, List.length_replicate]; omega) | (simp only [List.length_cons, List.length_nil, Nat.zero_add, Nat.reduceAdd])) only [go_sem, ↓reduceIte, Nat.reduceAdd, Int.reduceNeg, Int.reduceAdd, Int.reduceSub, Int.reduceMul, Int.reduceLT, Int.reduceLE, Int.reduceEq, Int.reduceToNat, Nat.reduceBEq, ix_z]
          rw [hfs, if_neg (show ¬ qOf W st k < 0 from h2), List.append_nil]
          exact ⟨_, _, rfl⟩
      · rintro vs - ⟨y0, y2, rfl⟩
        simp only [u_impl_NullSpace_j0]
        simp (disch := first | omega | (simp only [List.length_take, List.length_drop, List.length_append, List.map_cons, List.map_nil, List.length_map, List.length_cons, List.length_nil, List.length_set, List.length_replicate]; omega) | (simp only [List.length_cons, List.length_nil, Nat.zero_add, Nat.reduceAdd])) only [go_sem, ↓reduceIte, Nat.reduceAdd, Int.reduceNeg, Int.reduceAdd, Int.reduceSub, Int.reduceMul, Int.reduceLT, Int.reduceLE, Int.reduceEq, Int.reduceToNat, Nat.reduceBEq, nat1]
        exact hlt
    obtain rfl : W = k := by omega
    have hol : (ofN (fr W st W)).length = (fr W st W).length := by simp [ofN]
    simp (disch := first | omega | (simp only [List.length_take, List.length_drop, List.length_append, List.map_cons, List.map_nil, List.length_map, List.length_cons, List.length_nil, List.length_set, List.length_replicate]; omega) | (simp only [List.length_cons, List.length_nil, Nat.zero_add, Nat.reduceAdd])) only [go_sem, ↓reduceIte, Nat.reduceAdd, Int.reduceNeg, Int.reduceAdd, Int.reduceSub, Int.reduceMul, Int.reduceLT, Int.reduceLE, Int.reduceEq, Int.reduceToNat, Nat.reduceBEq, hol]
    unfold nulL
    have hq0 : ∀ i, (rowL W st st.length).getD i default = qOf W st i := fun i => rfl
    have hrl := rowL_len W st st.length
    have hFg := fun j => fr_get (W := W) (st := st) (n := W) (j := j)
    have hof := fun j => ofN_get (l := fr W st W) (j := j)
    have hF12 := fr_len (W := W) (st := st) (n := W)
    generalize hF : fr W st W = F at *
    generalize hE : (fun i j => ent W f st i (F.getD j default)) = E at *
    have hEa : ∀ i j, E i j = ent W f st i (F.getD j default) := fun i j => by rw [← hE]
    refine lp_n W (fun i => [.sc (.int .i64 (i : Nat)), .sl 41 3 ((gridL F.length E (i * F.length)).map encIt)]) (by rw [Nat.zero_mul]; rfl) fun i hi => ?_
    simp only [u_impl_NullSpace_l3]
    simp (disch := first | omega | (simp only [List.length_take, List.length_drop, List.length_append, List.map_cons, List.map_nil, List.length_map, List.length_cons, List.length_nil, List.length_set, List.length_replicate]; omega) | (simp only [List.length_cons, List.length_nil, Nat.zero_add, Nat.reduceAdd])) only [go_sem, ↓reduceIte, Nat.reduceAdd, Int.reduceNeg, Int.reduceAdd, Int.reduceSub, Int.reduceMul, Int.reduceLT, Int.reduceLE, Int.reduceEq, Int.reduceToNat, Nat.reduceBEq, true_and]
    refine br_if (fun h => ?_) (fun h => ?_)
    rotate_left
    · obtain rfl : W = i := by omega
      simp (disch := first | omega | (simp only [List.length_take, List.length_drop, List.length_append, List.map_cons, List.map_nil, List.length_map, List.length_cons, List.length_nil, List.length_set, List.length_replicate]; omega) | (simp only [List.length_cons, List.length_nil, Nat.zero_add, Nat.reduceAdd])) only [go_sem, ↓reduceIte, Nat.reduceAdd, Int.reduceNeg, Int.reduceAdd, Int.reduceSub, Int.reduceMul, Int.reduceLT, Int.reduceLE, Int.reduceEq, Int.reduceToNat, Nat.reduceBEq, true_and]
      rfl
    have hiW : i < W := by omega
    have hin : i * F.length ≤ 12 * 12 := Nat.mul_le_mul (by omega) (by omega)
    simp (disch := first | omega | (simp only [List.length_take, List.length_drop, List.length_append, List.map_cons, List.map_nil, List.length_map, List.length_cons, List.length_nil, List.length_set, List.length_replicate]; omega) | (simp only [List.length_cons, List.length_nil, Nat.zero_add, Nat.reduceAdd])) only [go_sem, ↓reduceIte, Nat.reduceAdd, Int.reduceNeg, Int.reduceAdd, Int.reduceSub, Int.reduceMul, Int.reduceLT, Int.reduceLE, Int.reduceEq, Int.reduceToNat, Nat.reduceBEq, true_and]
    refine lp_n F.length (fun j => [.sc (.int .i64 (j : Nat)), .sl 41 3 ((gridL F.length E (i * F.length + j)).map encIt)]) rfl fun j hj => ?_
    simp only [u_impl_NullSpace_l2]
    simp (disch := first | omega | (simp only [List.length_take, List.length_drop, List.length_append, List.map_cons, List.map_nil, List.length_map, List.length_cons, List.length_nil, List.length_set, List.length_replicate]; omega) | (simp only [List.length_cons, List.length_nil, Nat.zero_add, Nat.reduceAdd])) only [go_sem, ↓reduceIte, Nat.reduceAdd, Int.reduceNeg, Int.reduceAdd, Int.reduceSub, Int.reduceMul, Int.reduceLT, Int.reduceLE, Int.reduceEq, Int.reduceToNat, Nat.reduceBEq, hol]
    refine br_if (fun h1 => ?_) (fun h1 => ?_)
    rotate_left
    · obtain rfl : F.length = j := by omega
      simp (disch := first | omega | (simp only [List.length_take, List.length_drop, List.length_append, List.map_cons, List.map_nil, List.length_map, List.length_cons, List.length_nil, List.length_set, List.length_replicate]; omega) | (simp only [List.length_cons, List.length_nil, Nat.zero_add, Nat.reduceAdd])) only [go_sem, ↓reduceIte, Nat.reduceAdd, Int.reduceNeg, Int.reduceAdd, Int.reduceSub, Int.reduceMul, Int.reduceLT, Int.reduceLE, Int.reduceEq, Int.reduceToNat, Nat.reduceBEq, nat1]
      rw [Nat.succ_mul]
      exact ⟨rfl, hiW⟩
    have hlj : j < F.length := by omega
    have hs := gridL_succ (i := i) E hlj
    have hgl := gridL_len F.length E (i * F.length + j)
    have hfj := hFg j hlj
    have hoj := hof j hlj
    have hEij := hEa i j
    generalize hFj : F.getD j default = c at *
    unfold ent at hEij
    have hbq := rowL_bd (W := W) (st := st) hiW st.length
    rw [hq0] at hbq
    refine jn (fun vs => ∃ y0 y1, vs = [y0, y1, .sl 41 3 ((gridL F.length E (i * F.length + j + 1)).map encIt)]) ?_ ?_
    · simp (disch := first | omega | (simp only [List.length_take, List.length_drop, List.length_append, List.map_cons, List.map_nil, List.length_map, List.length_cons, List.length_nil, List.length_set, List.length_replicate]; omega) | (simp only [List.length_cons, List.length_nil, Nat.zero_add, Nat.reduceAdd])) only [go_sem, ↓reduceIte, Nat.reduceAdd, Int.reduceNeg, Int.reduceAdd, Int.reduceSub, Int.reduceMul, Int.reduceLT, Int.reduceLE, Int.reduceEq, Int.reduceToNat, Nat.reduceBEq, ix_z, hoj, hq0]
      refine br_if (fun h2 => ?_) (fun h2 => ?_)
      · rw [if_pos h2] at hEij
        obtain ⟨q, hq⟩ := Int.eq_ofNat_of_zero_le h2
        have hca := cellAt_g (r := (n : Int)) f (show q < n by omega) (show c < W by omega) (by omega) (by omega)
        have hne := mImplNeg (f q c)
        simp only [encMt, encIts, encIt] at hca hne
        simp (disch := first | omega | (simp only [List.length_take, List.length_drop, List.length_append, List.map_cons, List.map_nil, List.length_map, List.length_cons, List.length_nil, List.length_set, List.length_replicate]; omega) | (simp only [List.length_cons, List.length_nil, Nat.zero_add, Nat.reduceAdd])) only [go_sem, ↓reduceIte, Nat.reduceAdd, Int.reduceNeg, Int.reduceAdd, Int.reduceSub, Int.reduceMul, Int.reduceLT, Int.reduceLE, Int.reduceEq, Int.reduceToNat, Nat.reduceBEq, ix_z, hoj, hq0, hq]
        refine cl_ok hca rfl ?_
        simp (disch := first | omega | (simp only [List.length_take, List.length_drop, List.length_append, List.map_cons, List.map_nil, List.length_map, List.length_cons, List.length_nil, List.length_set, List.length_replicate]; omega) | (simp only [List.length_cons, List.length_nil, Nat.zero_add, Nat.reduceAdd])) only [go_sem, ↓reduceIte, Nat.reduceAdd, Int.reduceNeg, Int.reduceAdd, Int.reduceSub, Int.reduceMul, Int.reduceLT, Int.reduceLE, Int.reduceEq, Int.reduceToNat, Nat.reduceBEq, true_and]
        refine cl_ok hne rfl ?_
        simp (disch := first | omega | (simp only [List.length_take, List.length_drop, List.length_append, List.map_cons, List.map_nil, List.length_map, List.length_cons, List.length_nil, List.length_set, List.length_replicate]; omega) | (simp only [List.length_cons, List.length_nil, Nat.zero_add, Nat.reduceAdd])) only [go_sem, ↓reduceIte, Nat.reduceAdd, Int.reduceNeg, Int.reduceAdd, Int.reduceSub, Int.reduceMul, Int.reduceLT, Int.reduceLE, Int.reduceEq, Int.reduceToNat, Nat.reduceBEq, fl1_it']
        rw [hq, Int.toNat_natCast] at hEij
        rw [hs, hEij, List.map_append]
        exact ⟨_, _, rfl⟩
      · rw [if_neg h2] at hEij
        simp (disch := first | omega | (simp only [List.length_take, List.length_drop, List.length_append, List.map_cons, List.map_nil, List.length_map, List.length_cons, List.length_nil, List.length_set, List.length_replicate]; omega) | (simp only [List.length_cons, List.length_nil, Nat.zero_add, Nat.reduceAdd])) only [go_sem, ↓reduceIte, Nat.reduceAdd, Int.reduceNeg, Int.reduceAdd, Int.reduceSub, Int.reduceMul, Int.reduceLT, Int.reduceLE, Int.reduceEq, Int.reduceToNat, Nat.reduceBEq, true_and]
        refine br_if (fun h3 => ?_) (fun h3 => ?_)
        · rw [if_pos (by omega)] at hEij
          simp (disch := first | omega | (simp only [List.length_take, List.length_drop, List.length_append, List.map_cons, List.map_nil, List.length_map, List.length_cons, List.length_nil, List.length_set, List.length_replicate]; omega) | (simp only [List.length_cons, List.length_nil, Nat.zero_add, Nat.reduceAdd])) only [go_sem, ↓reduceIte, Nat.reduceAdd, Int.reduceNeg, Int.reduceAdd, Int.reduceSub, Int.reduceMul, Int.reduceLT, Int.reduceLE, Int.reduceEq, Int.reduceToNat, Nat.reduceBEq, true_and]
          refine cl_ok hi1 rfl ?_
          simp (disch := first | omega | (simp only [List.length_take, List.length_drop, List.length_append, List.map_cons, List.map_nil, List.length_map, List.length_cons, List.length_nil, List.length_set, List.length_replicate]; omega) | (simp only [List.length_cons, List.length_nil, Nat.zero_add, Nat.reduceAdd])) only [go_sem, ↓reduceIte, Nat.reduceAdd, Int.reduceNeg, Int.reduceAdd, Int.reduceSub, Int.reduceMul, Int.reduceLT, Int.reduceLE, Int.reduceEq, Int.reduceToNat, Nat.reduceBEq, fl1_i]
          rw [hs, hEij, List.map_append]
          exact ⟨_, _, rfl⟩
        · rw [if_neg (by omega)] at hEij
          simp (disch := first | omega | (simp only [List.length_take, List.length_drop, List.length_append, List.map_cons, List.map_nil, List.length_map, List.length_cons, List.length_nil, List.length_set, List.length_replicate]; omega) | (simp only [List.length_cons, List.length_nil, Nat.zero_add, Nat.reduceAdd])) only [go_sem, ↓reduceIte, Nat.reduceAdd, Int.reduceNeg, Int.reduceAdd, Int.reduceSub, Int.reduceMul, Int.reduceLT, Int.reduceLE, Int.reduceEq, Int.reduceToNat, Nat.reduceBEq, true_and]
          refine cl_ok hi0 rfl ?_
          simp (disch := first | omega | (simp only [List.length_take, List.length_drop, List.length_append, List.map_cons, List.map_nil, List.length_map, List.length_cons, List.length_nil, List.length_set, List.length_replicate]; omega) | (simp only [List.length_cons, List.length_nil, Nat.zero_add, Nat.reduceAdd])) only [go_sem, ↓reduceIte, Nat.reduceAdd, Int.reduceNeg, Int.reduceAdd, Int.reduceSub, Int.reduceMul, Int.reduceLT, Int.reduceLE, Int.reduceEq, Int.reduceToNat, Nat.reduceBEq, fl1_i]
          rw [hs, hEij, List.map_append]
          exact ⟨_, _, rfl⟩
    · rintro vs - ⟨y0, y1, rfl⟩
      simp only [u_impl_NullSpace_j1]
      simp (disch := first | omega | (simp only [List.length_take, List.length_drop, List.length_append, List.map_cons, List.map_nil, List.length_map, List.length_cons, List.length_nil, List.length_set, List.length_replicate]; omega) | (simp only [List.length_cons, List.length_nil, Nat.zero_add, Nat.reduceAdd])) only [go_sem, ↓reduceIte, Nat.reduceAdd, Int.reduceNeg, Int.reduceAdd, Int.reduceSub, Int.reduceMul, Int.reduceLT, Int.reduceLE, Int.reduceEq, Int.reduceToNat, Nat.reduceBEq, nat1]
      exact ⟨rfl, hlj⟩
set_option maxHeartbeats 4000000 in
theorem specNul_m (m : Mt) : Meets Try.prog 34 [(true, encMt m)] [(true, encMt (nulM m), true), (false, [.sc (.bool (nulO m).isSome)], true)] := by
  have hm := specRR_m m
  unfold nulM nulO
  unfold rrM rrP at hm
  cases hd : rdc m with
  | none =>
    obtain ⟨r, c, l⟩ := m
    rw [hd] at hm
    refine meets_upf Try.func34 u_spec_NullSpace_g rfl ?_; simp only [u_spec_NullSpace_u]
    simp only [encMt, encIts, encZs, Option.isSome_none] at hm ⊢
    simp (disch := first | omega | (simp only [List.length_take, List.length_drop, List.length_append, List.map_cons, List.map_nil, List.length_map, List.length_cons, List.length_nil, List.length_set, List.length_replicate]; omega) | (simp only [List.length_cons, List.length_nil, Nat.zero_add, Nat.reduceAdd])) only [go_sem, ↓reduceIte, Nat.reduceAdd, Int.reduceNeg, Int.reduceAdd, Int.reduceSub, Int.reduceMul, Int.reduceLT, Int.reduceLE, Int.reduceEq, Int.reduceToNat, Nat.reduceBEq, true_and]
    refine cl_ok hm rfl ?_
    simp (disch := first | omega | (simp only [List.length_take, List.length_drop, List.length_append, List.map_cons, List.map_nil, List.length_map, List.length_cons, List.length_nil, List.length_set, List.length_replicate]; omega) | (simp only [List.length_cons, List.length_nil, Nat.zero_add, Nat.reduceAdd])) only [go_sem, ↓reduceIte, Nat.reduceAdd, Int.reduceNeg, Int.reduceAdd, Int.reduceSub, Int.reduceMul, Int.reduceLT, Int.reduceLE, Int.reduceEq, Int.reduceToNat, Nat.reduceBEq, true_and]
    rfl
  | some x =>
    obtain ⟨f, st⟩ := x
    obtain ⟨hA, b1, b2, b3, b4⟩ := rdc_bd hd
    have hR := rdc_red hd
    obtain ⟨r, c, l⟩ := m
    obtain ⟨g1, g2, g3, g4, -⟩ := mtB_dims hA
    simp only at g1 g2 g3 g4
    obtain ⟨n, rfl⟩ := Int.eq_ofNat_of_zero_le g1
    obtain ⟨W, rfl⟩ := Int.eq_ofNat_of_zero_le g3
    simp only [Int.toNat_natCast] at b1 b2 b3 b4 hR
    rw [hd] at hm
    simp only [gM, Int.toNat_natCast] at hm ⊢
    have hpl : ((pivL st).map encZ).length = st.length := by rw [List.length_map]; exact pivL_len st
    have hpl' := pivL_len st
    have hi1 := mL2Num 1
    have hz := l14Zero_m W 1 (by omega) (by omega)
    have hF12 := fr_len (W := W) (st := st) (n := W)
    have htu := l14Turn_m (fr W st W).length W ((fr W st W).flatMap (vec W f st)) (flatv_len (fun c => vec_len) _) (by omega) (by omega)
    rw [nul_turn] at htu
    rw [Nat.mul_one] at hz
    refine meets_upf Try.func34 u_spec_NullSpace_g rfl ?_; simp only [u_spec_NullSpace_u]
    simp only [encMt, encIts, encZs, encIt, Option.isSome_some] at hm hi1 hz htu ⊢
    simp (disch := first | omega | (simp only [List.length_take, List.length_drop, List.length_append, List.map_cons, List.map_nil, List.length_map, List.length_cons, List.length_nil, List.length_set, List.length_replicate]; omega) | (simp only [List.length_cons, List.length_nil, Nat.zero_add, Nat.reduceAdd])) only [go_sem, ↓reduceIte, Nat.reduceAdd, Int.reduceNeg, Int.reduceAdd, Int.reduceSub, Int.reduceMul, Int.reduceLT, Int.reduceLE, Int.reduceEq, Int.reduceToNat, Nat.reduceBEq, true_and]
    refine cl_ok hm rfl ?_
    simp (disch := first | omega | (simp only [List.length_take, List.length_drop, List.length_append, List.map_cons, List.map_nil, List.length_map, List.length_cons, List.length_nil, List.length_set, List.length_replicate]; omega) | (simp only [List.length_cons, List.length_nil, Nat.zero_add, Nat.reduceAdd])) only [go_sem, ↓reduceIte, Nat.reduceAdd, Int.reduceNeg, Int.reduceAdd, Int.reduceSub, Int.reduceMul, Int.reduceLT, Int.reduceLE, Int.reduceEq, Int.reduceToNat, Nat.reduceBEq, true_and]
    refine lp_n W (fun c => [.sc (.int .i64 (c : Nat)), .sc (.int .i64 ((fr W st c).length : Nat)), .sl 41 3 (((fr W st c).flatMap (vec W f st)).map encIt)]) rfl fun c hc => ?_
    simp only [u_spec_NullSpace_l2]
    simp (disch := first | omega | (simp only [List.length_take, List.length_drop, List.length_append, List.map_cons, List.map_nil, List.length_map, List.length_cons, List.length_nil, List.length_set, List.length_replicate]; omega) | (simp only [List.length_cons, List.length_nil, Nat.zero_add, Nat.reduceAdd])) only [go_sem, ↓reduceIte, Nat.reduceAdd, Int.reduceNeg, Int.reduceAdd, Int.reduceSub, Int.reduceMul, Int.reduceLT, Int.reduceLE, Int.reduceEq, Int.reduceToNat, Nat.reduceBEq, true_and]
    refine br_if (fun h => ?_) (fun h => ?_)
    rotate_left
    · obtain rfl : W = c := by omega
      simp (disch := first | omega | (simp only [List.length_take, List.length_drop, List.length_append, List.map_cons, List.map_nil, List.length_map, List.length_cons, List.length_nil, List.length_set, List.length_replicate]; omega) | (simp only [List.length_cons, List.length_nil, Nat.zero_add, Nat.reduceAdd])) only [go_sem, ↓reduceIte, Nat.reduceAdd, Int.reduceNeg, Int.reduceAdd, Int.reduceSub, Int.reduceMul, Int.reduceLT, Int.reduceLE, Int.reduceEq, Int.reduceToNat, Nat.reduceBEq, true_and]
      refine cl_ok htu rfl ?_
      simp (disch := first | omega | (simp only [List.length_take, List.length_drop, List.length_append, List.map_cons, List.map_nil, List.length_map, List.length_cons, List.length_nil, List.length_set, List.length_replicate]; omega) | (simp only [List.length_cons, List.length_nil, Nat.zero_add, Nat.reduceAdd])) only [go_sem, ↓reduceIte, Nat.reduceAdd, Int.reduceNeg, Int.reduceAdd, Int.reduceSub, Int.reduceMul, Int.reduceLT, Int.reduceLE, Int.reduceEq, Int.reduceToNat, Nat.reduceBEq, true_and]
      rfl
    have hcW : c < W := by omega
    have hfc := fr_len (W := W) (st := st) (n := c)
    have hfs := fr_succ (W := W) (st := st) (n := c)
    have hfl := flatv_len (v := vec W f st) (W := W) (fun c => vec_len) (fr W st c)
    have hfb : (fr W st c).length * W ≤ 12 * 12 := Nat.mul_le_mul (by omega) (by omega)
    simp (disch := first | omega | (simp only [List.length_take, List.length_drop, List.length_append, List.map_cons, List.map_nil, List.length_map, List.length_cons, List.length_nil, List.length_set, List.length_replicate]; omega) | (simp only [List.length_cons, List.length_nil, Nat.zero_add, Nat.reduceAdd])) only [go_sem, ↓reduceIte, Nat.reduceAdd, Int.reduceNeg, Int.reduceAdd, Int.reduceSub, Int.reduceMul, Int.reduceLT, Int.reduceLE, Int.reduceEq, Int.reduceToNat, Nat.reduceBEq, true_and]
    refine jn (fun vs => ∃ y0 y1 y2 y5 y6 y7, vs = [y0, y1, y2, .sc (.int .i64 ((fr W st (c + 1)).length : Nat)), .sl 41 3 (((fr W st (c + 1)).flatMap (vec W f st)).map encIt), y5, y6, y7]) ?_ ?_
    rotate_left
    · rintro vs - ⟨y0, y1, y2, y5, y6, y7, rfl⟩
      simp only [u_spec_NullSpace_j1]
      simp (disch := first | omega | (simp only [List.length_take, List.length_drop, List.length_append, List.map_cons, List.map_nil, List.length_map, List.length_cons, List.length_nil, List.length_set, List.length_replicate]; omega) | (simp only [List.length_cons, List.length_nil, Nat.zero_add, Nat.reduceAdd])) only [go_sem, ↓reduceIte, Nat.reduceAdd, Int.reduceNeg, Int.reduceAdd, Int.reduceSub, Int.reduceMul, Int.reduceLT, Int.reduceLE, Int.reduceEq, Int.reduceToNat, Nat.reduceBEq, nat1]
      exact hcW
    simp (disch := first | omega | (simp only [List.length_take, List.length_drop, List.length_append, List.map_cons, List.map_nil, List.length_map, List.length_cons, List.length_nil, List.length_set, List.length_replicate]; omega) | (simp only [List.length_cons, List.length_nil, Nat.zero_add, Nat.reduceAdd])) only [go_sem, ↓reduceIte, Nat.reduceAdd, Int.reduceNeg, Int.reduceAdd, Int.reduceSub, Int.reduceMul, Int.reduceLT, Int.reduceLE, Int.reduceEq, Int.reduceToNat, Nat.reduceBEq, true_and]
    refine cl_ok hz rfl ?_
    simp (disch := first | omega | (simp only [List.length_take, List.length_drop, List.length_append, List.map_cons, List.map_nil, List.length_map, List.length_cons, List.length_nil, List.length_set, List.length_replicate]; omega) | (simp only [List.length_cons, List.length_nil, Nat.zero_add, Nat.reduceAdd])) only [go_sem, ↓reduceIte, Nat.reduceAdd, Int.reduceNeg, Int.reduceAdd, Int.reduceSub, Int.reduceMul, Int.reduceLT, Int.reduceLE, Int.reduceEq, Int.reduceToNat, Nat.reduceBEq, true_and]
    refine lp_n st.length (fun i => [.sc (.int .i64 (i : Nat)), .sc (.bool (frB st c i)), .sl 41 3 ((colL W f st c i).map encIt)]) rfl fun i hi => ?_
    have hcl := colL_len W f st c i
    simp only [u_spec_NullSpace_l0]
    simp (disch := first | omega | (simp only [List.length_take, List.length_drop, List.length_append, List.map_cons, List.map_nil, List.length_map, List.length_cons, List.length_nil, List.length_set, List.length_replicate]; omega) | (simp only [List.length_cons, List.length_nil, Nat.zero_add, Nat.reduceAdd])) only [go_sem, ↓reduceIte, Nat.reduceAdd, Int.reduceNeg, Int.reduceAdd, Int.reduceSub, Int.reduceMul, Int.reduceLT, Int.reduceLE, Int.reduceEq, Int.reduceToNat, Nat.reduceBEq, hpl]
    refine br_if (fun h1 => ?_) (fun h1 => ?_)
    · have hlt : i < st.length := by omega
      have hp := piv_lt hR hlt
      have hpg := pivL_getD hlt
      have hbs := frB_succ (c := c) hlt
      have hne := mSpecNeg (f i c)
      have hiw : i * W ≤ 12 * 12 := Nat.mul_le_mul (by omega) (by omega)
      simp only [encIt] at hne
      cases hb : frB st c i
      · simp (disch := first | omega | (simp only [List.length_take, List.length_drop, List.length_append, List.map_cons, List.map_nil, List.length_map, List.length_cons, List.length_nil, List.length_set, List.length_replicate]; omega) | (simp only [List.length_cons, List.length_nil, Nat.zero_add, Nat.reduceAdd])) only [go_sem, ↓reduceIte, Nat.reduceAdd, Int.reduceNeg, Int.reduceAdd, Int.reduceSub, Int.reduceMul, Int.reduceLT, Int.reduceLE, Int.reduceEq, Int.reduceToNat, Nat.reduceBEq, hpl, ix_z, hpg, nm, na, ix_g (R := n) (W := W) (i := i) (k := c) (show i < n by omega) hcW, chk_g (R := n) (W := W) (i := i) (k := c) (show i < n by omega) hcW, encIt]
        refine cl_ok hne rfl ?_
        simp (disch := first | omega | (simp only [List.length_take, List.length_drop, List.length_append, List.map_cons, List.map_nil, List.length_map, List.length_cons, List.length_nil, List.length_set, List.length_replicate]; omega) | (simp only [List.length_cons, List.length_nil, Nat.zero_add, Nat.reduceAdd])) only [go_sem, ↓reduceIte, Nat.reduceAdd, Int.reduceNeg, Int.reduceAdd, Int.reduceSub, Int.reduceMul, Int.reduceLT, Int.reduceLE, Int.reduceEq, Int.reduceToNat, Nat.reduceBEq, hpl, ix_z, hpg, encIt, st_it, nat1]
        refine ⟨?_, hlt⟩
        rw [hbs, hb, colL, List.map_set]
        first | rfl | (congr 3; simp only [Bool.true_and, ne_eq]; by_cases he : (st.getD i default).1 = c <;> simp [he, Int.natCast_inj])
      · simp (disch := first | omega | (simp only [List.length_take, List.length_drop, List.length_append, List.map_cons, List.map_nil, List.length_map, List.length_cons, List.length_nil, List.length_set, List.length_replicate]; omega) | (simp only [List.length_cons, List.length_nil, Nat.zero_add, Nat.reduceAdd])) only [go_sem, ↓reduceIte, Nat.reduceAdd, Int.reduceNeg, Int.reduceAdd, Int.reduceSub, Int.reduceMul, Int.reduceLT, Int.reduceLE, Int.reduceEq, Int.reduceToNat, Nat.reduceBEq, hpl, ix_z, hpg, nm, na, ix_g (R := n) (W := W) (i := i) (k := c) (show i < n by omega) hcW, chk_g (R := n) (W := W) (i := i) (k := c) (show i < n by omega) hcW, encIt]
        refine cl_ok hne rfl ?_
        simp (disch := first | omega | (simp only [List.length_take, List.length_drop, List.length_append, List.map_cons, List.map_nil, List.length_map, List.length_cons, List.length_nil, List.length_set, List.length_replicate]; omega) | (simp only [List.length_cons, List.length_nil, Nat.zero_add, Nat.reduceAdd])) only [go_sem, ↓reduceIte, Nat.reduceAdd, Int.reduceNeg, Int.reduceAdd, Int.reduceSub, Int.reduceMul, Int.reduceLT, Int.reduceLE, Int.reduceEq, Int.reduceToNat, Nat.reduceBEq, hpl, ix_z, hpg, encIt, st_it, nat1]
        refine ⟨?_, hlt⟩
        rw [hbs, hb, colL, List.map_set]
        first | rfl | (congr 3; simp only [Bool.true_and, ne_eq]; by_cases he : (st.getD i default).1 = c <;> simp [he, Int.natCast_inj])
    · obtain rfl : i = st.length := by omega
      have hbq := frB_q (st := st) hcW
      by_cases hq : qOf W st c < 0
      · rw [decide_eq_true hq] at hbq
        simp (disch := first | omega | (simp only [List.length_take, List.length_drop, List.length_append, List.map_cons, List.map_nil, List.length_map, List.length_cons, List.length_nil, List.length_set, List.length_replicate]; omega) | (simp only [List.length_cons, List.length_nil, Nat.zero_add, Nat.reduceAdd])) only [go_sem, ↓reduceIte, Nat.reduceAdd, Int.reduceNeg, Int.reduceAdd, Int.reduceSub, Int.reduceMul, Int.reduceLT, Int.reduceLE, Int.reduceEq, Int.reduceToNat, Nat.reduceBEq, hbq]
        refine cl_ok hi1 rfl ?_
        have hset : ((colL W f st c st.length).map encIt).set c [.sc (.int .i64 (l2N 1).num), .sc (.int .i64 (l2N 1).den), .sc (.string (l2N 1).text)] = (vec W f st c).map encIt := by
          rw [← vec_col hcW hq, List.map_set]; rfl
        have hvl : (vec W f st c).length = W := vec_len
        simp (disch := first | omega | (simp only [List.length_take, List.length_drop, List.length_append, List.map_cons, List.map_nil, List.length_map, List.length_cons, List.length_nil, List.length_set, List.length_replicate]; omega) | (simp only [List.length_cons, List.length_nil, Nat.zero_add, Nat.reduceAdd])) only [go_sem, ↓reduceIte, Nat.reduceAdd, Int.reduceNeg, Int.reduceAdd, Int.reduceSub, Int.reduceMul, Int.reduceLT, Int.reduceLE, Int.reduceEq, Int.reduceToNat, Nat.reduceBEq, st_it, fl_it, nat1, hset]
        rw [hfs, if_pos hq, List.flatMap_append, List.length_append]
        simp only [List.map_append, List.flatMap_cons, List.flatMap_nil, List.append_nil, List.length_singleton]
        exact ⟨_, _, _, _, _, _, rfl⟩
      · rw [decide_eq_false hq] at hbq
        simp (disch := first | omega | (simp only [List.length_take, List.length_drop, List.length_append, List.map_cons, List.map_nil, List.length_map, List.length_cons, List.length_nil, List.length_set, List.length_replicate]; omega) | (simp only [List.length_cons, List.length_nil, Nat.zero_add, Nat.reduceAdd])) only [go_sem, ↓reduceIte, Nat.reduceAdd, Int.reduceNeg, Int.reduceAdd, Int.reduceSub, Int.reduceMul, Int.reduceLT, Int.reduceLE, Int.reduceEq, Int.reduceToNat, Nat.reduceBEq, hbq]
        rw [hfs, if_neg hq, List.append_nil]
        exact ⟨_, _, _, _, _, _, rfl⟩
end Go.Proofs.Ytmanijpmkeheeaa
