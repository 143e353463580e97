/- Pivots in order; a matrix beside another, reduced. -/
import Derived.Test.YtmanijpmkeheeaaUAug
import Derived.Test.YtmanijpmkeheeaaRedS
import Derived.Test.YtmanijpmkeheeaaCon2
namespace Go.Proofs.Ytmanijpmkeheeaa
open Go.RowKit
set_option linter.unusedVariables false
set_option linter.unusedSimpArgs false
set_option maxRecDepth 100000

theorem redS_piv {W R : Nat} {f0 : Nat → Nat → It} : ∀ {c : Nat} {f : Nat → Nat → It} {st : List Stp}, redS W R f0 c = some (f, st) → (∀ x ∈ st, x.1 < c) ∧ st.Pairwise (fun x y => x.1 < y.1)
  | 0, f, st, h => by simp only [redS] at h; injection h with h; injection h with _ h; subst h; simp
  | c + 1, f, st, h => by
    simp only [redS] at h
    split at h
    · cases h
    · rename_i g s1 h1
      obtain ⟨i1, i2⟩ := redS_piv h1
      have i3 : ∀ x ∈ s1, x.1 < c + 1 := fun x hx => Nat.lt_succ_of_lt (i1 x hx)
      unfold red1 at h
      split at h
      · injection h with h; injection h with _ h; subst h; exact ⟨i3, i2⟩
      · split at h
        · injection h with h; injection h with _ h; subst h; exact ⟨i3, i2⟩
        · split at h
          · injection h with h; injection h with _ h; subst h
            refine ⟨fun x hx => ?_, ?_⟩
            · rcases List.mem_append.1 hx with hx | hx
              · exact i3 x hx
              · rw [List.mem_singleton.1 hx]; exact Nat.lt_succ_self _
            · rw [List.pairwise_append]
              refine ⟨i2, by simp, fun x hx y hy => ?_⟩
              rw [List.mem_singleton.1 hy]; exact i1 x hx
          · cases h
def big (c : Nat) (st : List Stp) : Bool := st.any fun x => decide (c ≤ x.1)
theorem big_last {c : Nat} {st : List Stp} (h : st.Pairwise (fun x y => x.1 < y.1)) (hl : 0 < st.length) : big c st = decide (c ≤ (st.getD (st.length - 1) default).1) := by
  rcases List.eq_nil_or_concat st with h0 | ⟨s, x, h0⟩
  · subst h0; simp at hl
  · have h0 : st = s ++ [x] := by rw [h0, List.concat_eq_append]
    subst h0
    have e : (s ++ [x]).getD ((s ++ [x]).length - 1) default = x := by
      rw [List.getD_eq_getElem?_getD, List.length_append, List.length_singleton, Nat.add_sub_cancel, List.getElem?_append_right (Nat.le_refl _)]; simp
    rw [e]
    unfold big
    rw [List.any_append]
    simp only [List.any_cons, List.any_nil, Bool.or_false]
    by_cases hx : c ≤ x.1
    · simp [hx]
    · rw [decide_eq_false hx, Bool.or_false]
      rw [List.any_eq_false]
      intro y hy
      rw [List.pairwise_append] at h
      have := h.2.2 y hy x (by simp)
      simp; omega
theorem big_nil {c : Nat} : big c [] = false := rfl
theorem big_take {c i : Nat} {st : List Stp} (h : i < st.length) : big c (st.take (i + 1)) = (big c (st.take i) || decide (c ≤ (st.getD i default).1)) := by
  unfold big
  rw [List.take_succ_eq_append_getElem h, List.any_append, List.getD_eq_getElem?_getD, List.getElem?_eq_getElem h]; simp
theorem big_get {c i : Nat} {st : List Stp} (h : i < st.length) (hb : c ≤ (st.getD i default).1) : big c st = true := by
  unfold big
  rw [List.any_eq_true]
  rw [List.getD_eq_getElem?_getD, List.getElem?_eq_getElem h] at hb
  exact ⟨st[i], List.getElem_mem h, by simpa using hb⟩
theorem big_lt {c i : Nat} {st : List Stp} (h : i < st.length) (hb : big c st = false) : (st.getD i default).1 < c := by
  rcases Nat.lt_or_ge (st.getD i default).1 c with h1 | h1
  · exact h1
  · rw [big_get h h1] at hb; cases hb
theorem piv_lt {W R c i : Nat} {f0 f : Nat → Nat → It} {st : List Stp} (h : redS W R f0 c = some (f, st)) (hi : i < st.length) : (st.getD i default).1 < c := by
  rw [List.getD_eq_getElem?_getD, List.getElem?_eq_getElem hi]
  exact (redS_piv h).1 _ (List.getElem_mem hi)
theorem pivL_getD {st : List Stp} {i : Nat} (h : i < st.length) : (pivL st).getD i default = ((st.getD i default).1 : Int) := by
  unfold pivL
  rw [List.getD_eq_getElem?_getD, List.getD_eq_getElem?_getD, List.getElem?_map, List.getElem?_eq_getElem h]; rfl
theorem pivL_len (st : List Stp) : (pivL st).length = st.length := by simp [pivL]

theorem besL_len' (a b : Nat) (la lb : List It) (n : Nat) (ha : la.length = n * a) (hb : lb.length = n * b) : ∀ i, i ≤ n → (besL a b la lb i).length = i * (a + b)
  | 0, _ => by simp [besL]
  | i + 1, hi => by
    have k1 : i * a + a ≤ n * a := by rw [← Nat.succ_mul]; exact Nat.mul_le_mul_right _ hi
    have k2 : i * b + b ≤ n * b := by rw [← Nat.succ_mul]; exact Nat.mul_le_mul_right _ hi
    have := besL_len' a b la lb n ha hb i (by omega)
    simp only [besL, List.length_append, List.length_take, List.length_drop, Nat.succ_mul]
    omega
set_option maxHeartbeats 1000000 in
theorem specBeside_m (n a b : Nat) (r : Int) (la lb : List It) (hn : n ≤ 12) (ha : a ≤ 12) (hb : b ≤ 12) (hla : la.length = n * a) (hlb : lb.length = n * b) :
    Meets Try.prog 75 [(true, encMt ⟨n, a, la⟩), (true, encMt ⟨r, b, lb⟩)] [(true, encMt ⟨n, (a + b : Nat), besL a b la lb n⟩, true)] := by
  refine meets_upf Try.func75 u_spec_l14Beside_g rfl ?_; simp only [u_spec_l14Beside_u]
  simp (disch := first | omega | (simp only [List.length_take, List.length_drop, List.length_append, List.map_cons, List.map_nil, List.length_map, List.length_cons, List.length_nil, List.length_set, List.length_replicate]; omega) | (simp only [List.length_cons, List.length_nil, Nat.zero_add, Nat.reduceAdd])) only [go_sem, ↓reduceIte, Nat.reduceAdd, Int.reduceNeg, Int.reduceAdd, Int.reduceSub, Int.reduceMul, Int.reduceLT, Int.reduceLE, Int.reduceEq, Int.reduceToNat, Nat.reduceBEq, encMt, encIts]
  refine lp_n n (fun i => [.sc (.int .i64 (i : Nat)), .sl 41 3 ((besL a b la lb i).map encIt)]) rfl fun i hi => ?_
  have h1 : i * a ≤ 12 * 12 := Nat.mul_le_mul (by omega) (by omega)
  have h2 : i * b ≤ 12 * 12 := Nat.mul_le_mul (by omega) (by omega)
  have h3 := besL_len a b la lb i
  have h4 : i * (a + b) ≤ 12 * 24 := Nat.mul_le_mul (by omega) (by omega)
  have g1 : (i : Int) * a = ((i * a : Nat) : Int) := by simp
  have g2 : (i : Int) * b = ((i * b : Nat) : Int) := by simp
  simp only [u_spec_l14Beside_l0]
  simp (disch := first | omega | (simp only [List.length_take, List.length_drop, List.length_append, List.map_cons, List.map_nil, List.length_map, List.length_cons, List.length_nil, List.length_set, List.length_replicate]; omega) | (simp only [List.length_cons, List.length_nil, Nat.zero_add, Nat.reduceAdd])) only [go_sem, ↓reduceIte, Nat.reduceAdd, Int.reduceNeg, Int.reduceAdd, Int.reduceSub, Int.reduceMul, Int.reduceLT, Int.reduceLE, Int.reduceEq, Int.reduceToNat, Nat.reduceBEq, nat1, g1, g2, na]
  refine br_if (fun h => ?_) (fun h => ?_)
  · have hlt : i < n := by omega
    have k1 : i * a + a ≤ n * a := by rw [← Nat.succ_mul]; exact Nat.mul_le_mul_right _ hlt
    have k2 : i * b + b ≤ n * b := by rw [← Nat.succ_mul]; exact Nat.mul_le_mul_right _ hlt
    simp (disch := first | omega | (simp only [List.length_take, List.length_drop, List.length_append, List.map_cons, List.map_nil, List.length_map, List.length_cons, List.length_nil, List.length_set, List.length_replicate]; omega) | (simp only [List.length_cons, List.length_nil, Nat.zero_add, Nat.reduceAdd])) only [go_sem, ↓reduceIte, Nat.reduceAdd, Int.reduceNeg, Int.reduceAdd, Int.reduceSub, Int.reduceMul, Int.reduceLT, Int.reduceLE, Int.reduceEq, Int.reduceToNat, Nat.reduceBEq, nat1, g1, g2, na, fl_it]
    refine ⟨?_, hlt⟩
    simp [besL]
  · have : i = n := by omega
    subst this
    simp (disch := first | omega | (simp only [List.length_take, List.length_drop, List.length_append, List.map_cons, List.map_nil, List.length_map, List.length_cons, List.length_nil, List.length_set, List.length_replicate]; omega) | (simp only [List.length_cons, List.length_nil, Nat.zero_add, Nat.reduceAdd])) only [go_sem, ↓reduceIte, Nat.reduceAdd, Int.reduceNeg, Int.reduceAdd, Int.reduceSub, Int.reduceMul, Int.reduceLT, Int.reduceLE, Int.reduceEq, Int.reduceToNat, Nat.reduceBEq, true_and]
    rfl
theorem fl1_i {t : Nat} {a b : Int} {d : ByteArray} : eFlat (some (.sl t 3 [[.sc (.int .i64 a), .sc (.int .i64 b), .sc (.string d)]])) = some [] := rfl
def augR (n a b : Nat) (la lb : List It) : Option ((Nat → Nat → It) × List Stp) := redS (a + b) n (celF (a + b) (besL a b la lb n)) (a + b)
theorem implAug_m (n a b : Nat) (la lb : List It) (hn : n ≤ 12) (ha : a ≤ 12) (hb : b ≤ 12) (hla : la.length = n * a) (hlb : lb.length = n * b) :
    Meets Try.prog 68 [(true, encMt ⟨n, (a + b : Nat), besL a b la lb n⟩)] (resI (a + b) n (augR n a b la lb)) := by
  have hk := implRed_m n (a + b) (celF (a + b) (besL a b la lb n)) (by omega) (by omega)
  rw [← grid_of (besL_len' a b la lb n hla hlb n (Nat.le_refl _))] at hk
  exact hk
theorem specAug_m (n a b : Nat) (la lb : List It) (hn : n ≤ 12) (ha : a ≤ 12) (hb : b ≤ 12) (hla : la.length = n * a) (hlb : lb.length = n * b) :
    Meets Try.prog 66 [(true, encMt ⟨n, (a + b : Nat), besL a b la lb n⟩)] (resS (a + b) n (augR n a b la lb)) := by
  have hk := specRed_m n (a + b) (celF (a + b) (besL a b la lb n)) (by omega) (by omega)
  rw [← grid_of (besL_len' a b la lb n hla hlb n (Nat.le_refl _))] at hk
  exact hk

/-! ### SolveSystem -/
def solL (c : Nat) (f : Nat → Nat → It) (st : List Stp) : Nat → List It
  | 0 => List.replicate c (l2N 0)
  | i + 1 => (solL c f st i).set (st.getD i default).1 (f i c)
theorem solL_len (c : Nat) (f : Nat → Nat → It) (st : List Stp) : ∀ i, (solL c f st i).length = c
  | 0 => by simp [solL]
  | i + 1 => by simp [solL, solL_len c f st i]
def slvE (n c : Nat) (la lb : List It) : Option (List It) := match augR n c 1 la lb with
  | none => none
  | some x => if big c x.2 = true then none else some (solL c x.1 x.2 x.2.length)
def slv (a b : Mt) : Option (List It) := if mtB a = true ∧ mtB b = true ∧ a.rows = b.rows ∧ b.cols = 1 then slvE a.rows.toNat a.cols.toNat a.cells b.cells else none
def slvM (a b : Mt) : Mt := match slv a b with | none => ⟨0, 0, []⟩ | some l => ⟨a.cols, 1, l⟩
theorem slv_len {a b : Mt} {l : List It} (h : slv a b = some l) : mtB a = true ∧ (l.length : Int) = a.cols := by
  unfold slv at h
  split at h
  · rename_i h1
    obtain ⟨g1, g2, g3, g4, -⟩ := mtB_dims h1.1
    refine ⟨h1.1, ?_⟩
    unfold slvE at h
    split at h
    · cases h
    · split at h
      · cases h
      · injection h with h
        rw [← h, solL_len]; omega
  · cases h
theorem slvM_len (a b : Mt) : (slvM a b).cells.length ≤ 144 := by
  unfold slvM
  split
  · simp
  · rename_i l h
    obtain ⟨h1, h2⟩ := slv_len h
    obtain ⟨g1, g2, g3, g4, -⟩ := mtB_dims h1
    simp only; omega
end Go.Proofs.Ytmanijpmkeheeaa
