/- pivotColumns, ReduceRows, RankOf, DeterminantOf, of both packages. -/
import Derived.Test.YtolkglnkdfcceaaURedR
import Derived.Test.YtolkglnkdfcceaaRedS
namespace Go.Proofs.Ytolkglnkdfcceaa
open Go.RowKit
set_option linter.unusedVariables false
set_option linter.unusedSimpArgs false
set_option maxRecDepth 100000

def rdc (m : Mt) : Option ((Nat → Nat → It) × List Stp) := if mtB m = true then redS m.cols.toNat m.rows.toNat (celF m.cols.toNat m.cells) m.cols.toNat else none
def gM (m : Mt) (f : Nat → Nat → It) : Mt := ⟨m.rows, m.cols, gridL m.cols.toNat f (m.rows.toNat * m.cols.toNat)⟩
def rrM (m : Mt) : Mt := match rdc m with | none => ⟨0, 0, []⟩ | some x => gM m x.1
def rrP (m : Mt) : List Int := match rdc m with | none => [] | some x => pivL x.2
theorem rdc_f {m : Mt} (h : mtB m = false) : rdc m = none := by unfold rdc; rw [if_neg (by simp [h])]
theorem mt_cast {m : Mt} (h : mtB m = true) : m = ⟨(m.rows.toNat : Int), (m.cols.toNat : Int), gridL m.cols.toNat (celF m.cols.toNat m.cells) (m.rows.toNat * m.cols.toNat)⟩ := by
  obtain ⟨h1, h2, h3, h4, h5⟩ := mtB_dims h
  have hl : m.cells.length = m.rows.toNat * m.cols.toNat := by
    have e1 : ((m.rows.toNat : Nat) : Int) = m.rows := by omega
    have e2 : ((m.cols.toNat : Nat) : Int) = m.cols := by omega
    have : (m.cells.length : Int) = ((m.rows.toNat * m.cols.toNat : Nat) : Int) := by rw [h5, Int.natCast_mul, e1, e2]
    omega
  have e3 := (grid_of (W := m.cols.toNat) (R := m.rows.toNat) hl).symm
  obtain ⟨r, c, l⟩ := m
  simp only at *
  rw [e3]
  congr 1 <;> omega
theorem rdc_bd {m : Mt} {f : Nat → Nat → It} {st : List Stp} (h : rdc m = some (f, st)) : mtB m = true ∧ st.length ≤ m.cols.toNat ∧ st.length ≤ m.rows.toNat ∧ m.cols.toNat ≤ 12 ∧ m.rows.toNat ≤ 12 := by
  unfold rdc at h
  split at h
  · rename_i hm
    obtain ⟨h1, h2, h3, h4, -⟩ := mtB_dims hm
    obtain ⟨g1, g2⟩ := redS_len h
    exact ⟨hm, g1, g2, by omega, by omega⟩
  · cases h
theorem rrM_len (m : Mt) : (rrM m).cells.length ≤ 144 := by
  unfold rrM
  split
  · simp
  · rename_i x h
    obtain ⟨f, st⟩ := x
    obtain ⟨_, _, _, h3, h4⟩ := rdc_bd h
    simp only [gM, gridL_len]
    have : m.rows.toNat * m.cols.toNat ≤ 12 * 12 := Nat.mul_le_mul h4 h3
    omega
theorem rrP_len (m : Mt) : (rrP m).length ≤ 12 := by
  unfold rrP
  split
  · simp
  · rename_i x h
    obtain ⟨f, st⟩ := x
    obtain ⟨_, h2, _, h3, _⟩ := rdc_bd h
    simp only [pivL, List.length_map]; omega
def resI' (m : Mt) : Option ((Nat → Nat → It) × List Stp) → List Rs
  | none => [(true, encMt ⟨0, 0, []⟩, true), (false, [encSts []], true), (false, [.sc (.bool false)], true)]
  | some (f, st) => [(true, encMt (gM m f), true), (false, [encSts st], true), (false, [.sc (.bool true)], true)]
def resS' (m : Mt) : Option ((Nat → Nat → It) × List Stp) → List Rs
  | none => [(true, encMt ⟨0, 0, []⟩, true), (false, [encZs []], true), (false, [encIts []], true), (false, [.sc (.bool false)], true)]
  | some (f, st) => [(true, encMt (gM m f), true), (false, [encZs (pivL st)], true), (false, [encIts (facL st)], true), (false, [.sc (.bool true)], true)]
theorem implRed_mt {m : Mt} (h : mtB m = true) : Meets Try.prog 50 [(true, encMt m)] (resI' m (rdc m)) := by
  obtain ⟨h1, h2, h3, h4, -⟩ := mtB_dims h
  have hk := implRed_m m.rows.toNat m.cols.toNat (celF m.cols.toNat m.cells) (by omega) (by omega)
  rw [← mt_cast h] at hk
  have : rdc m = redS m.cols.toNat m.rows.toNat (celF m.cols.toNat m.cells) m.cols.toNat := by unfold rdc; rw [if_pos h]
  rw [← this] at hk
  have e1 : ((m.rows.toNat : Nat) : Int) = m.rows := by omega
  have e2 : ((m.cols.toNat : Nat) : Int) = m.cols := by omega
  cases hr : rdc m with
  | none => rw [hr] at hk; exact hk
  | some x => rw [hr] at hk; simp only [resI, e1, e2] at hk; exact hk
theorem specRed_mt {m : Mt} (h : mtB m = true) : Meets Try.prog 52 [(true, encMt m)] (resS' m (rdc m)) := by
  obtain ⟨h1, h2, h3, h4, -⟩ := mtB_dims h
  have hk := specRed_m m.rows.toNat m.cols.toNat (celF m.cols.toNat m.cells) (by omega) (by omega)
  rw [← mt_cast h] at hk
  have : rdc m = redS m.cols.toNat m.rows.toNat (celF m.cols.toNat m.cells) m.cols.toNat := by unfold rdc; rw [if_pos h]
  rw [← this] at hk
  have e1 : ((m.rows.toNat : Nat) : Int) = m.rows := by omega
  have e2 : ((m.cols.toNat : Nat) : Int) = m.cols := by omega
  cases hr : rdc m with
  | none => rw [hr] at hk; exact hk
  | some x => rw [hr] at hk; simp only [resS, e1, e2] at hk; exact hk

theorem pivCols_m (st : List Stp) (h : st.length ≤ 100) : Meets Try.prog 60 [(false, [encSts st])] [(false, [encZs (pivL st)], true)] := by
  refine meets_upf Try.func60 u_impl_pivotColumns_g rfl ?_; simp only [u_impl_pivotColumns_u]
  simp only [encSts, encZs]
  simp (disch := first | omega | (simp only [List.length_take, List.length_drop, List.length_append, List.map_cons, List.map_nil, List.length_map, List.length_cons, List.length_nil, List.length_set, List.length_replicate]; omega) | (simp only [List.length_cons, List.length_nil, Nat.zero_add, Nat.reduceAdd])) only [go_sem, ↓reduceIte, Nat.reduceAdd, Int.reduceNeg, Int.reduceAdd, Int.reduceSub, Int.reduceMul, Int.reduceLT, Int.reduceLE, Int.reduceEq, Int.reduceToNat, Nat.reduceBEq, true_and]
  refine lp_n st.length (fun i => [.sc (.int .i64 (i : Nat)), .sl 3 1 ((pivL (st.take i)).map encZ)]) rfl fun i hi => ?_
  simp only [u_impl_pivotColumns_l0]
  simp (disch := first | omega | (simp only [List.length_take, List.length_drop, List.length_append, List.map_cons, List.map_nil, List.length_map, List.length_cons, List.length_nil, List.length_set, List.length_replicate]; omega) | (simp only [List.length_cons, List.length_nil, Nat.zero_add, Nat.reduceAdd])) only [go_sem, ↓reduceIte, Nat.reduceAdd, Int.reduceNeg, Int.reduceAdd, Int.reduceSub, Int.reduceMul, Int.reduceLT, Int.reduceLE, Int.reduceEq, Int.reduceToNat, Nat.reduceBEq, true_and]
  refine br_if (fun h1 => ?_) (fun h1 => ?_)
  · have hlt : i < st.length := by omega
    have hpl : (pivL (st.take i)).length ≤ 100 := by simp [pivL]; omega
    simp (disch := first | omega | (simp only [List.length_take, List.length_drop, List.length_append, List.map_cons, List.map_nil, List.length_map, List.length_cons, List.length_nil, List.length_set, List.length_replicate]; omega) | (simp only [List.length_cons, List.length_nil, Nat.zero_add, Nat.reduceAdd])) only [go_sem, ↓reduceIte, Nat.reduceAdd, Int.reduceNeg, Int.reduceAdd, Int.reduceSub, Int.reduceMul, Int.reduceLT, Int.reduceLE, Int.reduceEq, Int.reduceToNat, Nat.reduceBEq, ix_st, encSt, fl1_z, nat1]
    refine ⟨?_, hlt⟩
    rw [List.take_succ_eq_append_getElem hlt, pivL_app, List.map_append, List.getD_eq_getElem?_getD, List.getElem?_eq_getElem hlt]; rfl
  · obtain rfl : i = st.length := by omega
    simp (disch := first | omega | (simp only [List.length_take, List.length_drop, List.length_append, List.map_cons, List.map_nil, List.length_map, List.length_cons, List.length_nil, List.length_set, List.length_replicate]; omega) | (simp only [List.length_cons, List.length_nil, Nat.zero_add, Nat.reduceAdd])) only [go_sem, ↓reduceIte, Nat.reduceAdd, Int.reduceNeg, Int.reduceAdd, Int.reduceSub, Int.reduceMul, Int.reduceLT, Int.reduceLE, Int.reduceEq, Int.reduceToNat, Nat.reduceBEq, List.take_length]
    rfl
theorem implRR_m (m : Mt) : Meets Try.prog 37 [(true, encMt m)] [(true, encMt (rrM m), true), (false, [encZs (rrP m)], true), (false, [.sc (.bool (rdc m).isSome)], true)] := by
  obtain ⟨r, c, l⟩ := m
  have hm := isMt_m ⟨r, c, l⟩
  have hr := fun h => @implRed_mt ⟨r, c, l⟩ h
  refine meets_upf Try.func37 u_impl_ReduceRows_g rfl ?_; simp only [u_impl_ReduceRows_u]
  simp only [encMt, encIts] at hm hr ⊢
  simp (disch := first | omega | (simp only [List.length_take, List.length_drop, List.length_append, List.map_cons, List.map_nil, List.length_map, List.length_cons, List.length_nil, List.length_set, List.length_replicate]; omega) | (simp only [List.length_cons, List.length_nil, Nat.zero_add, Nat.reduceAdd])) only [go_sem, ↓reduceIte, Nat.reduceAdd, Int.reduceNeg, Int.reduceAdd, Int.reduceSub, Int.reduceMul, Int.reduceLT, Int.reduceLE, Int.reduceEq, Int.reduceToNat, Nat.reduceBEq, true_and]
  refine cl_ok hm rfl ?_
  cases hB : mtB ⟨r, c, l⟩
  · have := rdc_f hB
    simp (disch := first | omega | (simp only [List.length_take, List.length_drop, List.length_append, List.map_cons, List.map_nil, List.length_map, List.length_cons, List.length_nil, List.length_set, List.length_replicate]; omega) | (simp only [List.length_cons, List.length_nil, Nat.zero_add, Nat.reduceAdd])) only [go_sem, ↓reduceIte, Nat.reduceAdd, Int.reduceNeg, Int.reduceAdd, Int.reduceSub, Int.reduceMul, Int.reduceLT, Int.reduceLE, Int.reduceEq, Int.reduceToNat, Nat.reduceBEq, true_and]
    unfold rrM rrP
    rw [this]; rfl
  have hr := hr hB
  unfold rrM rrP
  cases hd : rdc ⟨r, c, l⟩ with
  | none =>
    rw [hd] at hr
    simp only [resI', encMt, encIts] at hr
    simp (disch := first | omega | (simp only [List.length_take, List.length_drop, List.length_append, List.map_cons, List.map_nil, List.length_map, List.length_cons, List.length_nil, List.length_set, List.length_replicate]; omega) | (simp only [List.length_cons, List.length_nil, Nat.zero_add, Nat.reduceAdd])) only [go_sem, ↓reduceIte, Nat.reduceAdd, Int.reduceNeg, Int.reduceAdd, Int.reduceSub, Int.reduceMul, Int.reduceLT, Int.reduceLE, Int.reduceEq, Int.reduceToNat, Nat.reduceBEq, true_and]
    refine cl_ok hr rfl ?_
    simp (disch := first | omega | (simp only [List.length_take, List.length_drop, List.length_append, List.map_cons, List.map_nil, List.length_map, List.length_cons, List.length_nil, List.length_set, List.length_replicate]; omega) | (simp only [List.length_cons, List.length_nil, Nat.zero_add, Nat.reduceAdd])) only [go_sem, ↓reduceIte, Nat.reduceAdd, Int.reduceNeg, Int.reduceAdd, Int.reduceSub, Int.reduceMul, Int.reduceLT, Int.reduceLE, Int.reduceEq, Int.reduceToNat, Nat.reduceBEq, true_and]
    rfl
  | some x =>
    obtain ⟨f, st⟩ := x
    obtain ⟨_, b1, b2, b3, b4⟩ := rdc_bd hd
    rw [hd] at hr
    simp only [resI', encMt, encIts] at hr
    have hp := pivCols_m st (by omega)
    simp only [encSts, encZs] at hp hr
    simp (disch := first | omega | (simp only [List.length_take, List.length_drop, List.length_append, List.map_cons, List.map_nil, List.length_map, List.length_cons, List.length_nil, List.length_set, List.length_replicate]; omega) | (simp only [List.length_cons, List.length_nil, Nat.zero_add, Nat.reduceAdd])) only [go_sem, ↓reduceIte, Nat.reduceAdd, Int.reduceNeg, Int.reduceAdd, Int.reduceSub, Int.reduceMul, Int.reduceLT, Int.reduceLE, Int.reduceEq, Int.reduceToNat, Nat.reduceBEq, true_and]
    refine cl_ok hr rfl ?_
    simp (disch := first | omega | (simp only [List.length_take, List.length_drop, List.length_append, List.map_cons, List.map_nil, List.length_map, List.length_cons, List.length_nil, List.length_set, List.length_replicate]; omega) | (simp only [List.length_cons, List.length_nil, Nat.zero_add, Nat.reduceAdd])) only [go_sem, ↓reduceIte, Nat.reduceAdd, Int.reduceNeg, Int.reduceAdd, Int.reduceSub, Int.reduceMul, Int.reduceLT, Int.reduceLE, Int.reduceEq, Int.reduceToNat, Nat.reduceBEq, true_and]
    refine cl_ok hp rfl ?_
    simp (disch := first | omega | (simp only [List.length_take, List.length_drop, List.length_append, List.map_cons, List.map_nil, List.length_map, List.length_cons, List.length_nil, List.length_set, List.length_replicate]; omega) | (simp only [List.length_cons, List.length_nil, Nat.zero_add, Nat.reduceAdd])) only [go_sem, ↓reduceIte, Nat.reduceAdd, Int.reduceNeg, Int.reduceAdd, Int.reduceSub, Int.reduceMul, Int.reduceLT, Int.reduceLE, Int.reduceEq, Int.reduceToNat, Nat.reduceBEq, true_and]
    rfl
theorem specRR_m (m : Mt) : Meets Try.prog 57 [(true, encMt m)] [(true, encMt (rrM m), true), (false, [encZs (rrP m)], true), (false, [.sc (.bool (rdc m).isSome)], true)] := by
  obtain ⟨r, c, l⟩ := m
  have hm := specIsMt_m ⟨r, c, l⟩
  have hr := fun h => @specRed_mt ⟨r, c, l⟩ h
  refine meets_upf Try.func57 u_spec_ReduceRows_g rfl ?_; simp only [u_spec_ReduceRows_u]
  simp only [encMt, encIts] at hm hr ⊢
  simp (disch := first | omega | (simp only [List.length_take, List.length_drop, List.length_append, List.map_cons, List.map_nil, List.length_map, List.length_cons, List.length_nil, List.length_set, List.length_replicate]; omega) | (simp only [List.length_cons, List.length_nil, Nat.zero_add, Nat.reduceAdd])) only [go_sem, ↓reduceIte, Nat.reduceAdd, Int.reduceNeg, Int.reduceAdd, Int.reduceSub, Int.reduceMul, Int.reduceLT, Int.reduceLE, Int.reduceEq, Int.reduceToNat, Nat.reduceBEq, true_and]
  refine cl_ok hm rfl ?_
  cases hB : mtB ⟨r, c, l⟩
  · have := rdc_f hB
    simp (disch := first | omega | (simp only [List.length_take, List.length_drop, List.length_append, List.map_cons, List.map_nil, List.length_map, List.length_cons, List.length_nil, List.length_set, List.length_replicate]; omega) | (simp only [List.length_cons, List.length_nil, Nat.zero_add, Nat.reduceAdd])) only [go_sem, ↓reduceIte, Nat.reduceAdd, Int.reduceNeg, Int.reduceAdd, Int.reduceSub, Int.reduceMul, Int.reduceLT, Int.reduceLE, Int.reduceEq, Int.reduceToNat, Nat.reduceBEq, true_and]
    unfold rrM rrP
    rw [this]; rfl
  have hr := hr hB
  unfold rrM rrP
  cases hd : rdc ⟨r, c, l⟩ with
  | none =>
    rw [hd] at hr
    simp only [resS', encMt, encIts] at hr
    simp (disch := first | omega | (simp only [List.length_take, List.length_drop, List.length_append, List.map_cons, List.map_nil, List.length_map, List.length_cons, List.length_nil, List.length_set, List.length_replicate]; omega) | (simp only [List.length_cons, List.length_nil, Nat.zero_add, Nat.reduceAdd])) only [go_sem, ↓reduceIte, Nat.reduceAdd, Int.reduceNeg, Int.reduceAdd, Int.reduceSub, Int.reduceMul, Int.reduceLT, Int.reduceLE, Int.reduceEq, Int.reduceToNat, Nat.reduceBEq, true_and]
    refine cl_ok hr rfl ?_
    simp (disch := first | omega | (simp only [List.length_take, List.length_drop, List.length_append, List.map_cons, List.map_nil, List.length_map, List.length_cons, List.length_nil, List.length_set, List.length_replicate]; omega) | (simp only [List.length_cons, List.length_nil, Nat.zero_add, Nat.reduceAdd])) only [go_sem, ↓reduceIte, Nat.reduceAdd, Int.reduceNeg, Int.reduceAdd, Int.reduceSub, Int.reduceMul, Int.reduceLT, Int.reduceLE, Int.reduceEq, Int.reduceToNat, Nat.reduceBEq, true_and]
    rfl
  | some x =>
    obtain ⟨f, st⟩ := x
    rw [hd] at hr
    simp only [resS', encMt, encIts] at hr
    simp (disch := first | omega | (simp only [List.length_take, List.length_drop, List.length_append, List.map_cons, List.map_nil, List.length_map, List.length_cons, List.length_nil, List.length_set, List.length_replicate]; omega) | (simp only [List.length_cons, List.length_nil, Nat.zero_add, Nat.reduceAdd])) only [go_sem, ↓reduceIte, Nat.reduceAdd, Int.reduceNeg, Int.reduceAdd, Int.reduceSub, Int.reduceMul, Int.reduceLT, Int.reduceLE, Int.reduceEq, Int.reduceToNat, Nat.reduceBEq, true_and]
    refine cl_ok hr rfl ?_
    simp (disch := first | omega | (simp only [List.length_take, List.length_drop, List.length_append, List.map_cons, List.map_nil, List.length_map, List.length_cons, List.length_nil, List.length_set, List.length_replicate]; omega) | (simp only [List.length_cons, List.length_nil, Nat.zero_add, Nat.reduceAdd])) only [go_sem, ↓reduceIte, Nat.reduceAdd, Int.reduceNeg, Int.reduceAdd, Int.reduceSub, Int.reduceMul, Int.reduceLT, Int.reduceLE, Int.reduceEq, Int.reduceToNat, Nat.reduceBEq, true_and]
    rfl
theorem implRank_m (m : Mt) : Meets Try.prog 13 [(true, encMt m)] [(false, [.sc (.int .i64 ((rrP m).length : Nat))], true), (false, [.sc (.bool (rdc m).isSome)], true)] := by
  obtain ⟨r, c, l⟩ := m
  have hm := implRR_m ⟨r, c, l⟩
  generalize rrM ⟨r, c, l⟩ = M at *
  generalize rrP ⟨r, c, l⟩ = p at *
  generalize (rdc ⟨r, c, l⟩).isSome = b at *
  refine meets_upf Try.func13 u_impl_RankOf_g rfl ?_; simp only [u_impl_RankOf_u]
  simp only [encMt, encIts, encZs] at hm ⊢
  simp (disch := first | omega | (simp only [List.length_take, List.length_drop, List.length_append, List.map_cons, List.map_nil, List.length_map, List.length_cons, List.length_nil, List.length_set, List.length_replicate]; omega) | (simp only [List.length_cons, List.length_nil, Nat.zero_add, Nat.reduceAdd])) only [go_sem, ↓reduceIte, Nat.reduceAdd, Int.reduceNeg, Int.reduceAdd, Int.reduceSub, Int.reduceMul, Int.reduceLT, Int.reduceLE, Int.reduceEq, Int.reduceToNat, Nat.reduceBEq, true_and]
  refine cl_ok hm rfl ?_
  simp (disch := first | omega | (simp only [List.length_take, List.length_drop, List.length_append, List.map_cons, List.map_nil, List.length_map, List.length_cons, List.length_nil, List.length_set, List.length_replicate]; omega) | (simp only [List.length_cons, List.length_nil, Nat.zero_add, Nat.reduceAdd])) only [go_sem, ↓reduceIte, Nat.reduceAdd, Int.reduceNeg, Int.reduceAdd, Int.reduceSub, Int.reduceMul, Int.reduceLT, Int.reduceLE, Int.reduceEq, Int.reduceToNat, Nat.reduceBEq, true_and]
  rfl
theorem specRank_m (m : Mt) : Meets Try.prog 27 [(true, encMt m)] [(false, [.sc (.int .i64 ((rrP m).length : Nat))], true), (false, [.sc (.bool (rdc m).isSome)], true)] := by
  obtain ⟨r, c, l⟩ := m
  have hm := specRR_m ⟨r, c, l⟩
  generalize rrM ⟨r, c, l⟩ = M at *
  generalize rrP ⟨r, c, l⟩ = p at *
  generalize (rdc ⟨r, c, l⟩).isSome = b at *
  refine meets_upf Try.func27 u_spec_RankOf_g rfl ?_; simp only [u_spec_RankOf_u]
  simp only [encMt, encIts, encZs] at hm ⊢
  simp (disch := first | omega | (simp only [List.length_take, List.length_drop, List.length_append, List.map_cons, List.map_nil, List.length_map, List.length_cons, List.length_nil, List.length_set, List.length_replicate]; omega) | (simp only [List.length_cons, List.length_nil, Nat.zero_add, Nat.reduceAdd])) only [go_sem, ↓reduceIte, Nat.reduceAdd, Int.reduceNeg, Int.reduceAdd, Int.reduceSub, Int.reduceMul, Int.reduceLT, Int.reduceLE, Int.reduceEq, Int.reduceToNat, Nat.reduceBEq, true_and]
  refine cl_ok hm rfl ?_
  simp (disch := first | omega | (simp only [List.length_take, List.length_drop, List.length_append, List.map_cons, List.map_nil, List.length_map, List.length_cons, List.length_nil, List.length_set, List.length_replicate]; omega) | (simp only [List.length_cons, List.length_nil, Nat.zero_add, Nat.reduceAdd])) only [go_sem, ↓reduceIte, Nat.reduceAdd, Int.reduceNeg, Int.reduceAdd, Int.reduceSub, Int.reduceMul, Int.reduceLT, Int.reduceLE, Int.reduceEq, Int.reduceToNat, Nat.reduceBEq, true_and]
  rfl

end Go.Proofs.Ytolkglnkdfcceaa
