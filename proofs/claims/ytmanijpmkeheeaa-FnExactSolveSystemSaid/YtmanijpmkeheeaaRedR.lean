/- pivotColumns, ReduceRows, RankOf, DeterminantOf, of both packages. -/
import Derived.Test.YtmanijpmkeheeaaURedR
import Derived.Test.YtmanijpmkeheeaaRedS
namespace Go.Proofs.Ytmanijpmkeheeaa
open Go.RowKit
set_option linter.unusedVariables false
set_option linter.unusedSimpArgs false
set_option maxRecDepth 100000

def rdc (m : Mt) : Option ((Nat → Nat → It) × List Stp) := if mtB m = true then redS m.cols.toNat m.rows.toNat (celF m.cols.toNat m.cells) m.cols.toNat else none
def gM (m : Mt) (f : Nat → Nat → It) : Mt := ⟨m.rows, m.cols, gridL m.cols.toNat f (m.rows.toNat * m.cols.toNat)⟩
def rrM (m : Mt) : Mt := match rdc m with | none => ⟨0, 0, []⟩ | some x => gM m x.1
def rrP (m : Mt) : List Int := match rdc m with | none => [] | some x => pivL x.2
theorem rdc_f {m : Mt} (h : mtB m = false) : rdc m = none := by unfold rdc; rw [if_neg (by simp [h])]
theorem mt_cast {m : Mt} (h : mtB m = true) : m = ⟨(m.rows.toNat : Int), (m.cols.toNat : Int), gridL m.cols.toNat (celF m.cols.toNat m.cells) (m.rows.toNat * m.cols.toNat)⟩ := by
  obtain ⟨h1, h2, h3, h4, h5⟩ := mtB_dims h
  have hl : m.cells.length = m.rows.toNat * m.cols.toNat := by
    have e1 : ((m.rows.toNat : Nat) : Int) = m.rows := by omega
    have e2 : ((m.cols.toNat : Nat) : Int) = m.cols := by omega
    have : (m.cells.length : Int) = ((m.rows.toNat * m.cols.toNat : Nat) : Int) := by rw [h5, Int.natCast_mul, e1, e2]
    omega
  have e3 := (grid_of (W := m.cols.toNat) (R := m.rows.toNat) hl).symm
  obtain ⟨r, c, l⟩ := m
  simp only at *
  rw [e3]
  congr 1 <;> omega
theorem rdc_bd {m : Mt} {f : Nat → Nat → It} {st : List Stp} (h : rdc m = some (f, st)) : mtB m = true ∧ st.length ≤ m.cols.toNat ∧ st.length ≤ m.rows.toNat ∧ m.cols.toNat ≤ 12 ∧ m.rows.toNat ≤ 12 := by
  unfold rdc at h
  split at h
  · rename_i hm
    obtain ⟨h1, h2, h3, h4, -⟩ := mtB_dims hm
    obtain ⟨g1, g2⟩ := redS_len h
    exact ⟨hm, g1, g2, by omega, by omega⟩
  · cases h
theorem rrM_len (m : Mt) : (rrM m).cells.length ≤ 144 := by
  unfold rrM
  split
  · simp
  · rename_i x h
    obtain ⟨f, st⟩ := x
    obtain ⟨_, _, _, h3, h4⟩ := rdc_bd h
    simp only [gM, gridL_len]
    have : m.rows.toNat * m.cols.toNat ≤ 12 * 12 := Nat.mul_le_mul h4 h3
    omega
theorem rrP_len (m : Mt) : (rrP m).length ≤ 12 := by
  unfold rrP
  split
  · simp
  · rename_i x h
    obtain ⟨f, st⟩ := x
    obtain ⟨_, h2, _, h3, _⟩ := rdc_bd h
    simp only [pivL, List.length_map]; omega
def resI' (m : Mt) : Option ((Nat → Nat → It) × List Stp) → List Rs
  | none => [(true, encMt ⟨0, 0, []⟩, true), (false, [encSts []], true), (false, [.sc (.bool false)], true)]
  | some (f, st) => [(true, encMt (gM m f), true), (false, [encSts st], true), (false, [.sc (.bool true)], true)]
def resS' (m : Mt) : Option ((Nat → Nat → It) × List Stp) → List Rs
  | none => [(true, encMt ⟨0, 0, []⟩, true), (false, [encZs []], true), (false, [encIts []], true), (false, [.sc (.bool false)], true)]
  | some (f, st) => [(true, encMt (gM m f), true), (false, [encZs (pivL st)], true), (false, [encIts (facL st)], true), (false, [.sc (.bool true)], true)]
theorem implRed_mt {m : Mt} (h : mtB m = true) : Meets Try.prog 68 [(true, encMt m)] (resI' m (rdc m)) := by
  obtain ⟨h1, h2, h3, h4, -⟩ := mtB_dims h
  have hk := implRed_m m.rows.toNat m.cols.toNat (celF m.cols.toNat m.cells) (by omega) (by omega)
  rw [← mt_cast h] at hk
  have : rdc m = redS m.cols.toNat m.rows.toNat (celF m.cols.toNat m.cells) m.cols.toNat := by unfold rdc; rw [if_pos h]
  rw [← this] at hk
  have e1 : ((m.rows.toNat : Nat) : Int) = m.rows := by omega
  have e2 : ((m.cols.toNat : Nat) : Int) = m.cols := by omega
  cases hr : rdc m with
  | none => rw [hr] at hk; exact hk
  | some x => rw [hr] at hk; simp only [resI, e1, e2] at hk; exact hk
theorem specRed_mt {m : Mt} (h : mtB m = true) : Meets Try.prog 66 [(true, encMt m)] (resS' m (rdc m)) := by
  obtain ⟨h1, h2, h3, h4, -⟩ := mtB_dims h
  have hk := specRed_m m.rows.toNat m.cols.toNat (celF m.cols.toNat m.cells) (by omega) (by omega)
  rw [← mt_cast h] at hk
  have : rdc m = redS m.cols.toNat m.rows.toNat (celF m.cols.toNat m.cells) m.cols.toNat := by unfold rdc; rw [if_pos h]
  rw [← this] at hk
  have e1 : ((m.rows.toNat : Nat) : Int) = m.rows := by omega
  have e2 : ((m.cols.toNat : Nat) : Int) = m.cols := by omega
  cases hr : rdc m with
  | none => rw [hr] at hk; exact hk
  | some x => rw [hr] at hk; simp only [resS, e1, e2] at hk; exact hk

theorem ix_st {t : Nat} {l : List Stp} {kd : IntKind} {z : Int} (h : 0 ≤ z) (h1 : z < l.length) : eIdx 5 (some (.sl t 5 (l.map encSt))) (some (.sc (.int kd z))) = some (encSt (l.getD z.toNat default)) := e_idx_map (fun _ => rfl) h h1
theorem pivCols_m (st : List Stp) (h : st.length ≤ 100) : Meets Try.prog 69 [(false, [encSts st])] [(false, [encZs (pivL st)], true)] := by
  refine meets_upf Try.func69 u_impl_pivotColumns_g rfl ?_; simp only [u_impl_pivotColumns_u]
  simp only [encSts, encZs]
  simp (disch := first | omega | (simp only [List.length_take, List.length_drop, List.length_append, List.map_cons, List.map_nil, List.length_map, List.length_cons, List.length_nil, List.length_set, List.length_replicate]; omega) | (simp only [List.length_cons, List.length_nil, Nat.zero_add, Nat.reduceAdd])) only [go_sem, ↓reduceIte, Nat.reduceAdd, Int.reduceNeg, Int.reduceAdd, Int.reduceSub, Int.reduceMul, Int.reduceLT, Int.reduceLE, Int.reduceEq, Int.reduceToNat, Nat.reduceBEq, true_and]
  refine lp_n st.length (fun i => [.sc (.int .i64 (i : Nat)), .sl 3 1 ((pivL (st.take i)).map encZ)]) rfl fun i hi => ?_
  simp only [u_impl_pivotColumns_l0]
  simp (disch := first | omega | (simp only [List.length_take, List.length_drop, List.length_append, List.map_cons, List.map_nil, List.length_map, List.length_cons, List.length_nil, List.length_set, List.length_replicate]; omega) | (simp only [List.length_cons, List.length_nil, Nat.zero_add, Nat.reduceAdd])) only [go_sem, ↓reduceIte, Nat.reduceAdd, Int.reduceNeg, Int.reduceAdd, Int.reduceSub, Int.reduceMul, Int.reduceLT, Int.reduceLE, Int.reduceEq, Int.reduceToNat, Nat.reduceBEq, true_and]
  refine br_if (fun h1 => ?_) (fun h1 => ?_)
  · have hlt : i < st.length := by omega
    have hpl : (pivL (st.take i)).length ≤ 100 := by simp [pivL]; omega
    simp (disch := first | omega | (simp only [List.length_take, List.length_drop, List.length_append, List.map_cons, List.map_nil, List.length_map, List.length_cons, List.length_nil, List.length_set, List.length_replicate]; omega) | (simp only [List.length_cons, List.length_nil, Nat.zero_add, Nat.reduceAdd])) only [go_sem, ↓reduceIte, Nat.reduceAdd, Int.reduceNeg, Int.reduceAdd, Int.reduceSub, Int.reduceMul, Int.reduceLT, Int.reduceLE, Int.reduceEq, Int.reduceToNat, Nat.reduceBEq, ix_st, encSt, fl1_z, nat1]
    refine ⟨?_, hlt⟩
    rw [List.take_succ_eq_append_getElem hlt, pivL_app, List.map_append, List.getD_eq_getElem?_getD, List.getElem?_eq_getElem hlt]; rfl
  · obtain rfl : i = st.length := by omega
    simp (disch := first | omega | (simp only [List.length_take, List.length_drop, List.length_append, List.map_cons, List.map_nil, List.length_map, List.length_cons, List.length_nil, List.length_set, List.length_replicate]; omega) | (simp only [List.length_cons, List.length_nil, Nat.zero_add, Nat.reduceAdd])) only [go_sem, ↓reduceIte, Nat.reduceAdd, Int.reduceNeg, Int.reduceAdd, Int.reduceSub, Int.reduceMul, Int.reduceLT, Int.reduceLE, Int.reduceEq, Int.reduceToNat, Nat.reduceBEq, List.take_length]
    rfl
theorem implRR_m (m : Mt) : Meets Try.prog 18 [(true, encMt m)] [(true, encMt (rrM m), true), (false, [encZs (rrP m)], true), (false, [.sc (.bool (rdc m).isSome)], true)] := by
  obtain ⟨r, c, l⟩ := m
  have hm := isMt_m ⟨r, c, l⟩
  have hr := fun h => @implRed_mt ⟨r, c, l⟩ h
  refine meets_upf Try.func18 u_impl_ReduceRows_g rfl ?_; simp only [u_impl_ReduceRows_u]
  simp only [encMt, encIts] at hm hr ⊢
  simp (disch := first | omega | (simp only [List.length_take, List.length_drop, List.length_append, List.map_cons, List.map_nil, List.length_map, List.length_cons, List.length_nil, List.length_set, List.length_replicate]; omega) | (simp only [List.length_cons, List.length_nil, Nat.zero_add, Nat.reduceAdd])) only [go_sem, ↓reduceIte, Nat.reduceAdd, Int.reduceNeg, Int.reduceAdd, Int.reduceSub, Int.reduceMul, Int.reduceLT, Int.reduceLE, Int.reduceEq, Int.reduceToNat, Nat.reduceBEq, true_and]
  refine cl_ok hm rfl ?_
  cases hB : mtB ⟨r, c, l⟩
  · have := rdc_f hB
    simp (disch := first | omega | (simp only [List.length_take, List.length_drop, List.length_append, List.map_cons, List.map_nil, List.length_map, List.length_cons, List.length_nil, List.length_set, List.length_replicate]; omega) | (simp only [List.length_cons, List.length_nil, Nat.zero_add, Nat.reduceAdd])) only [go_sem, ↓reduceIte, Nat.reduceAdd, Int.reduceNeg, Int.reduceAdd, Int.reduceSub, Int.reduceMul, Int.reduceLT, Int.reduceLE, Int.reduceEq, Int.reduceToNat, Nat.reduceBEq, true_and]
    unfold rrM rrP
    rw [this]; rfl
  have hr := hr hB
  unfold rrM rrP
  cases hd : rdc ⟨r, c, l⟩ with
  | none =>
    rw [hd] at hr
    simp only [resI', encMt, encIts] at hr
    simp (disch := first | omega | (simp only [List.length_take, List.length_drop, List.length_append, List.map_cons, List.map_nil, List.length_map, List.length_cons, List.length_nil, List.length_set, List.length_replicate]; omega) | (simp only [List.length_cons, List.length_nil, Nat.zero_add, Nat.reduceAdd])) only [go_sem, ↓reduceIte, Nat.reduceAdd, Int.reduceNeg, Int.reduceAdd, Int.reduceSub, Int.reduceMul, Int.reduceLT, Int.reduceLE, Int.reduceEq, Int.reduceToNat, Nat.reduceBEq, true_and]
    refine cl_ok hr rfl ?_
    simp (disch := first | omega | (simp only [List.length_take, List.length_drop, List.length_append, List.map_cons, List.map_nil, List.length_map, List.length_cons, List.length_nil, List.length_set, List.length_replicate]; omega) | (simp only [List.length_cons, List.length_nil, Nat.zero_add, Nat.reduceAdd])) only [go_sem, ↓reduceIte, Nat.reduceAdd, Int.reduceNeg, Int.reduceAdd, Int.reduceSub, Int.reduceMul, Int.reduceLT, Int.reduceLE, Int.reduceEq, Int.reduceToNat, Nat.reduceBEq, true_and]
    rfl
  | some x =>
    obtain ⟨f, st⟩ := x
    obtain ⟨_, b1, b2, b3, b4⟩ := rdc_bd hd
    rw [hd] at hr
    simp only [resI', encMt, encIts] at hr
    have hp := pivCols_m st (by omega)
    simp only [encSts, encZs] at hp hr
    simp (disch := first | omega | (simp only [List.length_take, List.length_drop, List.length_append, List.map_cons, List.map_nil, List.length_map, List.length_cons, List.length_nil, List.length_set, List.length_replicate]; omega) | (simp only [List.length_cons, List.length_nil, Nat.zero_add, Nat.reduceAdd])) only [go_sem, ↓reduceIte, Nat.reduceAdd, Int.reduceNeg, Int.reduceAdd, Int.reduceSub, Int.reduceMul, Int.reduceLT, Int.reduceLE, Int.reduceEq, Int.reduceToNat, Nat.reduceBEq, true_and]
    refine cl_ok hr rfl ?_
    simp (disch := first | omega | (simp only [List.length_take, List.length_drop, List.length_append, List.map_cons, List.map_nil, List.length_map, List.length_cons, List.length_nil, List.length_set, List.length_replicate]; omega) | (simp only [List.length_cons, List.length_nil, Nat.zero_add, Nat.reduceAdd])) only [go_sem, ↓reduceIte, Nat.reduceAdd, Int.reduceNeg, Int.reduceAdd, Int.reduceSub, Int.reduceMul, Int.reduceLT, Int.reduceLE, Int.reduceEq, Int.reduceToNat, Nat.reduceBEq, true_and]
    refine cl_ok hp rfl ?_
    simp (disch := first | omega | (simp only [List.length_take, List.length_drop, List.length_append, List.map_cons, List.map_nil, List.length_map, List.length_cons, List.length_nil, List.length_set, List.length_replicate]; omega) | (simp only [List.length_cons, List.length_nil, Nat.zero_add, Nat.reduceAdd])) only [go_sem, ↓reduceIte, Nat.reduceAdd, Int.reduceNeg, Int.reduceAdd, Int.reduceSub, Int.reduceMul, Int.reduceLT, Int.reduceLE, Int.reduceEq, Int.reduceToNat, Nat.reduceBEq, true_and]
    rfl
theorem specRR_m (m : Mt) : Meets Try.prog 16 [(true, encMt m)] [(true, encMt (rrM m), true), (false, [encZs (rrP m)], true), (false, [.sc (.bool (rdc m).isSome)], true)] := by
  obtain ⟨r, c, l⟩ := m
  have hm := specIsMt_m ⟨r, c, l⟩
  have hr := fun h => @specRed_mt ⟨r, c, l⟩ h
  refine meets_upf Try.func16 u_spec_ReduceRows_g rfl ?_; simp only [u_spec_ReduceRows_u]
  simp only [encMt, encIts] at hm hr ⊢
  simp (disch := first | omega | (simp only [List.length_take, List.length_drop, List.length_append, List.map_cons, List.map_nil, List.length_map, List.length_cons, List.length_nil, List.length_set, List.length_replicate]; omega) | (simp only [List.length_cons, List.length_nil, Nat.zero_add, Nat.reduceAdd])) only [go_sem, ↓reduceIte, Nat.reduceAdd, Int.reduceNeg, Int.reduceAdd, Int.reduceSub, Int.reduceMul, Int.reduceLT, Int.reduceLE, Int.reduceEq, Int.reduceToNat, Nat.reduceBEq, true_and]
  refine cl_ok hm rfl ?_
  cases hB : mtB ⟨r, c, l⟩
  · have := rdc_f hB
    simp (disch := first | omega | (simp only [List.length_take, List.length_drop, List.length_append, List.map_cons, List.map_nil, List.length_map, List.length_cons, List.length_nil, List.length_set, List.length_replicate]; omega) | (simp only [List.length_cons, List.length_nil, Nat.zero_add, Nat.reduceAdd])) only [go_sem, ↓reduceIte, Nat.reduceAdd, Int.reduceNeg, Int.reduceAdd, Int.reduceSub, Int.reduceMul, Int.reduceLT, Int.reduceLE, Int.reduceEq, Int.reduceToNat, Nat.reduceBEq, true_and]
    unfold rrM rrP
    rw [this]; rfl
  have hr := hr hB
  unfold rrM rrP
  cases hd : rdc ⟨r, c, l⟩ with
  | none =>
    rw [hd] at hr
    simp only [resS', encMt, encIts] at hr
    simp (disch := first | omega | (simp only [List.length_take, List.length_drop, List.length_append, List.map_cons, List.map_nil, List.length_map, List.length_cons, List.length_nil, List.length_set, List.length_replicate]; omega) | (simp only [List.length_cons, List.length_nil, Nat.zero_add, Nat.reduceAdd])) only [go_sem, ↓reduceIte, Nat.reduceAdd, Int.reduceNeg, Int.reduceAdd, Int.reduceSub, Int.reduceMul, Int.reduceLT, Int.reduceLE, Int.reduceEq, Int.reduceToNat, Nat.reduceBEq, true_and]
    refine cl_ok hr rfl ?_
    simp (disch := first | omega | (simp only [List.length_take, List.length_drop, List.length_append, List.map_cons, List.map_nil, List.length_map, List.length_cons, List.length_nil, List.length_set, List.length_replicate]; omega) | (simp only [List.length_cons, List.length_nil, Nat.zero_add, Nat.reduceAdd])) only [go_sem, ↓reduceIte, Nat.reduceAdd, Int.reduceNeg, Int.reduceAdd, Int.reduceSub, Int.reduceMul, Int.reduceLT, Int.reduceLE, Int.reduceEq, Int.reduceToNat, Nat.reduceBEq, true_and]
    rfl
  | some x =>
    obtain ⟨f, st⟩ := x
    rw [hd] at hr
    simp only [resS', encMt, encIts] at hr
    simp (disch := first | omega | (simp only [List.length_take, List.length_drop, List.length_append, List.map_cons, List.map_nil, List.length_map, List.length_cons, List.length_nil, List.length_set, List.length_replicate]; omega) | (simp only [List.length_cons, List.length_nil, Nat.zero_add, Nat.reduceAdd])) only [go_sem, ↓reduceIte, Nat.reduceAdd, Int.reduceNeg, Int.reduceAdd, Int.reduceSub, Int.reduceMul, Int.reduceLT, Int.reduceLE, Int.reduceEq, Int.reduceToNat, Nat.reduceBEq, true_and]
    refine cl_ok hr rfl ?_
    simp (disch := first | omega | (simp only [List.length_take, List.length_drop, List.length_append, List.map_cons, List.map_nil, List.length_map, List.length_cons, List.length_nil, List.length_set, List.length_replicate]; omega) | (simp only [List.length_cons, List.length_nil, Nat.zero_add, Nat.reduceAdd])) only [go_sem, ↓reduceIte, Nat.reduceAdd, Int.reduceNeg, Int.reduceAdd, Int.reduceSub, Int.reduceMul, Int.reduceLT, Int.reduceLE, Int.reduceEq, Int.reduceToNat, Nat.reduceBEq, true_and]
    rfl
theorem implRank_m (m : Mt) : Meets Try.prog 26 [(true, encMt m)] [(false, [.sc (.int .i64 ((rrP m).length : Nat))], true), (false, [.sc (.bool (rdc m).isSome)], true)] := by
  obtain ⟨r, c, l⟩ := m
  have hm := implRR_m ⟨r, c, l⟩
  generalize rrM ⟨r, c, l⟩ = M at *
  generalize rrP ⟨r, c, l⟩ = p at *
  generalize (rdc ⟨r, c, l⟩).isSome = b at *
  refine meets_upf Try.func26 u_impl_RankOf_g rfl ?_; simp only [u_impl_RankOf_u]
  simp only [encMt, encIts, encZs] at hm ⊢
  simp (disch := first | omega | (simp only [List.length_take, List.length_drop, List.length_append, List.map_cons, List.map_nil, List.length_map, List.length_cons, List.length_nil, List.length_set, List.length_replicate]; omega) | (simp only [List.length_cons, List.length_nil, Nat.zero_add, Nat.reduceAdd])) only [go_sem, ↓reduceIte, Nat.reduceAdd, Int.reduceNeg, Int.reduceAdd, Int.reduceSub, Int.reduceMul, Int.reduceLT, Int.reduceLE, Int.reduceEq, Int.reduceToNat, Nat.reduceBEq, true_and]
  refine cl_ok hm rfl ?_
  simp (disch := first | omega | (simp only [List.length_take, List.length_drop, List.length_append, List.map_cons, List.map_nil, List.length_map, List.length_cons, List.length_nil, List.length_set, List.length_replicate]; omega) | (simp only [List.length_cons, List.length_nil, Nat.zero_add, Nat.reduceAdd])) only [go_sem, ↓reduceIte, Nat.reduceAdd, Int.reduceNeg, Int.reduceAdd, Int.reduceSub, Int.reduceMul, Int.reduceLT, Int.reduceLE, Int.reduceEq, Int.reduceToNat, Nat.reduceBEq, true_and]
  rfl
theorem specRank_m (m : Mt) : Meets Try.prog 25 [(true, encMt m)] [(false, [.sc (.int .i64 ((rrP m).length : Nat))], true), (false, [.sc (.bool (rdc m).isSome)], true)] := by
  obtain ⟨r, c, l⟩ := m
  have hm := specRR_m ⟨r, c, l⟩
  generalize rrM ⟨r, c, l⟩ = M at *
  generalize rrP ⟨r, c, l⟩ = p at *
  generalize (rdc ⟨r, c, l⟩).isSome = b at *
  refine meets_upf Try.func25 u_spec_RankOf_g rfl ?_; simp only [u_spec_RankOf_u]
  simp only [encMt, encIts, encZs] at hm ⊢
  simp (disch := first | omega | (simp only [List.length_take, List.length_drop, List.length_append, List.map_cons, List.map_nil, List.length_map, List.length_cons, List.length_nil, List.length_set, List.length_replicate]; omega) | (simp only [List.length_cons, List.length_nil, Nat.zero_add, Nat.reduceAdd])) only [go_sem, ↓reduceIte, Nat.reduceAdd, Int.reduceNeg, Int.reduceAdd, Int.reduceSub, Int.reduceMul, Int.reduceLT, Int.reduceLE, Int.reduceEq, Int.reduceToNat, Nat.reduceBEq, true_and]
  refine cl_ok hm rfl ?_
  simp (disch := first | omega | (simp only [List.length_take, List.length_drop, List.length_append, List.map_cons, List.map_nil, List.length_map, List.length_cons, List.length_nil, List.length_set, List.length_replicate]; omega) | (simp only [List.length_cons, List.length_nil, Nat.zero_add, Nat.reduceAdd])) only [go_sem, ↓reduceIte, Nat.reduceAdd, Int.reduceNeg, Int.reduceAdd, Int.reduceSub, Int.reduceMul, Int.reduceLT, Int.reduceLE, Int.reduceEq, Int.reduceToNat, Nat.reduceBEq, true_and]
  rfl

/-! ### the determinant -/
def prodF (l : List It) : It := l.foldl mulN (l2N 1)
def detM (m : Mt) : Option It := match rdc m with
  | none => none
  | some x => if m.rows ≠ m.cols then none else if x.2.length < m.cols.toNat then some (l2N 0) else if prodF (facL x.2) = it0 then none else some (prodF (facL x.2))
def detI (m : Mt) : It := (detM m).getD it0
theorem mkN_den {n d : Int} (h : (mkN n d).den = 0) : mkN n d = it0 := by
  unfold mkN at h ⊢
  split
  · rfl
  · rename_i h1
    rw [if_neg h1] at h
    split
    · rename_i h2
      rw [if_pos h2] at h
      have := (numB_iff.1 h2).2.1.1
      omega
    · rfl
theorem mulN_den {x y : It} (h : (mulN x y).den = 0) : mulN x y = it0 := by
  unfold mulN at h ⊢
  split
  · rename_i h1; rw [if_pos h1] at h; exact mkN_den h
  · rfl
theorem prodF_den {l : List It} : ∀ {a : It}, (a.den = 0 → a = it0) → (l.foldl mulN a).den = 0 → l.foldl mulN a = it0 := by
  induction l with
  | nil => intro a ha h; exact ha h
  | cons x l ih => intro a ha h; exact ih (fun h => mulN_den h) h
theorem facL_foldl (st : List Stp) (a : It) : (facL st).foldl mulN a = st.foldl (fun o x => if x.2.2 = true then mulN (mulN o x.2.1) (l2N (-1)) else mulN o x.2.1) a := by
  induction st generalizing a with
  | nil => rfl
  | cons x r ih =>
    have : facL (x :: r) = (x.2.1 :: (if x.2.2 = true then [l2N (-1)] else [])) ++ facL r := by simp [facL]
    rw [this, List.foldl_append, ih]
    by_cases h : x.2.2 = true <;> simp [h]

def detS (st : List Stp) (i : Nat) : It := (st.take i).foldl (fun o x => if x.2.2 = true then mulN (mulN o x.2.1) (l2N (-1)) else mulN o x.2.1) (l2N 1)
theorem detS_succ {st : List Stp} {i : Nat} (h : i < st.length) : detS st (i + 1) = if (st.getD i default).2.2 = true then mulN (mulN (detS st i) (st.getD i default).2.1) (l2N (-1)) else mulN (detS st i) (st.getD i default).2.1 := by
  unfold detS
  rw [List.take_succ_eq_append_getElem h, List.foldl_append, List.getD_eq_getElem?_getD, List.getElem?_eq_getElem h]; rfl
theorem detS_end (st : List Stp) : detS st st.length = prodF (facL st) := by
  unfold detS prodF
  rw [List.take_length, facL_foldl]
set_option maxHeartbeats 2000000 in
theorem implDet_m (m : Mt) : Meets Try.prog 28 [(true, encMt m)] [(true, encIt (detI m), true), (false, [.sc (.bool (detM m).isSome)], true)] := by
  obtain ⟨r, c, l⟩ := m
  have hm := isMt_m ⟨r, c, l⟩
  have hr := fun h => @implRed_mt ⟨r, c, l⟩ h
  have hi1 := mIntItem 1
  have hi0 := mIntItem 0
  have him := mIntItem (-1)
  rw [intN_eq (by omega)] at hi1 hi0 him
  unfold detI detM
  refine meets_upf Try.func28 u_impl_DeterminantOf_g rfl ?_; simp only [u_impl_DeterminantOf_u]
  simp only [encMt, encIts, encIt] at hm hr hi1 hi0 him ⊢
  simp (disch := first | omega | (simp only [List.length_take, List.length_drop, List.length_append, List.map_cons, List.map_nil, List.length_map, List.length_cons, List.length_nil, List.length_set, List.length_replicate]; omega) | (simp only [List.length_cons, List.length_nil, Nat.zero_add, Nat.reduceAdd])) only [go_sem, ↓reduceIte, Nat.reduceAdd, Int.reduceNeg, Int.reduceAdd, Int.reduceSub, Int.reduceMul, Int.reduceLT, Int.reduceLE, Int.reduceEq, Int.reduceToNat, Nat.reduceBEq, true_and]
  refine cl_ok hm rfl ?_
  cases hB : mtB ⟨r, c, l⟩
  · have := rdc_f hB
    rw [this]
    simp (disch := first | omega | (simp only [List.length_take, List.length_drop, List.length_append, List.map_cons, List.map_nil, List.length_map, List.length_cons, List.length_nil, List.length_set, List.length_replicate]; omega) | (simp only [List.length_cons, List.length_nil, Nat.zero_add, Nat.reduceAdd])) only [go_sem, ↓reduceIte, Nat.reduceAdd, Int.reduceNeg, Int.reduceAdd, Int.reduceSub, Int.reduceMul, Int.reduceLT, Int.reduceLE, Int.reduceEq, Int.reduceToNat, Nat.reduceBEq, true_and]
    rfl
  have hr := hr hB
  simp (disch := first | omega | (simp only [List.length_take, List.length_drop, List.length_append, List.map_cons, List.map_nil, List.length_map, List.length_cons, List.length_nil, List.length_set, List.length_replicate]; omega) | (simp only [List.length_cons, List.length_nil, Nat.zero_add, Nat.reduceAdd])) only [go_sem, ↓reduceIte, Nat.reduceAdd, Int.reduceNeg, Int.reduceAdd, Int.reduceSub, Int.reduceMul, Int.reduceLT, Int.reduceLE, Int.reduceEq, Int.reduceToNat, Nat.reduceBEq, true_and]
  refine br_ifn (fun hrc => ?_) (fun hrc => ?_)
  rotate_left
  · simp (disch := first | omega | (simp only [List.length_take, List.length_drop, List.length_append, List.map_cons, List.map_nil, List.length_map, List.length_cons, List.length_nil, List.length_set, List.length_replicate]; omega) | (simp only [List.length_cons, List.length_nil, Nat.zero_add, Nat.reduceAdd])) only [go_sem, ↓reduceIte, Nat.reduceAdd, Int.reduceNeg, Int.reduceAdd, Int.reduceSub, Int.reduceMul, Int.reduceLT, Int.reduceLE, Int.reduceEq, Int.reduceToNat, Nat.reduceBEq, true_and]
    cases hd : rdc ⟨r, c, l⟩ with
    | none => rfl
    | some x => simp only [ne_eq, hrc, not_false_eq_true, if_true]; rfl
  subst hrc
  simp (disch := first | omega | (simp only [List.length_take, List.length_drop, List.length_append, List.map_cons, List.map_nil, List.length_map, List.length_cons, List.length_nil, List.length_set, List.length_replicate]; omega) | (simp only [List.length_cons, List.length_nil, Nat.zero_add, Nat.reduceAdd])) only [go_sem, ↓reduceIte, Nat.reduceAdd, Int.reduceNeg, Int.reduceAdd, Int.reduceSub, Int.reduceMul, Int.reduceLT, Int.reduceLE, Int.reduceEq, Int.reduceToNat, Nat.reduceBEq, true_and]
  cases hd : rdc ⟨r, r, l⟩ with
  | none =>
    rw [hd] at hr
    simp only [resI', encMt, encIts] at hr
    refine cl_ok hr rfl ?_
    simp (disch := first | omega | (simp only [List.length_take, List.length_drop, List.length_append, List.map_cons, List.map_nil, List.length_map, List.length_cons, List.length_nil, List.length_set, List.length_replicate]; omega) | (simp only [List.length_cons, List.length_nil, Nat.zero_add, Nat.reduceAdd])) only [go_sem, ↓reduceIte, Nat.reduceAdd, Int.reduceNeg, Int.reduceAdd, Int.reduceSub, Int.reduceMul, Int.reduceLT, Int.reduceLE, Int.reduceEq, Int.reduceToNat, Nat.reduceBEq, true_and]
    rfl
  | some x =>
    obtain ⟨f, st⟩ := x
    obtain ⟨_, b1, b2, b3, b4⟩ := rdc_bd hd
    obtain ⟨g1, g2, -⟩ := mtB_dims hB
    simp only at b1 b2 b3 b4 g1 g2
    rw [hd] at hr
    simp only [resI', encMt, encIts, encSts] at hr
    refine cl_ok hr rfl ?_
    simp only [ne_eq, not_true_eq_false, if_false]
    simp (disch := first | omega | (simp only [List.length_take, List.length_drop, List.length_append, List.map_cons, List.map_nil, List.length_map, List.length_cons, List.length_nil, List.length_set, List.length_replicate]; omega) | (simp only [List.length_cons, List.length_nil, Nat.zero_add, Nat.reduceAdd])) only [go_sem, ↓reduceIte, Nat.reduceAdd, Int.reduceNeg, Int.reduceAdd, Int.reduceSub, Int.reduceMul, Int.reduceLT, Int.reduceLE, Int.reduceEq, Int.reduceToNat, Nat.reduceBEq, true_and]
    refine br_if (fun h => ?_) (fun h => ?_)
    · rw [if_pos (by omega)]
      simp (disch := first | omega | (simp only [List.length_take, List.length_drop, List.length_append, List.map_cons, List.map_nil, List.length_map, List.length_cons, List.length_nil, List.length_set, List.length_replicate]; omega) | (simp only [List.length_cons, List.length_nil, Nat.zero_add, Nat.reduceAdd])) only [go_sem, ↓reduceIte, Nat.reduceAdd, Int.reduceNeg, Int.reduceAdd, Int.reduceSub, Int.reduceMul, Int.reduceLT, Int.reduceLE, Int.reduceEq, Int.reduceToNat, Nat.reduceBEq, true_and]
      refine cl_ok hi0 rfl ?_
      simp (disch := first | omega | (simp only [List.length_take, List.length_drop, List.length_append, List.map_cons, List.map_nil, List.length_map, List.length_cons, List.length_nil, List.length_set, List.length_replicate]; omega) | (simp only [List.length_cons, List.length_nil, Nat.zero_add, Nat.reduceAdd])) only [go_sem, ↓reduceIte, Nat.reduceAdd, Int.reduceNeg, Int.reduceAdd, Int.reduceSub, Int.reduceMul, Int.reduceLT, Int.reduceLE, Int.reduceEq, Int.reduceToNat, Nat.reduceBEq, true_and]
      rfl
    rw [if_neg (by omega)]
    simp (disch := first | omega | (simp only [List.length_take, List.length_drop, List.length_append, List.map_cons, List.map_nil, List.length_map, List.length_cons, List.length_nil, List.length_set, List.length_replicate]; omega) | (simp only [List.length_cons, List.length_nil, Nat.zero_add, Nat.reduceAdd])) only [go_sem, ↓reduceIte, Nat.reduceAdd, Int.reduceNeg, Int.reduceAdd, Int.reduceSub, Int.reduceMul, Int.reduceLT, Int.reduceLE, Int.reduceEq, Int.reduceToNat, Nat.reduceBEq, true_and]
    refine cl_ok hi1 rfl ?_
    simp (disch := first | omega | (simp only [List.length_take, List.length_drop, List.length_append, List.map_cons, List.map_nil, List.length_map, List.length_cons, List.length_nil, List.length_set, List.length_replicate]; omega) | (simp only [List.length_cons, List.length_nil, Nat.zero_add, Nat.reduceAdd])) only [go_sem, ↓reduceIte, Nat.reduceAdd, Int.reduceNeg, Int.reduceAdd, Int.reduceSub, Int.reduceMul, Int.reduceLT, Int.reduceLE, Int.reduceEq, Int.reduceToNat, Nat.reduceBEq, true_and]
    refine lp_n st.length (fun i => [.sc (.int .i64 (i : Nat)), .sc (.int .i64 (detS st i).num), .sc (.int .i64 (detS st i).den), .sc (.string (detS st i).text)]) rfl fun i hi => ?_
    simp only [u_impl_DeterminantOf_l1]
    simp (disch := first | omega | (simp only [List.length_take, List.length_drop, List.length_append, List.map_cons, List.map_nil, List.length_map, List.length_cons, List.length_nil, List.length_set, List.length_replicate]; omega) | (simp only [List.length_cons, List.length_nil, Nat.zero_add, Nat.reduceAdd])) only [go_sem, ↓reduceIte, Nat.reduceAdd, Int.reduceNeg, Int.reduceAdd, Int.reduceSub, Int.reduceMul, Int.reduceLT, Int.reduceLE, Int.reduceEq, Int.reduceToNat, Nat.reduceBEq, true_and]
    refine br_if (fun h1 => ?_) (fun h1 => ?_)
    · have hlt : i < st.length := by omega
      have hs := detS_succ hlt
      have hm1 := mImplMul (detS st i) (st.getD i default).2.1
      have hm2 := mImplMul (mulN (detS st i) (st.getD i default).2.1) (l2N (-1))
      simp only [encIt] at hm1 hm2
      simp (disch := first | omega | (simp only [List.length_take, List.length_drop, List.length_append, List.map_cons, List.map_nil, List.length_map, List.length_cons, List.length_nil, List.length_set, List.length_replicate]; omega) | (simp only [List.length_cons, List.length_nil, Nat.zero_add, Nat.reduceAdd])) only [go_sem, ↓reduceIte, Nat.reduceAdd, Int.reduceNeg, Int.reduceAdd, Int.reduceSub, Int.reduceMul, Int.reduceLT, Int.reduceLE, Int.reduceEq, Int.reduceToNat, Nat.reduceBEq, true_and]
      refine jn (fun vs => ∃ y0 y4 y5 y6 y7, vs = [y0, .sc (.int .i64 (detS st (i + 1)).num), .sc (.int .i64 (detS st (i + 1)).den), .sc (.string (detS st (i + 1)).text), y4, y5, y6, y7]) ?_ ?_
      · simp (disch := first | omega | (simp only [List.length_take, List.length_drop, List.length_append, List.map_cons, List.map_nil, List.length_map, List.length_cons, List.length_nil, List.length_set, List.length_replicate]; omega) | (simp only [List.length_cons, List.length_nil, Nat.zero_add, Nat.reduceAdd])) only [go_sem, ↓reduceIte, Nat.reduceAdd, Int.reduceNeg, Int.reduceAdd, Int.reduceSub, Int.reduceMul, Int.reduceLT, Int.reduceLE, Int.reduceEq, Int.reduceToNat, Nat.reduceBEq, ix_st, encSt]
        refine cl_ok hm1 rfl ?_
        simp (disch := first | omega | (simp only [List.length_take, List.length_drop, List.length_append, List.map_cons, List.map_nil, List.length_map, List.length_cons, List.length_nil, List.length_set, List.length_replicate]; omega) | (simp only [List.length_cons, List.length_nil, Nat.zero_add, Nat.reduceAdd])) only [go_sem, ↓reduceIte, Nat.reduceAdd, Int.reduceNeg, Int.reduceAdd, Int.reduceSub, Int.reduceMul, Int.reduceLT, Int.reduceLE, Int.reduceEq, Int.reduceToNat, Nat.reduceBEq, true_and]
        refine br_b (fun hb => ?_) (fun hb => ?_)
        · rw [if_pos hb] at hs
          simp (disch := first | omega | (simp only [List.length_take, List.length_drop, List.length_append, List.map_cons, List.map_nil, List.length_map, List.length_cons, List.length_nil, List.length_set, List.length_replicate]; omega) | (simp only [List.length_cons, List.length_nil, Nat.zero_add, Nat.reduceAdd])) only [go_sem, ↓reduceIte, Nat.reduceAdd, Int.reduceNeg, Int.reduceAdd, Int.reduceSub, Int.reduceMul, Int.reduceLT, Int.reduceLE, Int.reduceEq, Int.reduceToNat, Nat.reduceBEq, true_and]
          refine cl_ok him rfl ?_
          simp (disch := first | omega | (simp only [List.length_take, List.length_drop, List.length_append, List.map_cons, List.map_nil, List.length_map, List.length_cons, List.length_nil, List.length_set, List.length_replicate]; omega) | (simp only [List.length_cons, List.length_nil, Nat.zero_add, Nat.reduceAdd])) only [go_sem, ↓reduceIte, Nat.reduceAdd, Int.reduceNeg, Int.reduceAdd, Int.reduceSub, Int.reduceMul, Int.reduceLT, Int.reduceLE, Int.reduceEq, Int.reduceToNat, Nat.reduceBEq, true_and]
          refine cl_ok hm2 rfl ?_
          simp (disch := first | omega | (simp only [List.length_take, List.length_drop, List.length_append, List.map_cons, List.map_nil, List.length_map, List.length_cons, List.length_nil, List.length_set, List.length_replicate]; omega) | (simp only [List.length_cons, List.length_nil, Nat.zero_add, Nat.reduceAdd])) only [go_sem, ↓reduceIte, Nat.reduceAdd, Int.reduceNeg, Int.reduceAdd, Int.reduceSub, Int.reduceMul, Int.reduceLT, Int.reduceLE, Int.reduceEq, Int.reduceToNat, Nat.reduceBEq, true_and]
          rw [hs]
          exact ⟨_, _, _, _, _, rfl⟩
        · rw [if_neg (by rw [hb]; decide)] at hs
          simp (disch := first | omega | (simp only [List.length_take, List.length_drop, List.length_append, List.map_cons, List.map_nil, List.length_map, List.length_cons, List.length_nil, List.length_set, List.length_replicate]; omega) | (simp only [List.length_cons, List.length_nil, Nat.zero_add, Nat.reduceAdd])) only [go_sem, ↓reduceIte, Nat.reduceAdd, Int.reduceNeg, Int.reduceAdd, Int.reduceSub, Int.reduceMul, Int.reduceLT, Int.reduceLE, Int.reduceEq, Int.reduceToNat, Nat.reduceBEq, true_and]
          rw [hs]
          exact ⟨_, _, _, _, _, rfl⟩
      · rintro vs - ⟨y0, y4, y5, y6, y7, rfl⟩
        simp only [u_impl_DeterminantOf_j0]
        simp (disch := first | omega | (simp only [List.length_take, List.length_drop, List.length_append, List.map_cons, List.map_nil, List.length_map, List.length_cons, List.length_nil, List.length_set, List.length_replicate]; omega) | (simp only [List.length_cons, List.length_nil, Nat.zero_add, Nat.reduceAdd])) only [go_sem, ↓reduceIte, Nat.reduceAdd, Int.reduceNeg, Int.reduceAdd, Int.reduceSub, Int.reduceMul, Int.reduceLT, Int.reduceLE, Int.reduceEq, Int.reduceToNat, Nat.reduceBEq, nat1]
        exact hlt
    · obtain rfl : i = st.length := by omega
      rw [detS_end]
      have hmi := mIsMissing (prodF (facL st))
      simp only [encIt] at hmi
      simp (disch := first | omega | (simp only [List.length_take, List.length_drop, List.length_append, List.map_cons, List.map_nil, List.length_map, List.length_cons, List.length_nil, List.length_set, List.length_replicate]; omega) | (simp only [List.length_cons, List.length_nil, Nat.zero_add, Nat.reduceAdd])) only [go_sem, ↓reduceIte, Nat.reduceAdd, Int.reduceNeg, Int.reduceAdd, Int.reduceSub, Int.reduceMul, Int.reduceLT, Int.reduceLE, Int.reduceEq, Int.reduceToNat, Nat.reduceBEq, true_and]
      refine cl_ok hmi rfl ?_
      simp (disch := first | omega | (simp only [List.length_take, List.length_drop, List.length_append, List.map_cons, List.map_nil, List.length_map, List.length_cons, List.length_nil, List.length_set, List.length_replicate]; omega) | (simp only [List.length_cons, List.length_nil, Nat.zero_add, Nat.reduceAdd])) only [go_sem, ↓reduceIte, Nat.reduceAdd, Int.reduceNeg, Int.reduceAdd, Int.reduceSub, Int.reduceMul, Int.reduceLT, Int.reduceLE, Int.reduceEq, Int.reduceToNat, Nat.reduceBEq, true_and]
      by_cases h0 : prodF (facL st) = it0
      · simp only [h0, if_true]; rfl
      · simp only [h0, if_false]; rfl
set_option maxHeartbeats 2000000 in
theorem specDet_m (m : Mt) : Meets Try.prog 27 [(true, encMt m)] [(true, encIt (detI m), true), (false, [.sc (.bool (detM m).isSome)], true)] := by
  obtain ⟨r, c, l⟩ := m
  have hm := specIsMt_m ⟨r, c, l⟩
  have hr := fun h => @specRed_mt ⟨r, c, l⟩ h
  have hi1 := mL2Num 1
  have hi0 := mL2Num 0
  unfold detI detM
  refine meets_upf Try.func27 u_spec_DeterminantOf_g rfl ?_; simp only [u_spec_DeterminantOf_u]
  simp only [encMt, encIts, encIt] at hm hr hi1 hi0 ⊢
  simp (disch := first | omega | (simp only [List.length_take, List.length_drop, List.length_append, List.map_cons, List.map_nil, List.length_map, List.length_cons, List.length_nil, List.length_set, List.length_replicate]; omega) | (simp only [List.length_cons, List.length_nil, Nat.zero_add, Nat.reduceAdd])) only [go_sem, ↓reduceIte, Nat.reduceAdd, Int.reduceNeg, Int.reduceAdd, Int.reduceSub, Int.reduceMul, Int.reduceLT, Int.reduceLE, Int.reduceEq, Int.reduceToNat, Nat.reduceBEq, true_and]
  refine cl_ok hm rfl ?_
  cases hB : mtB ⟨r, c, l⟩
  · have := rdc_f hB
    rw [this]
    simp (disch := first | omega | (simp only [List.length_take, List.length_drop, List.length_append, List.map_cons, List.map_nil, List.length_map, List.length_cons, List.length_nil, List.length_set, List.length_replicate]; omega) | (simp only [List.length_cons, List.length_nil, Nat.zero_add, Nat.reduceAdd])) only [go_sem, ↓reduceIte, Nat.reduceAdd, Int.reduceNeg, Int.reduceAdd, Int.reduceSub, Int.reduceMul, Int.reduceLT, Int.reduceLE, Int.reduceEq, Int.reduceToNat, Nat.reduceBEq, true_and]
    rfl
  have hr := hr hB
  obtain ⟨g1, g2, -⟩ := mtB_dims hB
  simp (disch := first | omega | (simp only [List.length_take, List.length_drop, List.length_append, List.map_cons, List.map_nil, List.length_map, List.length_cons, List.length_nil, List.length_set, List.length_replicate]; omega) | (simp only [List.length_cons, List.length_nil, Nat.zero_add, Nat.reduceAdd])) only [go_sem, ↓reduceIte, Nat.reduceAdd, Int.reduceNeg, Int.reduceAdd, Int.reduceSub, Int.reduceMul, Int.reduceLT, Int.reduceLE, Int.reduceEq, Int.reduceToNat, Nat.reduceBEq, true_and]
  refine br_ifn (fun hrc => ?_) (fun hrc => ?_)
  rotate_left
  · simp (disch := first | omega | (simp only [List.length_take, List.length_drop, List.length_append, List.map_cons, List.map_nil, List.length_map, List.length_cons, List.length_nil, List.length_set, List.length_replicate]; omega) | (simp only [List.length_cons, List.length_nil, Nat.zero_add, Nat.reduceAdd])) only [go_sem, ↓reduceIte, Nat.reduceAdd, Int.reduceNeg, Int.reduceAdd, Int.reduceSub, Int.reduceMul, Int.reduceLT, Int.reduceLE, Int.reduceEq, Int.reduceToNat, Nat.reduceBEq, true_and]
    cases hd : rdc ⟨r, c, l⟩ with
    | none => rfl
    | some x => simp only [ne_eq, hrc, not_false_eq_true, if_true]; rfl
  subst hrc
  simp only at g1 g2
  simp (disch := first | omega | (simp only [List.length_take, List.length_drop, List.length_append, List.map_cons, List.map_nil, List.length_map, List.length_cons, List.length_nil, List.length_set, List.length_replicate]; omega) | (simp only [List.length_cons, List.length_nil, Nat.zero_add, Nat.reduceAdd])) only [go_sem, ↓reduceIte, Nat.reduceAdd, Int.reduceNeg, Int.reduceAdd, Int.reduceSub, Int.reduceMul, Int.reduceLT, Int.reduceLE, Int.reduceEq, Int.reduceToNat, Nat.reduceBEq, true_and]
  cases hd : rdc ⟨r, r, l⟩ with
  | none =>
    rw [hd] at hr
    simp only [resS', encMt, encIts, encZs] at hr
    refine cl_ok hr rfl ?_
    simp (disch := first | omega | (simp only [List.length_take, List.length_drop, List.length_append, List.map_cons, List.map_nil, List.length_map, List.length_cons, List.length_nil, List.length_set, List.length_replicate]; omega) | (simp only [List.length_cons, List.length_nil, Nat.zero_add, Nat.reduceAdd])) only [go_sem, ↓reduceIte, Nat.reduceAdd, Int.reduceNeg, Int.reduceAdd, Int.reduceSub, Int.reduceMul, Int.reduceLT, Int.reduceLE, Int.reduceEq, Int.reduceToNat, Nat.reduceBEq, true_and]
    refine cl_ok hi1 rfl ?_
    simp (disch := first | omega | (simp only [List.length_take, List.length_drop, List.length_append, List.map_cons, List.map_nil, List.length_map, List.length_cons, List.length_nil, List.length_set, List.length_replicate]; omega) | (simp only [List.length_cons, List.length_nil, Nat.zero_add, Nat.reduceAdd])) only [go_sem, ↓reduceIte, Nat.reduceAdd, Int.reduceNeg, Int.reduceAdd, Int.reduceSub, Int.reduceMul, Int.reduceLT, Int.reduceLE, Int.reduceEq, Int.reduceToNat, Nat.reduceBEq, true_and]
    refine jn (fun vs => ∃ y0 y1 y2, vs = [y0, y1, y2]) ?_ ?_
    · refine br_if (fun h => ?_) (fun h => ?_)
      · simp (disch := first | omega | (simp only [List.length_take, List.length_drop, List.length_append, List.map_cons, List.map_nil, List.length_map, List.length_cons, List.length_nil, List.length_set, List.length_replicate]; omega) | (simp only [List.length_cons, List.length_nil, Nat.zero_add, Nat.reduceAdd])) only [go_sem, ↓reduceIte, Nat.reduceAdd, Int.reduceNeg, Int.reduceAdd, Int.reduceSub, Int.reduceMul, Int.reduceLT, Int.reduceLE, Int.reduceEq, Int.reduceToNat, Nat.reduceBEq, true_and]
        refine cl_ok hi0 rfl ?_
        simp (disch := first | omega | (simp only [List.length_take, List.length_drop, List.length_append, List.map_cons, List.map_nil, List.length_map, List.length_cons, List.length_nil, List.length_set, List.length_replicate]; omega) | (simp only [List.length_cons, List.length_nil, Nat.zero_add, Nat.reduceAdd])) only [go_sem, ↓reduceIte, Nat.reduceAdd, Int.reduceNeg, Int.reduceAdd, Int.reduceSub, Int.reduceMul, Int.reduceLT, Int.reduceLE, Int.reduceEq, Int.reduceToNat, Nat.reduceBEq, true_and]
        exact ⟨_, _, _, rfl⟩
      · simp (disch := first | omega | (simp only [List.length_take, List.length_drop, List.length_append, List.map_cons, List.map_nil, List.length_map, List.length_cons, List.length_nil, List.length_set, List.length_replicate]; omega) | (simp only [List.length_cons, List.length_nil, Nat.zero_add, Nat.reduceAdd])) only [go_sem, ↓reduceIte, Nat.reduceAdd, Int.reduceNeg, Int.reduceAdd, Int.reduceSub, Int.reduceMul, Int.reduceLT, Int.reduceLE, Int.reduceEq, Int.reduceToNat, Nat.reduceBEq, true_and]
        exact ⟨_, _, _, rfl⟩
    rintro vs - ⟨y0, y1, y2, rfl⟩
    simp only [u_spec_DeterminantOf_j2]
    simp (disch := first | omega | (simp only [List.length_take, List.length_drop, List.length_append, List.map_cons, List.map_nil, List.length_map, List.length_cons, List.length_nil, List.length_set, List.length_replicate]; omega) | (simp only [List.length_cons, List.length_nil, Nat.zero_add, Nat.reduceAdd])) only [go_sem, ↓reduceIte, Nat.reduceAdd, Int.reduceNeg, Int.reduceAdd, Int.reduceSub, Int.reduceMul, Int.reduceLT, Int.reduceLE, Int.reduceEq, Int.reduceToNat, Nat.reduceBEq, true_and]
    refine jn (fun vs => ∃ y0 y1 y2 y3 y4, vs = [y0, y1, y2, y3, y4]) ?_ ?_
    · refine lp_n 0 (fun i => [.sc (.int .i64 (i : Nat)), y0, y1, y2]) rfl fun i hi => ?_
      simp only [u_spec_DeterminantOf_l0]
      simp (disch := first | omega | (simp only [List.length_take, List.length_drop, List.length_append, List.map_cons, List.map_nil, List.length_map, List.length_cons, List.length_nil, List.length_set, List.length_replicate]; omega) | (simp only [List.length_cons, List.length_nil, Nat.zero_add, Nat.reduceAdd])) only [go_sem, ↓reduceIte, Nat.reduceAdd, Int.reduceNeg, Int.reduceAdd, Int.reduceSub, Int.reduceMul, Int.reduceLT, Int.reduceLE, Int.reduceEq, Int.reduceToNat, Nat.reduceBEq, true_and]
      refine br_if (fun h => absurd h (by omega)) (fun h => ?_)
      simp (disch := first | omega | (simp only [List.length_take, List.length_drop, List.length_append, List.map_cons, List.map_nil, List.length_map, List.length_cons, List.length_nil, List.length_set, List.length_replicate]; omega) | (simp only [List.length_cons, List.length_nil, Nat.zero_add, Nat.reduceAdd])) only [go_sem, ↓reduceIte, Nat.reduceAdd, Int.reduceNeg, Int.reduceAdd, Int.reduceSub, Int.reduceMul, Int.reduceLT, Int.reduceLE, Int.reduceEq, Int.reduceToNat, Nat.reduceBEq, true_and]
      exact ⟨_, _, _, _, _, rfl⟩
    rintro vs - ⟨z0, z1, z2, z3, z4, rfl⟩
    simp only [u_spec_DeterminantOf_j1]
    simp (disch := first | omega | (simp only [List.length_take, List.length_drop, List.length_append, List.map_cons, List.map_nil, List.length_map, List.length_cons, List.length_nil, List.length_set, List.length_replicate]; omega) | (simp only [List.length_cons, List.length_nil, Nat.zero_add, Nat.reduceAdd])) only [go_sem, ↓reduceIte, Nat.reduceAdd, Int.reduceNeg, Int.reduceAdd, Int.reduceSub, Int.reduceMul, Int.reduceLT, Int.reduceLE, Int.reduceEq, Int.reduceToNat, Nat.reduceBEq, true_and]
    rfl
  | some x =>
    obtain ⟨f, st⟩ := x
    obtain ⟨_, b1, b2, b3, b4⟩ := rdc_bd hd
    simp only at b1 b2 b3 b4
    rw [hd] at hr
    simp only [resS', encMt, encIts, encZs] at hr
    have hpl : (pivL st).length = st.length := by simp [pivL]
    have hfl := facL_len st
    refine cl_ok hr rfl ?_
    simp only [ne_eq, not_true_eq_false, if_false]
    simp (disch := first | omega | (simp only [List.length_take, List.length_drop, List.length_append, List.map_cons, List.map_nil, List.length_map, List.length_cons, List.length_nil, List.length_set, List.length_replicate]; omega) | (simp only [List.length_cons, List.length_nil, Nat.zero_add, Nat.reduceAdd])) only [go_sem, ↓reduceIte, Nat.reduceAdd, Int.reduceNeg, Int.reduceAdd, Int.reduceSub, Int.reduceMul, Int.reduceLT, Int.reduceLE, Int.reduceEq, Int.reduceToNat, Nat.reduceBEq, hpl]
    refine cl_ok hi1 rfl ?_
    simp (disch := first | omega | (simp only [List.length_take, List.length_drop, List.length_append, List.map_cons, List.map_nil, List.length_map, List.length_cons, List.length_nil, List.length_set, List.length_replicate]; omega) | (simp only [List.length_cons, List.length_nil, Nat.zero_add, Nat.reduceAdd])) only [go_sem, ↓reduceIte, Nat.reduceAdd, Int.reduceNeg, Int.reduceAdd, Int.reduceSub, Int.reduceMul, Int.reduceLT, Int.reduceLE, Int.reduceEq, Int.reduceToNat, Nat.reduceBEq, hpl]
    by_cases hlt : st.length < r.toNat
    · rw [if_pos hlt]
      refine jn_eq [.sc (.int .i64 (l2N 0).num), .sc (.int .i64 (l2N 0).den), .sc (.string (l2N 0).text)] ?_ ?_
      · refine br_if (fun h => ?_) (fun h => absurd h (by omega))
        simp (disch := first | omega | (simp only [List.length_take, List.length_drop, List.length_append, List.map_cons, List.map_nil, List.length_map, List.length_cons, List.length_nil, List.length_set, List.length_replicate]; omega) | (simp only [List.length_cons, List.length_nil, Nat.zero_add, Nat.reduceAdd])) only [go_sem, ↓reduceIte, Nat.reduceAdd, Int.reduceNeg, Int.reduceAdd, Int.reduceSub, Int.reduceMul, Int.reduceLT, Int.reduceLE, Int.reduceEq, Int.reduceToNat, Nat.reduceBEq, true_and]
        refine cl_ok hi0 rfl ?_
        simp (disch := first | omega | (simp only [List.length_take, List.length_drop, List.length_append, List.map_cons, List.map_nil, List.length_map, List.length_cons, List.length_nil, List.length_set, List.length_replicate]; omega) | (simp only [List.length_cons, List.length_nil, Nat.zero_add, Nat.reduceAdd])) only [go_sem, ↓reduceIte, Nat.reduceAdd, Int.reduceNeg, Int.reduceAdd, Int.reduceSub, Int.reduceMul, Int.reduceLT, Int.reduceLE, Int.reduceEq, Int.reduceToNat, Nat.reduceBEq, true_and]
      simp only [u_spec_DeterminantOf_j2]
      simp (disch := first | omega | (simp only [List.length_take, List.length_drop, List.length_append, List.map_cons, List.map_nil, List.length_map, List.length_cons, List.length_nil, List.length_set, List.length_replicate]; omega) | (simp only [List.length_cons, List.length_nil, Nat.zero_add, Nat.reduceAdd])) only [go_sem, ↓reduceIte, Nat.reduceAdd, Int.reduceNeg, Int.reduceAdd, Int.reduceSub, Int.reduceMul, Int.reduceLT, Int.reduceLE, Int.reduceEq, Int.reduceToNat, Nat.reduceBEq, true_and]
      refine jn_eq [.sc (.bool false), .sc (.int .i64 0), .sc (.int .i64 (l2N 0).num), .sc (.int .i64 (l2N 0).den), .sc (.string (l2N 0).text)] ?_ ?_
      · refine lp_n 0 (fun i => [.sc (.int .i64 (i : Nat)), .sc (.int .i64 (l2N 0).num), .sc (.int .i64 (l2N 0).den), .sc (.string (l2N 0).text)]) rfl fun i hi => ?_
        obtain rfl : i = 0 := by omega
        simp only [u_spec_DeterminantOf_l0]
        simp (disch := first | omega | (simp only [List.length_take, List.length_drop, List.length_append, List.map_cons, List.map_nil, List.length_map, List.length_cons, List.length_nil, List.length_set, List.length_replicate]; omega) | (simp only [List.length_cons, List.length_nil, Nat.zero_add, Nat.reduceAdd])) only [go_sem, ↓reduceIte, Nat.reduceAdd, Int.reduceNeg, Int.reduceAdd, Int.reduceSub, Int.reduceMul, Int.reduceLT, Int.reduceLE, Int.reduceEq, Int.reduceToNat, Nat.reduceBEq, hpl]
        refine br_if (fun h => ?_) (fun h => ?_)
        · simp (disch := first | omega | (simp only [List.length_take, List.length_drop, List.length_append, List.map_cons, List.map_nil, List.length_map, List.length_cons, List.length_nil, List.length_set, List.length_replicate]; omega) | (simp only [List.length_cons, List.length_nil, Nat.zero_add, Nat.reduceAdd])) only [go_sem, ↓reduceIte, Nat.reduceAdd, Int.reduceNeg, Int.reduceAdd, Int.reduceSub, Int.reduceMul, Int.reduceLT, Int.reduceLE, Int.reduceEq, Int.reduceToNat, Nat.reduceBEq, hpl]
          have hne : ¬ ((st.length : Int) = r) := by omega
          refine br_if (fun h => absurd h hne) (fun h => ?_)
          simp (disch := first | omega | (simp only [List.length_take, List.length_drop, List.length_append, List.map_cons, List.map_nil, List.length_map, List.length_cons, List.length_nil, List.length_set, List.length_replicate]; omega) | (simp only [List.length_cons, List.length_nil, Nat.zero_add, Nat.reduceAdd])) only [go_sem, ↓reduceIte, Nat.reduceAdd, Int.reduceNeg, Int.reduceAdd, Int.reduceSub, Int.reduceMul, Int.reduceLT, Int.reduceLE, Int.reduceEq, Int.reduceToNat, Nat.reduceBEq, hne]
        · simp (disch := first | omega | (simp only [List.length_take, List.length_drop, List.length_append, List.map_cons, List.map_nil, List.length_map, List.length_cons, List.length_nil, List.length_set, List.length_replicate]; omega) | (simp only [List.length_cons, List.length_nil, Nat.zero_add, Nat.reduceAdd])) only [go_sem, ↓reduceIte, Nat.reduceAdd, Int.reduceNeg, Int.reduceAdd, Int.reduceSub, Int.reduceMul, Int.reduceLT, Int.reduceLE, Int.reduceEq, Int.reduceToNat, Nat.reduceBEq, true_and]
      simp only [u_spec_DeterminantOf_j1]
      simp (disch := first | omega | (simp only [List.length_take, List.length_drop, List.length_append, List.map_cons, List.map_nil, List.length_map, List.length_cons, List.length_nil, List.length_set, List.length_replicate]; omega) | (simp only [List.length_cons, List.length_nil, Nat.zero_add, Nat.reduceAdd])) only [go_sem, ↓reduceIte, Nat.reduceAdd, Int.reduceNeg, Int.reduceAdd, Int.reduceSub, Int.reduceMul, Int.reduceLT, Int.reduceLE, Int.reduceEq, Int.reduceToNat, Nat.reduceBEq, true_and]
      refine br_if (fun h => absurd h (by decide)) (fun h => ?_)
      simp (disch := first | omega | (simp only [List.length_take, List.length_drop, List.length_append, List.map_cons, List.map_nil, List.length_map, List.length_cons, List.length_nil, List.length_set, List.length_replicate]; omega) | (simp only [List.length_cons, List.length_nil, Nat.zero_add, Nat.reduceAdd])) only [go_sem, ↓reduceIte, Nat.reduceAdd, Int.reduceNeg, Int.reduceAdd, Int.reduceSub, Int.reduceMul, Int.reduceLT, Int.reduceLE, Int.reduceEq, Int.reduceToNat, Nat.reduceBEq, true_and]
      rfl
    · rw [if_neg hlt]
      have hleq : (st.length : Int) = r := by omega
      refine jn_eq [.sc (.int .i64 (l2N 1).num), .sc (.int .i64 (l2N 1).den), .sc (.string (l2N 1).text)] ?_ ?_
      · refine br_if (fun h => absurd h (by omega)) (fun h => ?_)
        simp (disch := first | omega | (simp only [List.length_take, List.length_drop, List.length_append, List.map_cons, List.map_nil, List.length_map, List.length_cons, List.length_nil, List.length_set, List.length_replicate]; omega) | (simp only [List.length_cons, List.length_nil, Nat.zero_add, Nat.reduceAdd])) only [go_sem, ↓reduceIte, Nat.reduceAdd, Int.reduceNeg, Int.reduceAdd, Int.reduceSub, Int.reduceMul, Int.reduceLT, Int.reduceLE, Int.reduceEq, Int.reduceToNat, Nat.reduceBEq, true_and]
      simp only [u_spec_DeterminantOf_j2]
      simp (disch := first | omega | (simp only [List.length_take, List.length_drop, List.length_append, List.map_cons, List.map_nil, List.length_map, List.length_cons, List.length_nil, List.length_set, List.length_replicate]; omega) | (simp only [List.length_cons, List.length_nil, Nat.zero_add, Nat.reduceAdd])) only [go_sem, ↓reduceIte, Nat.reduceAdd, Int.reduceNeg, Int.reduceAdd, Int.reduceSub, Int.reduceMul, Int.reduceLT, Int.reduceLE, Int.reduceEq, Int.reduceToNat, Nat.reduceBEq, true_and]
      generalize hF : facL st = F at *
      refine jn (fun vs => ∃ y0 y1, vs = [y0, y1, .sc (.int .i64 (prodF F).num), .sc (.int .i64 (prodF F).den), .sc (.string (prodF F).text)]) ?_ ?_
      · refine lp_n F.length (fun i => [.sc (.int .i64 (i : Nat)), .sc (.int .i64 (prodF (F.take i)).num), .sc (.int .i64 (prodF (F.take i)).den), .sc (.string (prodF (F.take i)).text)]) rfl fun i hi => ?_
        simp only [u_spec_DeterminantOf_l0]
        simp (disch := first | omega | (simp only [List.length_take, List.length_drop, List.length_append, List.map_cons, List.map_nil, List.length_map, List.length_cons, List.length_nil, List.length_set, List.length_replicate]; omega) | (simp only [List.length_cons, List.length_nil, Nat.zero_add, Nat.reduceAdd])) only [go_sem, ↓reduceIte, Nat.reduceAdd, Int.reduceNeg, Int.reduceAdd, Int.reduceSub, Int.reduceMul, Int.reduceLT, Int.reduceLE, Int.reduceEq, Int.reduceToNat, Nat.reduceBEq, hpl]
        refine br_if (fun h => ?_) (fun h => ?_)
        · simp (disch := first | omega | (simp only [List.length_take, List.length_drop, List.length_append, List.map_cons, List.map_nil, List.length_map, List.length_cons, List.length_nil, List.length_set, List.length_replicate]; omega) | (simp only [List.length_cons, List.length_nil, Nat.zero_add, Nat.reduceAdd])) only [go_sem, ↓reduceIte, Nat.reduceAdd, Int.reduceNeg, Int.reduceAdd, Int.reduceSub, Int.reduceMul, Int.reduceLT, Int.reduceLE, Int.reduceEq, Int.reduceToNat, Nat.reduceBEq, hpl]
          refine br_if (fun _ => ?_) (fun h => absurd hleq h)
          have hiF : i < F.length := by omega
          have hm1 := mSpecMul (prodF (F.take i)) (F.getD i default)
          have hs : mulN (prodF (F.take i)) (F.getD i default) = prodF (F.take (i + 1)) := by
            unfold prodF
            rw [List.take_succ_eq_append_getElem hiF, List.foldl_append, List.getD_eq_getElem?_getD, List.getElem?_eq_getElem hiF]; rfl
          rw [hs] at hm1
          simp only [encIt] at hm1
          simp (disch := first | omega | (simp only [List.length_take, List.length_drop, List.length_append, List.map_cons, List.map_nil, List.length_map, List.length_cons, List.length_nil, List.length_set, List.length_replicate]; omega) | (simp only [List.length_cons, List.length_nil, Nat.zero_add, Nat.reduceAdd])) only [go_sem, ↓reduceIte, Nat.reduceAdd, Int.reduceNeg, Int.reduceAdd, Int.reduceSub, Int.reduceMul, Int.reduceLT, Int.reduceLE, Int.reduceEq, Int.reduceToNat, Nat.reduceBEq, ix_it, encIt]
          refine cl_ok hm1 rfl ?_
          simp (disch := first | omega | (simp only [List.length_take, List.length_drop, List.length_append, List.map_cons, List.map_nil, List.length_map, List.length_cons, List.length_nil, List.length_set, List.length_replicate]; omega) | (simp only [List.length_cons, List.length_nil, Nat.zero_add, Nat.reduceAdd])) only [go_sem, ↓reduceIte, Nat.reduceAdd, Int.reduceNeg, Int.reduceAdd, Int.reduceSub, Int.reduceMul, Int.reduceLT, Int.reduceLE, Int.reduceEq, Int.reduceToNat, Nat.reduceBEq, nat1]
          exact hiF
        · obtain rfl : i = F.length := by omega
          simp (disch := first | omega | (simp only [List.length_take, List.length_drop, List.length_append, List.map_cons, List.map_nil, List.length_map, List.length_cons, List.length_nil, List.length_set, List.length_replicate]; omega) | (simp only [List.length_cons, List.length_nil, Nat.zero_add, Nat.reduceAdd])) only [go_sem, ↓reduceIte, Nat.reduceAdd, Int.reduceNeg, Int.reduceAdd, Int.reduceSub, Int.reduceMul, Int.reduceLT, Int.reduceLE, Int.reduceEq, Int.reduceToNat, Nat.reduceBEq, List.take_length]
          exact ⟨_, _, rfl⟩
      rintro vs - ⟨y0, y1, rfl⟩
      simp only [u_spec_DeterminantOf_j1]
      simp (disch := first | omega | (simp only [List.length_take, List.length_drop, List.length_append, List.map_cons, List.map_nil, List.length_map, List.length_cons, List.length_nil, List.length_set, List.length_replicate]; omega) | (simp only [List.length_cons, List.length_nil, Nat.zero_add, Nat.reduceAdd])) only [go_sem, ↓reduceIte, Nat.reduceAdd, Int.reduceNeg, Int.reduceAdd, Int.reduceSub, Int.reduceMul, Int.reduceLT, Int.reduceLE, Int.reduceEq, Int.reduceToNat, Nat.reduceBEq, true_and]
      refine br_if (fun h => ?_) (fun h => ?_)
      · have h0 : prodF F = it0 := prodF_den (by decide) h
        rw [if_pos h0]
        simp (disch := first | omega | (simp only [List.length_take, List.length_drop, List.length_append, List.map_cons, List.map_nil, List.length_map, List.length_cons, List.length_nil, List.length_set, List.length_replicate]; omega) | (simp only [List.length_cons, List.length_nil, Nat.zero_add, Nat.reduceAdd])) only [go_sem, ↓reduceIte, Nat.reduceAdd, Int.reduceNeg, Int.reduceAdd, Int.reduceSub, Int.reduceMul, Int.reduceLT, Int.reduceLE, Int.reduceEq, Int.reduceToNat, Nat.reduceBEq, true_and]
        rfl
      · have h0 : ¬ prodF F = it0 := by intro e; rw [e] at h; exact h rfl
        rw [if_neg h0]
        simp (disch := first | omega | (simp only [List.length_take, List.length_drop, List.length_append, List.map_cons, List.map_nil, List.length_map, List.length_cons, List.length_nil, List.length_set, List.length_replicate]; omega) | (simp only [List.length_cons, List.length_nil, Nat.zero_add, Nat.reduceAdd])) only [go_sem, ↓reduceIte, Nat.reduceAdd, Int.reduceNeg, Int.reduceAdd, Int.reduceSub, Int.reduceMul, Int.reduceLT, Int.reduceLE, Int.reduceEq, Int.reduceToNat, Nat.reduceBEq, true_and]
        rfl
end Go.Proofs.Ytmanijpmkeheeaa
