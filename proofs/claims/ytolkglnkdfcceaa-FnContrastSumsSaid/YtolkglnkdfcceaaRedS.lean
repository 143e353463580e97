/- spec.l14Reduce. -/
import Derived.Test.YtolkglnkdfcceaaURedS
import Derived.Test.YtolkglnkdfcceaaRedI
import Derived.Test.YtolkglnkdfcceaaTxt
namespace Go.Proofs.Ytolkglnkdfcceaa
open Go.RowKit
set_option linter.unusedVariables false
set_option linter.unusedSimpArgs false
set_option maxRecDepth 100000

theorem encZ_all (x : Int) : (encZ x).all isScD = true := rfl
def pivL (st : List Stp) : List Int := st.map fun x => (x.1 : Int)
def facL (st : List Stp) : List It := st.flatMap fun x => x.2.1 :: (if x.2.2 = true then [l2N (-1)] else [])
def resS (W R : Nat) : Option ((Nat → Nat → It) × List Stp) → List Rs
  | none => [(true, encMt ⟨0, 0, []⟩, true), (false, [encZs []], true), (false, [encIts []], true), (false, [.sc (.bool false)], true)]
  | some (f, st) => [(true, encMt ⟨R, W, gridL W f (R * W)⟩, true), (false, [encZs (pivL st)], true), (false, [encIts (facL st)], true), (false, [.sc (.bool true)], true)]
theorem facL_len (st : List Stp) : (facL st).length ≤ 2 * st.length := by
  induction st with
  | nil => simp [facL]
  | cons x r ih =>
    unfold facL at ih ⊢
    rw [List.flatMap_cons, List.length_append]
    have : (x.2.1 :: (if x.2.2 = true then [l2N (-1)] else [])).length ≤ 2 := by split <;> simp
    simp only [List.length_cons] at this ⊢
    omega
theorem pivL_app (st : List Stp) (x : Stp) : pivL (st ++ [x]) = pivL st ++ [(x.1 : Int)] := by simp [pivL]
theorem facL_app (st : List Stp) (x : Stp) : facL (st ++ [x]) = facL st ++ (x.2.1 :: (if x.2.2 = true then [l2N (-1)] else [])) := by simp [facL]
theorem elJ_skip' {r c W i j : Nat} {g : Nat → Nat → It} (h : i = r ∨ (g i c).num = 0) : elJ r c W g i j = elJ r c W g (i + 1) 0 := by
  funext a b
  unfold elJ
  by_cases ha : a = i
  · subst ha
    rcases h with h | h
    · simp [h]
    · simp [h]
  · have : (a < i ∧ b < W ∨ a = i ∧ b < j) ↔ (a < i + 1 ∧ b < W ∨ a = i + 1 ∧ b < 0) := by omega
    simp only [this]
def JsS (W R c : Nat) (f0 : Nat → Nat → It) (vs : List DV) : Prop := ∃ x0 x1 x2 x3 f' st', vs = [x0, x1, x2, x3, .sl 33 3 ((gridL W f' (R * W)).map encIt), .sl 3 1 ((pivL st').map encZ), .sl 33 3 ((facL st').map encIt)] ∧ redS W R f0 (c + 1) = some (f', st')

set_option maxHeartbeats 8000000 in
theorem specRed_m (R W : Nat) (f0 : Nat → Nat → It) (hR : R ≤ 100) (hW : W ≤ 100) :
    Meets Try.prog 52 [(true, encMt ⟨R, W, gridL W f0 (R * W)⟩)] (resS W R (redS W R f0 W)) := by
  have hRW : R * W ≤ 100 * 100 := Nat.mul_le_mul hR hW
  refine meets_upf Try.func52 u_spec_l14Reduce_g rfl ?_; simp only [u_spec_l14Reduce_u]
  simp only [encMt, encIts]
  have hgl : (gridL W f0 (R * W)).length ≤ 10000 := by rw [gridL_len]; omega
  simp (disch := first | omega | (simp only [List.length_take, List.length_drop, List.length_append, List.map_cons, List.map_nil, List.length_map, List.length_cons, List.length_nil, List.length_set, List.length_replicate]; omega) | (simp only [List.length_cons, List.length_nil, Nat.zero_add, Nat.reduceAdd])) only [go_sem, ↓reduceIte, Nat.reduceAdd, Int.reduceNeg, Int.reduceAdd, Int.reduceSub, Int.reduceMul, Int.reduceLT, Int.reduceLE, Int.reduceEq, Int.reduceToNat, Nat.reduceBEq, true_and]
  refine jn_eq [.sl 33 3 ((gridL W f0 (R * W)).map encIt)] ?_ ?_
  · simp (disch := first | omega | (simp only [List.length_take, List.length_drop, List.length_append, List.map_cons, List.map_nil, List.length_map, List.length_cons, List.length_nil, List.length_set, List.length_replicate]; omega) | (simp only [List.length_cons, List.length_nil, Nat.zero_add, Nat.reduceAdd])) only [go_sem, ↓reduceIte, Nat.reduceAdd, Int.reduceNeg, Int.reduceAdd, Int.reduceSub, Int.reduceMul, Int.reduceLT, Int.reduceLE, Int.reduceEq, Int.reduceToNat, Nat.reduceBEq, true_and]
    refine br_b (fun he => ?_) (fun he => ?_)
    · have he' : gridL W f0 (R * W) = [] := by simpa using he
      simp (disch := first | omega | (simp only [List.length_take, List.length_drop, List.length_append, List.map_cons, List.map_nil, List.length_map, List.length_cons, List.length_nil, List.length_set, List.length_replicate]; omega) | (simp only [List.length_cons, List.length_nil, Nat.zero_add, Nat.reduceAdd])) only [go_sem, ↓reduceIte, Nat.reduceAdd, Int.reduceNeg, Int.reduceAdd, Int.reduceSub, Int.reduceMul, Int.reduceLT, Int.reduceLE, Int.reduceEq, Int.reduceToNat, Nat.reduceBEq, he']
    · simp (disch := first | omega | (simp only [List.length_take, List.length_drop, List.length_append, List.map_cons, List.map_nil, List.length_map, List.length_cons, List.length_nil, List.length_set, List.length_replicate]; omega) | (simp only [List.length_cons, List.length_nil, Nat.zero_add, Nat.reduceAdd])) only [go_sem, ↓reduceIte, Nat.reduceAdd, Int.reduceNeg, Int.reduceAdd, Int.reduceSub, Int.reduceMul, Int.reduceLT, Int.reduceLE, Int.reduceEq, Int.reduceToNat, Nat.reduceBEq, fl_it]
  simp only [u_spec_l14Reduce_j9]
  simp (disch := first | omega | (simp only [List.length_take, List.length_drop, List.length_append, List.map_cons, List.map_nil, List.length_map, List.length_cons, List.length_nil, List.length_set, List.length_replicate]; omega) | (simp only [List.length_cons, List.length_nil, Nat.zero_add, Nat.reduceAdd])) only [go_sem, ↓reduceIte, Nat.reduceAdd, Int.reduceNeg, Int.reduceAdd, Int.reduceSub, Int.reduceMul, Int.reduceLT, Int.reduceLE, Int.reduceEq, Int.reduceToNat, Nat.reduceBEq, true_and]
  refine lp (fun s : Nat × (Nat → Nat → It) × List Stp => [.sc (.int .i64 (s.1 : Nat)), .sl 33 3 ((gridL W s.2.1 (R * W)).map encIt), .sl 3 1 ((pivL s.2.2).map encZ), .sl 33 3 ((facL s.2.2).map encIt)]) (fun s => s.1 ≤ W ∧ redS W R f0 s.1 = some (s.2.1, s.2.2)) (fun s => W - s.1) (0, f0, []) rfl ⟨by simp, rfl⟩ ?_
  rintro ⟨c, f, st⟩ ⟨g1, g2⟩
  simp only at g1 g2 ⊢
  obtain ⟨g3, g4⟩ := redS_len g2
  have hpl : (pivL st).length = st.length := by simp [pivL]
  simp only [u_spec_l14Reduce_l8]
  simp (disch := first | omega | (simp only [List.length_take, List.length_drop, List.length_append, List.map_cons, List.map_nil, List.length_map, List.length_cons, List.length_nil, List.length_set, List.length_replicate]; omega) | (simp only [List.length_cons, List.length_nil, Nat.zero_add, Nat.reduceAdd])) only [go_sem, ↓reduceIte, Nat.reduceAdd, Int.reduceNeg, Int.reduceAdd, Int.reduceSub, Int.reduceMul, Int.reduceLT, Int.reduceLE, Int.reduceEq, Int.reduceToNat, Nat.reduceBEq, true_and]
  refine br_if (fun hc => ?_) (fun hc => ?_)
  rotate_left
  · obtain rfl : W = c := by omega
    rw [g2]
    simp (disch := first | omega | (simp only [List.length_take, List.length_drop, List.length_append, List.map_cons, List.map_nil, List.length_map, List.length_cons, List.length_nil, List.length_set, List.length_replicate]; omega) | (simp only [List.length_cons, List.length_nil, Nat.zero_add, Nat.reduceAdd])) only [go_sem, ↓reduceIte, Nat.reduceAdd, Int.reduceNeg, Int.reduceAdd, Int.reduceSub, Int.reduceMul, Int.reduceLT, Int.reduceLE, Int.reduceEq, Int.reduceToNat, Nat.reduceBEq, true_and]
    rfl
  simp (disch := first | omega | (simp only [List.length_take, List.length_drop, List.length_append, List.map_cons, List.map_nil, List.length_map, List.length_cons, List.length_nil, List.length_set, List.length_replicate]; omega) | (simp only [List.length_cons, List.length_nil, Nat.zero_add, Nat.reduceAdd])) only [go_sem, ↓reduceIte, Nat.reduceAdd, Int.reduceNeg, Int.reduceAdd, Int.reduceSub, Int.reduceMul, Int.reduceLT, Int.reduceLE, Int.reduceEq, Int.reduceToNat, Nat.reduceBEq, hpl]
  refine br_if (fun hr => ?_) (fun hr => ?_)
  rotate_left
  · rw [redS_idle g2 (by omega) g1]
    simp (disch := first | omega | (simp only [List.length_take, List.length_drop, List.length_append, List.map_cons, List.map_nil, List.length_map, List.length_cons, List.length_nil, List.length_set, List.length_replicate]; omega) | (simp only [List.length_cons, List.length_nil, Nat.zero_add, Nat.reduceAdd])) only [go_sem, ↓reduceIte, Nat.reduceAdd, Int.reduceNeg, Int.reduceAdd, Int.reduceSub, Int.reduceMul, Int.reduceLT, Int.reduceLE, Int.reduceEq, Int.reduceToNat, Nat.reduceBEq, true_and]
    rfl
  have hrR : st.length < R := by omega
  have hcW : c < W := by omega
  have hfl := facL_len st
  generalize hrr : st.length = r at *
  refine jn (JsS W R c f0) ?_ ?_
  rotate_left
  · rintro vs - ⟨x0, x1, x2, x3, f', st', rfl, h1⟩
    simp only [u_spec_l14Reduce_j7]
    simp (disch := first | omega | (simp only [List.length_take, List.length_drop, List.length_append, List.map_cons, List.map_nil, List.length_map, List.length_cons, List.length_nil, List.length_set, List.length_replicate]; omega) | (simp only [List.length_cons, List.length_nil, Nat.zero_add, Nat.reduceAdd])) only [go_sem, ↓reduceIte, Nat.reduceAdd, Int.reduceNeg, Int.reduceAdd, Int.reduceSub, Int.reduceMul, Int.reduceLT, Int.reduceLE, Int.reduceEq, Int.reduceToNat, Nat.reduceBEq, nat1]
    exact ⟨(c + 1, f', st'), rfl, ⟨by simp only; omega, h1⟩, by simp only; omega⟩
  have hstep := redS_step g2
  unfold red1 at hstep
  rw [hrr, if_neg (by omega)] at hstep
  have bR : ∀ i, i < R → i * W ≤ 10000 := fun i hi => by
    have : i * W ≤ 100 * 100 := Nat.mul_le_mul (by omega) hW
    omega
  simp (disch := first | omega | (simp only [List.length_take, List.length_drop, List.length_append, List.map_cons, List.map_nil, List.length_map, List.length_cons, List.length_nil, List.length_set, List.length_replicate]; omega) | (simp only [List.length_cons, List.length_nil, Nat.zero_add, Nat.reduceAdd])) only [go_sem, ↓reduceIte, Nat.reduceAdd, Int.reduceNeg, Int.reduceAdd, Int.reduceSub, Int.reduceMul, Int.reduceLT, Int.reduceLE, Int.reduceEq, Int.reduceToNat, Nat.reduceBEq, hpl]
  refine jn (Jnz R c r f) ?_ ?_
  · refine lp (fun k : Nat => [.sc (.int .i64 (k : Nat))]) (fun k => r ≤ k ∧ k ≤ R ∧ ∀ i, r ≤ i → i < k → (f i c).num = 0) (fun k => R - k) r (by simp (disch := first | omega | (simp only [List.length_take, List.length_drop, List.length_append, List.map_cons, List.map_nil, List.length_map, List.length_cons, List.length_nil, List.length_set, List.length_replicate]; omega) | (simp only [List.length_cons, List.length_nil, Nat.zero_add, Nat.reduceAdd])) only [go_sem, ↓reduceIte, Nat.reduceAdd, Int.reduceNeg, Int.reduceAdd, Int.reduceSub, Int.reduceMul, Int.reduceLT, Int.reduceLE, Int.reduceEq, Int.reduceToNat, Nat.reduceBEq, hrr, hpl]) ⟨Nat.le_refl _, by omega, fun i h1 h2 => by omega⟩ ?_
    rintro k ⟨k1, k2, k3⟩
    simp only [u_spec_l14Reduce_l0]
    simp (disch := first | omega | (simp only [List.length_take, List.length_drop, List.length_append, List.map_cons, List.map_nil, List.length_map, List.length_cons, List.length_nil, List.length_set, List.length_replicate]; omega) | (simp only [List.length_cons, List.length_nil, Nat.zero_add, Nat.reduceAdd])) only [go_sem, ↓reduceIte, Nat.reduceAdd, Int.reduceNeg, Int.reduceAdd, Int.reduceSub, Int.reduceMul, Int.reduceLT, Int.reduceLE, Int.reduceEq, Int.reduceToNat, Nat.reduceBEq, true_and]
    refine br_if (fun hk => ?_) (fun hk => ?_)
    · have hkR : k < R := by omega
      have bk := bR k hkR
      simp (disch := first | omega | (simp only [List.length_take, List.length_drop, List.length_append, List.map_cons, List.map_nil, List.length_map, List.length_cons, List.length_nil, List.length_set, List.length_replicate]; omega) | (simp only [List.length_cons, List.length_nil, Nat.zero_add, Nat.reduceAdd])) only [go_sem, ↓reduceIte, Nat.reduceAdd, Int.reduceNeg, Int.reduceAdd, Int.reduceSub, Int.reduceMul, Int.reduceLT, Int.reduceLE, Int.reduceEq, Int.reduceToNat, Nat.reduceBEq, nm, na, ix_g, chk_g, encIt]
      refine br_if (fun h0 => ?_) (fun h0 => ?_)
      · simp (disch := first | omega | (simp only [List.length_take, List.length_drop, List.length_append, List.map_cons, List.map_nil, List.length_map, List.length_cons, List.length_nil, List.length_set, List.length_replicate]; omega) | (simp only [List.length_cons, List.length_nil, Nat.zero_add, Nat.reduceAdd])) only [go_sem, ↓reduceIte, Nat.reduceAdd, Int.reduceNeg, Int.reduceAdd, Int.reduceSub, Int.reduceMul, Int.reduceLT, Int.reduceLE, Int.reduceEq, Int.reduceToNat, Nat.reduceBEq, nat1]
        exact ⟨k + 1, rfl, ⟨by omega, by omega, fun i h1 h2 => by
          rcases Nat.lt_or_ge i k with h | h
          · exact k3 i h1 h
          · obtain rfl : i = k := by omega
            exact h0⟩, by omega⟩
      · have hn := nz_is k2 k1 k3 (.inr h0)
        simp (disch := first | omega | (simp only [List.length_take, List.length_drop, List.length_append, List.map_cons, List.map_nil, List.length_map, List.length_cons, List.length_nil, List.length_set, List.length_replicate]; omega) | (simp only [List.length_cons, List.length_nil, Nat.zero_add, Nat.reduceAdd])) only [go_sem, ↓reduceIte, Nat.reduceAdd, Int.reduceNeg, Int.reduceAdd, Int.reduceSub, Int.reduceMul, Int.reduceLT, Int.reduceLE, Int.reduceEq, Int.reduceToNat, Nat.reduceBEq, true_and]
        exact ⟨_, by rw [hn], by omega, by omega⟩
    · obtain rfl : k = R := by omega
      have hn := nz_is k2 k1 k3 (.inl rfl)
      simp (disch := first | omega | (simp only [List.length_take, List.length_drop, List.length_append, List.map_cons, List.map_nil, List.length_map, List.length_cons, List.length_nil, List.length_set, List.length_replicate]; omega) | (simp only [List.length_cons, List.length_nil, Nat.zero_add, Nat.reduceAdd])) only [go_sem, ↓reduceIte, Nat.reduceAdd, Int.reduceNeg, Int.reduceAdd, Int.reduceSub, Int.reduceMul, Int.reduceLT, Int.reduceLE, Int.reduceEq, Int.reduceToNat, Nat.reduceBEq, true_and]
      exact ⟨_, by rw [hn], by omega, by omega⟩
  rintro vs - ⟨x0, rfl, n1, n2⟩
  generalize hk0 : nz f c R r = k at *
  simp only [u_spec_l14Reduce_j6]
  simp (disch := first | omega | (simp only [List.length_take, List.length_drop, List.length_append, List.map_cons, List.map_nil, List.length_map, List.length_cons, List.length_nil, List.length_set, List.length_replicate]; omega) | (simp only [List.length_cons, List.length_nil, Nat.zero_add, Nat.reduceAdd])) only [go_sem, ↓reduceIte, Nat.reduceAdd, Int.reduceNeg, Int.reduceAdd, Int.reduceSub, Int.reduceMul, Int.reduceLT, Int.reduceLE, Int.reduceEq, Int.reduceToNat, Nat.reduceBEq, true_and]
  refine br_if (fun hk => ?_) (fun hk => ?_)
  · rw [if_pos (by omega)] at hstep
    simp (disch := first | omega | (simp only [List.length_take, List.length_drop, List.length_append, List.map_cons, List.map_nil, List.length_map, List.length_cons, List.length_nil, List.length_set, List.length_replicate]; omega) | (simp only [List.length_cons, List.length_nil, Nat.zero_add, Nat.reduceAdd])) only [go_sem, ↓reduceIte, Nat.reduceAdd, Int.reduceNeg, Int.reduceAdd, Int.reduceSub, Int.reduceMul, Int.reduceLT, Int.reduceLE, Int.reduceEq, Int.reduceToNat, Nat.reduceBEq, true_and]
    exact ⟨_, _, _, _, f, st, rfl, hstep⟩
  have hkR : k < R := by omega
  rw [if_neg (by omega)] at hstep
  have br := bR r hrR
  have bk := bR k hkR
  have fl1 : ∀ x : It, eFlat (some (.sl 33 3 [[.sc (.int .i64 x.num), .sc (.int .i64 x.den), .sc (.string x.text)]])) = some [] := fun _ => rfl
  have ap1 : ∀ (l : List It) (x : It), l.map encIt ++ [[.sc (.int .i64 x.num), .sc (.int .i64 x.den), .sc (.string x.text)]] = (l ++ [x]).map encIt := fun l x => by rw [List.map_append]; rfl
  have hap := facL_app st (c, f k c, decide (k ≠ r))
  simp (disch := first | omega | (simp only [List.length_take, List.length_drop, List.length_append, List.map_cons, List.map_nil, List.length_map, List.length_cons, List.length_nil, List.length_set, List.length_replicate]; omega) | (simp only [List.length_cons, List.length_nil, Nat.zero_add, Nat.reduceAdd])) only [go_sem, ↓reduceIte, Nat.reduceAdd, Int.reduceNeg, Int.reduceAdd, Int.reduceSub, Int.reduceMul, Int.reduceLT, Int.reduceLE, Int.reduceEq, Int.reduceToNat, Nat.reduceBEq, nm, na, ix_g, chk_g, encIt, fl1, ap1]
  refine jn_eq [.sl 33 3 ((facL (st ++ [(c, f k c, decide (k ≠ r))])).map encIt)] ?_ ?_
  · refine br_ifn (fun h => ?_) (fun h => ?_)
    · have : k = r := by omega
      simp (disch := first | omega | (simp only [List.length_take, List.length_drop, List.length_append, List.map_cons, List.map_nil, List.length_map, List.length_cons, List.length_nil, List.length_set, List.length_replicate]; omega) | (simp only [List.length_cons, List.length_nil, Nat.zero_add, Nat.reduceAdd])) only [go_sem, ↓reduceIte, Nat.reduceAdd, Int.reduceNeg, Int.reduceAdd, Int.reduceSub, Int.reduceMul, Int.reduceLT, Int.reduceLE, Int.reduceEq, Int.reduceToNat, Nat.reduceBEq, true_and]
      rw [hap]; simp [this]
    · have : k ≠ r := by omega
      simp (disch := first | omega | (simp only [List.length_take, List.length_drop, List.length_append, List.map_cons, List.map_nil, List.length_map, List.length_cons, List.length_nil, List.length_set, List.length_replicate]; omega) | (simp only [List.length_cons, List.length_nil, Nat.zero_add, Nat.reduceAdd])) only [go_sem, ↓reduceIte, Nat.reduceAdd, Int.reduceNeg, Int.reduceAdd, Int.reduceSub, Int.reduceMul, Int.reduceLT, Int.reduceLE, Int.reduceEq, Int.reduceToNat, Nat.reduceBEq, true_and]
      refine cl_ok (mL2Num (-1)) rfl ?_
      have hl2 : (facL st ++ [f k c]).length ≤ 1000 := by simp; omega
      simp (disch := first | omega | (simp only [List.length_take, List.length_drop, List.length_append, List.map_cons, List.map_nil, List.length_map, List.length_cons, List.length_nil, List.length_set, List.length_replicate]; omega) | (simp only [List.length_cons, List.length_nil, Nat.zero_add, Nat.reduceAdd])) only [go_sem, ↓reduceIte, Nat.reduceAdd, Int.reduceNeg, Int.reduceAdd, Int.reduceSub, Int.reduceMul, Int.reduceLT, Int.reduceLE, Int.reduceEq, Int.reduceToNat, Nat.reduceBEq, encIt, fl1, ap1]
      rw [hap]; simp [this]
  generalize hp : f k c = p at *
  simp only [u_spec_l14Reduce_j5]
  simp (disch := first | omega | (simp only [List.length_take, List.length_drop, List.length_append, List.map_cons, List.map_nil, List.length_map, List.length_cons, List.length_nil, List.length_set, List.length_replicate]; omega) | (simp only [List.length_cons, List.length_nil, Nat.zero_add, Nat.reduceAdd])) only [go_sem, ↓reduceIte, Nat.reduceAdd, Int.reduceNeg, Int.reduceAdd, Int.reduceSub, Int.reduceMul, Int.reduceLT, Int.reduceLE, Int.reduceEq, Int.reduceToNat, Nat.reduceBEq, true_and]
  refine lp_n W (fun j => [.sc (.int .i64 (j : Nat)), .sl 33 3 ((gridL W (sdJ r k p f j) (R * W)).map encIt)]) (by rw [sdJ_0]; rfl) fun j hj => ?_
  simp only [u_spec_l14Reduce_l4]
  simp (disch := first | omega | (simp only [List.length_take, List.length_drop, List.length_append, List.map_cons, List.map_nil, List.length_map, List.length_cons, List.length_nil, List.length_set, List.length_replicate]; omega) | (simp only [List.length_cons, List.length_nil, Nat.zero_add, Nat.reduceAdd])) only [go_sem, ↓reduceIte, Nat.reduceAdd, Int.reduceNeg, Int.reduceAdd, Int.reduceSub, Int.reduceMul, Int.reduceLT, Int.reduceLE, Int.reduceEq, Int.reduceToNat, Nat.reduceBEq, true_and]
  refine br_if (fun h => ?_) (fun h => ?_)
  · have hjW : j < W := by omega
    simp (disch := first | omega | (simp only [List.length_take, List.length_drop, List.length_append, List.map_cons, List.map_nil, List.length_map, List.length_cons, List.length_nil, List.length_set, List.length_replicate]; omega) | (simp only [List.length_cons, List.length_nil, Nat.zero_add, Nat.reduceAdd])) only [go_sem, ↓reduceIte, Nat.reduceAdd, Int.reduceNeg, Int.reduceAdd, Int.reduceSub, Int.reduceMul, Int.reduceLT, Int.reduceLE, Int.reduceEq, Int.reduceToNat, Nat.reduceBEq, nm, na, ix_g, chk_g, encIt, st_g, sdJ_at]
    refine cl_ok (mSpecDiv (f k j) p) rfl ?_
    simp (disch := first | omega | (simp only [List.length_take, List.length_drop, List.length_append, List.map_cons, List.map_nil, List.length_map, List.length_cons, List.length_nil, List.length_set, List.length_replicate]; omega) | (simp only [List.length_cons, List.length_nil, Nat.zero_add, Nat.reduceAdd])) only [go_sem, ↓reduceIte, Nat.reduceAdd, Int.reduceNeg, Int.reduceAdd, Int.reduceSub, Int.reduceMul, Int.reduceLT, Int.reduceLE, Int.reduceEq, Int.reduceToNat, Nat.reduceBEq, nm, na, ix_g, chk_g, encIt, st_g, sdJ_at, sdJ_step, nat1]
    exact hjW
  obtain rfl : W = j := by omega
  have hgf : elJ r c W (sdJ r k p f W) R 0 = stepF W R r k c f := by unfold stepF; rw [hp]
  generalize sdJ r k p f W = g at *
  simp (disch := first | omega | (simp only [List.length_take, List.length_drop, List.length_append, List.map_cons, List.map_nil, List.length_map, List.length_cons, List.length_nil, List.length_set, List.length_replicate]; omega) | (simp only [List.length_cons, List.length_nil, Nat.zero_add, Nat.reduceAdd])) only [go_sem, ↓reduceIte, Nat.reduceAdd, Int.reduceNeg, Int.reduceAdd, Int.reduceSub, Int.reduceMul, Int.reduceLT, Int.reduceLE, Int.reduceEq, Int.reduceToNat, Nat.reduceBEq, true_and]
  refine lp_n R (fun i => [.sc (.int .i64 (i : Nat)), .sl 33 3 ((gridL W (elJ r c W g i 0) (R * W)).map encIt)]) (by rw [elJ_0]; rfl) fun i hi => ?_
  simp only [u_spec_l14Reduce_l3]
  simp (disch := first | omega | (simp only [List.length_take, List.length_drop, List.length_append, List.map_cons, List.map_nil, List.length_map, List.length_cons, List.length_nil, List.length_set, List.length_replicate]; omega) | (simp only [List.length_cons, List.length_nil, Nat.zero_add, Nat.reduceAdd])) only [go_sem, ↓reduceIte, Nat.reduceAdd, Int.reduceNeg, Int.reduceAdd, Int.reduceSub, Int.reduceMul, Int.reduceLT, Int.reduceLE, Int.reduceEq, Int.reduceToNat, Nat.reduceBEq, true_and]
  refine br_if (fun h => ?_) (fun h => ?_)
  · have hiR : i < R := by omega
    have bi := bR i hiR
    simp (disch := first | omega | (simp only [List.length_take, List.length_drop, List.length_append, List.map_cons, List.map_nil, List.length_map, List.length_cons, List.length_nil, List.length_set, List.length_replicate]; omega) | (simp only [List.length_cons, List.length_nil, Nat.zero_add, Nat.reduceAdd])) only [go_sem, ↓reduceIte, Nat.reduceAdd, Int.reduceNeg, Int.reduceAdd, Int.reduceSub, Int.reduceMul, Int.reduceLT, Int.reduceLE, Int.reduceEq, Int.reduceToNat, Nat.reduceBEq, true_and]
    refine jn (fun vs => ∃ y0 y1 y3 y4 y5, vs = [y0, y1, .sl 33 3 ((gridL W (elJ r c W g (i + 1) 0) (R * W)).map encIt), y3, y4, y5]) ?_ ?_
    rotate_left
    · rintro vs - ⟨y0, y1, y3, y4, y5, rfl⟩
      simp only [u_spec_l14Reduce_j2]
      simp (disch := first | omega | (simp only [List.length_take, List.length_drop, List.length_append, List.map_cons, List.map_nil, List.length_map, List.length_cons, List.length_nil, List.length_set, List.length_replicate]; omega) | (simp only [List.length_cons, List.length_nil, Nat.zero_add, Nat.reduceAdd])) only [go_sem, ↓reduceIte, Nat.reduceAdd, Int.reduceNeg, Int.reduceAdd, Int.reduceSub, Int.reduceMul, Int.reduceLT, Int.reduceLE, Int.reduceEq, Int.reduceToNat, Nat.reduceBEq, nat1]
      exact hiR
    simp (disch := first | omega | (simp only [List.length_take, List.length_drop, List.length_append, List.map_cons, List.map_nil, List.length_map, List.length_cons, List.length_nil, List.length_set, List.length_replicate]; omega) | (simp only [List.length_cons, List.length_nil, Nat.zero_add, Nat.reduceAdd])) only [go_sem, ↓reduceIte, Nat.reduceAdd, Int.reduceNeg, Int.reduceAdd, Int.reduceSub, Int.reduceMul, Int.reduceLT, Int.reduceLE, Int.reduceEq, Int.reduceToNat, Nat.reduceBEq, nm, na, ix_g, chk_g, encIt, elJ_c hcW]
    refine lp_n W (fun j => [.sc (.int .i64 (j : Nat)), .sl 33 3 ((gridL W (elJ r c W g i j) (R * W)).map encIt)]) rfl fun j hj => ?_
    simp only [u_spec_l14Reduce_l1]
    simp (disch := first | omega | (simp only [List.length_take, List.length_drop, List.length_append, List.map_cons, List.map_nil, List.length_map, List.length_cons, List.length_nil, List.length_set, List.length_replicate]; omega) | (simp only [List.length_cons, List.length_nil, Nat.zero_add, Nat.reduceAdd])) only [go_sem, ↓reduceIte, Nat.reduceAdd, Int.reduceNeg, Int.reduceAdd, Int.reduceSub, Int.reduceMul, Int.reduceLT, Int.reduceLE, Int.reduceEq, Int.reduceToNat, Nat.reduceBEq, true_and]
    refine br_ifn (fun hir => ?_) (fun hir => ?_)
    · simp (disch := first | omega | (simp only [List.length_take, List.length_drop, List.length_append, List.map_cons, List.map_nil, List.length_map, List.length_cons, List.length_nil, List.length_set, List.length_replicate]; omega) | (simp only [List.length_cons, List.length_nil, Nat.zero_add, Nat.reduceAdd])) only [go_sem, ↓reduceIte, Nat.reduceAdd, Int.reduceNeg, Int.reduceAdd, Int.reduceSub, Int.reduceMul, Int.reduceLT, Int.reduceLE, Int.reduceEq, Int.reduceToNat, Nat.reduceBEq, elJ_skip' (g := g) (c := c) (W := W) (i := i) (j := j) (r := r) (Or.inl (by omega))]
      exact ⟨_, _, _, _, _, rfl⟩
    have hir' : i ≠ r := by omega
    simp (disch := first | omega | (simp only [List.length_take, List.length_drop, List.length_append, List.map_cons, List.map_nil, List.length_map, List.length_cons, List.length_nil, List.length_set, List.length_replicate]; omega) | (simp only [List.length_cons, List.length_nil, Nat.zero_add, Nat.reduceAdd])) only [go_sem, ↓reduceIte, Nat.reduceAdd, Int.reduceNeg, Int.reduceAdd, Int.reduceSub, Int.reduceMul, Int.reduceLT, Int.reduceLE, Int.reduceEq, Int.reduceToNat, Nat.reduceBEq, true_and]
    refine br_ifn (fun hn => ?_) (fun hn => ?_)
    · simp (disch := first | omega | (simp only [List.length_take, List.length_drop, List.length_append, List.map_cons, List.map_nil, List.length_map, List.length_cons, List.length_nil, List.length_set, List.length_replicate]; omega) | (simp only [List.length_cons, List.length_nil, Nat.zero_add, Nat.reduceAdd])) only [go_sem, ↓reduceIte, Nat.reduceAdd, Int.reduceNeg, Int.reduceAdd, Int.reduceSub, Int.reduceMul, Int.reduceLT, Int.reduceLE, Int.reduceEq, Int.reduceToNat, Nat.reduceBEq, elJ_skip' (g := g) (c := c) (W := W) (i := i) (j := j) (r := r) (Or.inr hn)]
      exact ⟨_, _, _, _, _, rfl⟩
    simp (disch := first | omega | (simp only [List.length_take, List.length_drop, List.length_append, List.map_cons, List.map_nil, List.length_map, List.length_cons, List.length_nil, List.length_set, List.length_replicate]; omega) | (simp only [List.length_cons, List.length_nil, Nat.zero_add, Nat.reduceAdd])) only [go_sem, ↓reduceIte, Nat.reduceAdd, Int.reduceNeg, Int.reduceAdd, Int.reduceSub, Int.reduceMul, Int.reduceLT, Int.reduceLE, Int.reduceEq, Int.reduceToNat, Nat.reduceBEq, true_and]
    refine br_if (fun h => ?_) (fun h => ?_)
    · have hjW : j < W := by omega
      simp (disch := first | omega | (simp only [List.length_take, List.length_drop, List.length_append, List.map_cons, List.map_nil, List.length_map, List.length_cons, List.length_nil, List.length_set, List.length_replicate]; omega) | (simp only [List.length_cons, List.length_nil, Nat.zero_add, Nat.reduceAdd])) only [go_sem, ↓reduceIte, Nat.reduceAdd, Int.reduceNeg, Int.reduceAdd, Int.reduceSub, Int.reduceMul, Int.reduceLT, Int.reduceLE, Int.reduceEq, Int.reduceToNat, Nat.reduceBEq, nm, na, ix_g, chk_g, encIt, elJ_at, elJ_r]
      refine cl_ok (mSpecMul (g i c) (g r j)) rfl ?_
      simp (disch := first | omega | (simp only [List.length_take, List.length_drop, List.length_append, List.map_cons, List.map_nil, List.length_map, List.length_cons, List.length_nil, List.length_set, List.length_replicate]; omega) | (simp only [List.length_cons, List.length_nil, Nat.zero_add, Nat.reduceAdd])) only [go_sem, ↓reduceIte, Nat.reduceAdd, Int.reduceNeg, Int.reduceAdd, Int.reduceSub, Int.reduceMul, Int.reduceLT, Int.reduceLE, Int.reduceEq, Int.reduceToNat, Nat.reduceBEq, encIt]
      refine cl_ok (mSpecSub (g i j) _) rfl ?_
      simp (disch := first | omega | (simp only [List.length_take, List.length_drop, List.length_append, List.map_cons, List.map_nil, List.length_map, List.length_cons, List.length_nil, List.length_set, List.length_replicate]; omega) | (simp only [List.length_cons, List.length_nil, Nat.zero_add, Nat.reduceAdd])) only [go_sem, ↓reduceIte, Nat.reduceAdd, Int.reduceNeg, Int.reduceAdd, Int.reduceSub, Int.reduceMul, Int.reduceLT, Int.reduceLE, Int.reduceEq, Int.reduceToNat, Nat.reduceBEq, nm, na, ix_g, chk_g, encIt, st_g, elJ_step hir' hn hjW, nat1]
      exact hjW
    · obtain rfl : W = j := by omega
      simp (disch := first | omega | (simp only [List.length_take, List.length_drop, List.length_append, List.map_cons, List.map_nil, List.length_map, List.length_cons, List.length_nil, List.length_set, List.length_replicate]; omega) | (simp only [List.length_cons, List.length_nil, Nat.zero_add, Nat.reduceAdd])) only [go_sem, ↓reduceIte, Nat.reduceAdd, Int.reduceNeg, Int.reduceAdd, Int.reduceSub, Int.reduceMul, Int.reduceLT, Int.reduceLE, Int.reduceEq, Int.reduceToNat, Nat.reduceBEq, elJ_W]
      exact ⟨_, _, _, _, _, rfl⟩
  obtain rfl : R = i := by omega
  rw [hgf]
  have hall := l14Known_m R W (gridL W (stepF W R r k c f) (R * W)) (by rw [gridL_len]; omega)
  simp only [encMt, encIts] at hall
  generalize hsf : stepF W R r k c f = sf at *
  have hpv := pivL_app st (c, p, decide (k ≠ r))
  have hst : (pivL st).map encZ ++ [[.sc (.int .i64 (c : Nat))]] = (pivL (st ++ [(c, p, decide (k ≠ r))])).map encZ := by
    rw [hpv, List.map_append]; rfl
  have hpl2 : (pivL st).length ≤ 1000 := by omega
  simp (disch := first | omega | (simp only [List.length_take, List.length_drop, List.length_append, List.map_cons, List.map_nil, List.length_map, List.length_cons, List.length_nil, List.length_set, List.length_replicate]; omega) | (simp only [List.length_cons, List.length_nil, Nat.zero_add, Nat.reduceAdd])) only [go_sem, ↓reduceIte, Nat.reduceAdd, Int.reduceNeg, Int.reduceAdd, Int.reduceSub, Int.reduceMul, Int.reduceLT, Int.reduceLE, Int.reduceEq, Int.reduceToNat, Nat.reduceBEq, fl1_z, hst]
  refine cl_ok hall rfl ?_
  simp (disch := first | omega | (simp only [List.length_take, List.length_drop, List.length_append, List.map_cons, List.map_nil, List.length_map, List.length_cons, List.length_nil, List.length_set, List.length_replicate]; omega) | (simp only [List.length_cons, List.length_nil, Nat.zero_add, Nat.reduceAdd])) only [go_sem, ↓reduceIte, Nat.reduceAdd, Int.reduceNeg, Int.reduceAdd, Int.reduceSub, Int.reduceMul, Int.reduceLT, Int.reduceLE, Int.reduceEq, Int.reduceToNat, Nat.reduceBEq, true_and]
  refine br_nb (fun ha => ?_) (fun ha => ?_)
  · rw [if_pos ha] at hstep
    simp (disch := first | omega | (simp only [List.length_take, List.length_drop, List.length_append, List.map_cons, List.map_nil, List.length_map, List.length_cons, List.length_nil, List.length_set, List.length_replicate]; omega) | (simp only [List.length_cons, List.length_nil, Nat.zero_add, Nat.reduceAdd])) only [go_sem, ↓reduceIte, Nat.reduceAdd, Int.reduceNeg, Int.reduceAdd, Int.reduceSub, Int.reduceMul, Int.reduceLT, Int.reduceLE, Int.reduceEq, Int.reduceToNat, Nat.reduceBEq, true_and]
    exact ⟨_, _, _, _, sf, _, rfl, hstep⟩
  · rw [if_neg (by simp [ha])] at hstep
    rw [redS_none hstep (by omega)]
    simp (disch := first | omega | (simp only [List.length_take, List.length_drop, List.length_append, List.map_cons, List.map_nil, List.length_map, List.length_cons, List.length_nil, List.length_set, List.length_replicate]; omega) | (simp only [List.length_cons, List.length_nil, Nat.zero_add, Nat.reduceAdd])) only [go_sem, ↓reduceIte, Nat.reduceAdd, Int.reduceNeg, Int.reduceAdd, Int.reduceSub, Int.reduceMul, Int.reduceLT, Int.reduceLE, Int.reduceEq, Int.reduceToNat, Nat.reduceBEq, true_and]
    rfl
theorem ix_st {t : Nat} {l : List Stp} {kd : IntKind} {z : Int} (h : 0 ≤ z) (h1 : z < l.length) : eIdx 5 (some (.sl t 5 (l.map encSt))) (some (.sc (.int kd z))) = some (encSt (l.getD z.toNat default)) := e_idx_map (fun _ => rfl) h h1
end Go.Proofs.Ytolkglnkdfcceaa
