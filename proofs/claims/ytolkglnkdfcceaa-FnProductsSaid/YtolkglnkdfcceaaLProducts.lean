/- The law FnProducts. -/
import Derived.Test.YtolkglnkdfcceaaULProducts
import Derived.Test.YtolkglnkdfcceaaMPre
import Derived.Test.YtolkglnkdfcceaaMul2
import Derived.Test.YtolkglnkdfcceaaRedM
namespace Go.Proofs.Ytolkglnkdfcceaa
open Go.RowKit
set_option linter.unusedVariables false
set_option linter.unusedSimpArgs false
set_option maxRecDepth 100000

theorem mulN_comm (x y : It) : mulN x y = mulN y x := by
  unfold mulN
  rw [Bool.and_comm, Int.mul_comm x.num, Int.mul_comm x.den]
theorem getD_len {α : Type} {l : List α} {j : Nat} {d : α} (h : j < l.length) : l[j]?.getD d = l[j] := by rw [List.getElem?_eq_getElem h]; rfl
theorem turn_grid {R C : Nat} {f g : Nat → Nat → It} (h : ∀ i k, i < C → k < R → g i k = f k i) : gridL R g (C * R) = turnL R C (gridL C f (R * C)) (C * R) := by
  unfold gridL turnL
  apply List.map_congr_left
  intro t ht
  rw [List.mem_range] at ht
  have hR : 0 < R := by rcases Nat.eq_zero_or_pos R with h0 | h0
                        · subst h0; omega
                        · exact h0
  have h1 : t / R < C := Nat.div_lt_of_lt_mul (by rw [Nat.mul_comm]; exact ht)
  have h2 : t % R < R := Nat.mod_lt _ hR
  have h3 : t % R * C + t / R < R * C := by
    have : (t % R + 1) * C ≤ R * C := Nat.mul_le_mul_right _ h2
    rw [Nat.succ_mul] at this; omega
  unfold turnAt
  rw [List.getD_eq_getElem?_getD, List.getElem?_map, List.getElem?_range h3]
  simp only [Option.map_some, Option.getD_some]
  rw [(grid_ix h1).1, (grid_ix h1).2, h _ _ h1 h2]
theorem cel_turn {R C : Nat} {l : List It} {i k : Nat} (hl : l.length = R * C) (hi : i < C) (hk : k < R) : cel R (turnL R C l (C * R)) i k = cel C l k i := by
  have hlt := grid_lt (R := C) (W := R) hi hk
  unfold cel turnL
  rw [List.getElem?_map, List.getElem?_range hlt]
  simp only [Option.map_some, Option.getD_some, turnAt]
  rw [(grid_ix hk).1, (grid_ix hk).2, List.getD_eq_getElem?_getD]
theorem mulS_turn {R K C : Nat} {la lb : List It} {i k : Nat} (ha : la.length = R * K) (hb : lb.length = K * C) (hi : i < C) (hk : k < R) : ∀ n, n ≤ K → mulS K R (turnL K C lb (C * K)) (turnL R K la (K * R)) i k n = mulS K C la lb k i n
  | 0, _ => rfl
  | n + 1, hn => by
    simp only [mulS]
    rw [mulS_turn ha hb hi hk n (by omega), cel_turn hb hi (by omega), cel_turn ha (by omega) hk, mulN_comm]
theorem allN_iff {l : List It} : allN l = true ↔ ∀ x ∈ l, numB x = true := by unfold allN; exact List.all_eq_true
theorem turnL_mem {R C : Nat} {l : List It} {x : It} (hl : l.length = R * C) (h : x ∈ turnL R C l (C * R)) : x ∈ l := by
  unfold turnL at h
  obtain ⟨t, ht, rfl⟩ := List.mem_map.1 h
  rw [List.mem_range] at ht
  have hR : 0 < R := by rcases Nat.eq_zero_or_pos R with h0 | h0
                        · subst h0; omega
                        · exact h0
  have h1 : t / R < C := Nat.div_lt_of_lt_mul (by rw [Nat.mul_comm]; exact ht)
  have h3 := grid_lt (R := R) (W := C) (Nat.mod_lt t hR) h1
  unfold turnAt
  rw [List.getD_eq_getElem?_getD, List.getElem?_eq_getElem (by omega)]
  exact List.getElem_mem _
theorem turn_ok {m : Mt} (h : mtB m = true) : mtB (turnM m) = true := by
  obtain ⟨h1, h2, h3, h4, h5⟩ := mtB_dims h
  have hl : m.cells.length = m.rows.toNat * m.cols.toNat := by
    have : ((m.rows.toNat * m.cols.toNat : Nat) : Int) = m.rows * m.cols := by rw [Int.natCast_mul, Int.toNat_of_nonneg h1, Int.toNat_of_nonneg h3]
    omega
  have ha : allN m.cells = true := by rw [mtB_true ⟨h1, h2, h3, h4, h5⟩] at h; exact h
  unfold turnM
  rw [if_pos h, mtB_true]
  · exact allN_iff.2 fun x hx => allN_iff.1 ha x (turnL_mem hl hx)
  · refine ⟨h3, h4, h1, h2, ?_⟩
    simp only [turnL_len]
    rw [Int.natCast_mul, Int.toNat_of_nonneg h1, Int.toNat_of_nonneg h3]
theorem mul_ok {a b : Mt} (h : mulB a b = true) : mtB (mulM a b) = true := by
  rw [mulM_true h]
  unfold mulB at h
  simp only [Bool.and_eq_true, decide_eq_true_eq] at h
  obtain ⟨⟨⟨ha, hb⟩, hc⟩, hn⟩ := h
  obtain ⟨a1, a2, a3, a4, a5⟩ := mtB_dims ha
  obtain ⟨b1, b2, b3, b4, b5⟩ := mtB_dims hb
  rw [mtB_true]
  · exact hn
  · refine ⟨a1, a2, b3, b4, ?_⟩
    simp only [mulL, gridL_len]
    rw [Int.natCast_mul, Int.toNat_of_nonneg a1, Int.toNat_of_nonneg b3]
theorem prod_turn {a b : Mt} (h : mulB a b = true) : mulB (turnM b) (turnM a) = true ∧ mulM (turnM b) (turnM a) = turnM (mulM a b) := by
  have hmo := mul_ok h
  have hm := mulM_true h
  have h0 := h
  unfold mulB at h0
  simp only [Bool.and_eq_true, decide_eq_true_eq] at h0
  obtain ⟨⟨⟨ha, hb⟩, hc⟩, hn⟩ := h0
  obtain ⟨a1, a2, a3, a4, a5⟩ := mtB_dims ha
  obtain ⟨b1, b2, b3, b4, b5⟩ := mtB_dims hb
  have ta := turn_ok ha
  have tb := turn_ok hb
  have la : a.cells.length = a.rows.toNat * a.cols.toNat := by
    have : ((a.rows.toNat * a.cols.toNat : Nat) : Int) = a.rows * a.cols := by rw [Int.natCast_mul, Int.toNat_of_nonneg a1, Int.toNat_of_nonneg a3]
    omega
  have lb : b.cells.length = b.rows.toNat * b.cols.toNat := by
    have : ((b.rows.toNat * b.cols.toNat : Nat) : Int) = b.rows * b.cols := by rw [Int.natCast_mul, Int.toNat_of_nonneg b1, Int.toNat_of_nonneg b3]
    omega
  have key : mulL (turnM b) (turnM a) (b.cols.toNat * a.rows.toNat) = turnL a.rows.toNat b.cols.toNat (mulL a b (a.rows.toNat * b.cols.toNat)) (b.cols.toNat * a.rows.toNat) := by
    unfold mulL turnM
    rw [if_pos ha, if_pos hb]
    simp only
    refine turn_grid fun i k hi hk => ?_
    rw [← hc] at lb ⊢
    exact mulS_turn la lb hi hk _ (Nat.le_refl _)
  have hal : allN (mulL (turnM b) (turnM a) (b.cols.toNat * a.rows.toNat)) = true := by
    rw [key]
    exact allN_iff.2 fun x hx => allN_iff.1 hn x (turnL_mem (by simp [mulL, gridL_len]) hx)
  have rb : (turnM b).rows = b.cols ∧ (turnM b).cols = b.rows := by unfold turnM; rw [if_pos hb]; exact ⟨rfl, rfl⟩
  have ra : (turnM a).rows = a.cols ∧ (turnM a).cols = a.rows := by unfold turnM; rw [if_pos ha]; exact ⟨rfl, rfl⟩
  have hB : mulB (turnM b) (turnM a) = true := by
    unfold mulB
    rw [ta, tb, rb.1, rb.2, ra.1, ra.2, hal, decide_eq_true hc.symm]; rfl
  refine ⟨hB, ?_⟩
  rw [mulM_true hB, rb.1, ra.2, key]
  conv => rhs; unfold turnM
  rw [if_pos hmo, hm]
set_option maxHeartbeats 4000000 in
theorem lawProducts_m (a0 : List Int) (h0 : a0.length ≤ 9223372036854775807) : Meets Try.prog 4 [(false, [encU8s a0])] [(false, [.sc (.bool true)], true)] := by
  have hb := big_m a0 h0
  by_cases hbig : 1048576 < a0.length
  · rw [decide_eq_true hbig] at hb
    refine meets_upf Try.func4 u_laws_FnProducts_g rfl ?_; simp only [u_laws_FnProducts_u]
    simp only [encU8s] at hb ⊢
    repeat' (first | (with_reducible refine jn_in ?_) | (with_reducible refine cl_ok (by assumption) rfl ?_) | (with_reducible refine cl_okP (by assumption) rfl ?_) | (with_reducible refine br_if (fun hbr => ?_) (fun hbr => ?_)) | (with_reducible refine br_ifn (fun hbr => ?_) (fun hbr => ?_)) | (with_reducible refine br_nb (fun hbr => ?_) (fun hbr => ?_)) | (with_reducible refine br_b (fun hbr => ?_) (fun hbr => ?_)) | simp (disch := first | omega | (simp only [List.length_take, List.length_drop, List.length_append, List.map_cons, List.map_nil, List.length_map, List.length_cons, List.length_nil, List.length_set, List.length_replicate]; omega) | (simp only [List.length_cons, List.length_nil, Nat.zero_add, Nat.reduceAdd])) only [go_sem, ↓reduceIte, Nat.reduceAdd, Int.reduceNeg, Int.reduceAdd, Int.reduceSub, Int.reduceMul, Int.reduceLT, Int.reduceLE, Int.reduceEq, Int.reduceToNat, Nat.reduceBEq, e_sle, e_sge, e_shl1, e_orI, e_andI, e_shr, wrapu, wrap8, tn1, nat1, ix_s, ix_z, st_s, st_z, fl_s, fl_z, fl1_s, fl1_z, map_s, map_z, true_and])
    all_goals rfl
  rw [decide_eq_false hbig] at hb
  obtain ⟨⟨a, b⟩, -, hd⟩ := drawMul_e a0 (by omega)
  simp only at hd
  have h1 := implMul_m a b
  have h2 := specMul_m a b
  have hlen : (mulM a b).cells.length ≤ 1000000 := by
    cases hB : mulB a b with
    | false => rw [mulM_false hB]; exact Nat.zero_le _
    | true =>
      obtain ⟨a1, a2, a3, a4, a5⟩ := mtB_dims (mul_ok hB)
      have := mul12 ⟨a1, a2⟩ ⟨a3, a4⟩
      omega
  have h3 := sameMts_m (mulM a b) (mulM a b) hlen
  rw [decide_eq_true rfl] at h3
  cases hB : mulB a b with
  | false =>
    rw [hB] at h1 h2
    refine meets_upf Try.func4 u_laws_FnProducts_g rfl ?_; simp only [u_laws_FnProducts_u]
    simp only [encU8s, encMt, encIts] at hb hd h1 h2 h3 ⊢
    repeat' (first | (with_reducible refine jn_in ?_) | (with_reducible refine cl_ok (by assumption) rfl ?_) | (with_reducible refine cl_okP (by assumption) rfl ?_) | (with_reducible refine br_if (fun hbr => ?_) (fun hbr => ?_)) | (with_reducible refine br_ifn (fun hbr => ?_) (fun hbr => ?_)) | (with_reducible refine br_nb (fun hbr => ?_) (fun hbr => ?_)) | (with_reducible refine br_b (fun hbr => ?_) (fun hbr => ?_)) | simp (disch := first | omega | (simp only [List.length_take, List.length_drop, List.length_append, List.map_cons, List.map_nil, List.length_map, List.length_cons, List.length_nil, List.length_set, List.length_replicate]; omega) | (simp only [List.length_cons, List.length_nil, Nat.zero_add, Nat.reduceAdd])) only [go_sem, ↓reduceIte, Nat.reduceAdd, Int.reduceNeg, Int.reduceAdd, Int.reduceSub, Int.reduceMul, Int.reduceLT, Int.reduceLE, Int.reduceEq, Int.reduceToNat, Nat.reduceBEq, e_sle, e_sge, e_shl1, e_orI, e_andI, e_shr, wrapu, wrap8, tn1, nat1, ix_s, ix_z, st_s, st_z, fl_s, fl_z, fl1_s, fl1_z, map_s, map_z, u_laws_FnProducts_j0])
    all_goals rfl
  | true =>
    rw [hB] at h1 h2
    obtain ⟨p1, p2⟩ := prod_turn hB
    have h4 := specTurn_m a
    have h5 := specTurn_m b
    have h6 := implMul_m (turnM b) (turnM a)
    have h7 := implTurn_m (mulM a b)
    rw [p1, p2] at h6
    rw [mul_ok hB] at h7
    have h8 := sameMts_m (turnM (mulM a b)) (turnM (mulM a b)) (by
      obtain ⟨a1, a2, a3, a4, a5⟩ := mtB_dims (turn_ok (mul_ok hB))
      have := mul12 ⟨a1, a2⟩ ⟨a3, a4⟩
      omega)
    rw [decide_eq_true rfl] at h8
    refine meets_upf Try.func4 u_laws_FnProducts_g rfl ?_; simp only [u_laws_FnProducts_u]
    simp only [encU8s, encMt, encIts] at hb hd h1 h2 h3 h4 h5 h6 h7 h8 ⊢
    repeat' (first | (with_reducible refine jn_in ?_) | (with_reducible refine cl_ok (by assumption) rfl ?_) | (with_reducible refine cl_okP (by assumption) rfl ?_) | (with_reducible refine br_if (fun hbr => ?_) (fun hbr => ?_)) | (with_reducible refine br_ifn (fun hbr => ?_) (fun hbr => ?_)) | (with_reducible refine br_nb (fun hbr => ?_) (fun hbr => ?_)) | (with_reducible refine br_b (fun hbr => ?_) (fun hbr => ?_)) | simp (disch := first | omega | (simp only [List.length_take, List.length_drop, List.length_append, List.map_cons, List.map_nil, List.length_map, List.length_cons, List.length_nil, List.length_set, List.length_replicate]; omega) | (simp only [List.length_cons, List.length_nil, Nat.zero_add, Nat.reduceAdd])) only [go_sem, ↓reduceIte, Nat.reduceAdd, Int.reduceNeg, Int.reduceAdd, Int.reduceSub, Int.reduceMul, Int.reduceLT, Int.reduceLE, Int.reduceEq, Int.reduceToNat, Nat.reduceBEq, e_sle, e_sge, e_shl1, e_orI, e_andI, e_shr, wrapu, wrap8, tn1, nat1, ix_s, ix_z, st_s, st_z, fl_s, fl_z, fl1_s, fl1_z, map_s, map_z, u_laws_FnProducts_j0])
    all_goals rfl
end Go.Proofs.Ytolkglnkdfcceaa
