/- Proved: for every input the law 'FnExactConstantTree' returns true and its arguments read behind the call as before: part 5 of its proof. No condition. -/
import Derived.WalkKit
import Derived.Lib.Hide
import Derived.WalkSpells
import Derived.Laws.OwnMore
import Derived.Deep.AppendLies
import Derived.Deep.Draws
import Derived.Maps.AppendAt
import Derived.RegionTactic
import Derived.OwnWalk
import Derived.Below
import Derived.Laws.AppendOwnNone
import Derived.Deep.QuietTactic
import Derived.BigQuiet
import Derived.StillTailTactics
import Derived.Laws.Cells
import Derived.Laws.IdiomCopy
import Derived.ChangeKeysEq
import Derived.Laws.BytesArg
import Derived.Laws.StructEq
import Derived.Laws.Tables
import Derived.Great.BuildSlice
import Derived.StillTail
import Derived.OrdersHeld
import Derived.Test.YtkcljmgjbjdccaaProg
import Derived.Deep.Slices
import Derived.Deep.Fields
import Derived.ChangeSame
import Derived.OpenShut
import Derived.Laws.ResultCell
import Derived.Deep.RegionWith
import Derived.Laws.IdiomStrings
import Derived.Test.YtkcljmgjbjdccaaRows
import Derived.ProofKit
import Derived.ShutString
import Derived.ChangeOld
import Derived.SizedLaws
import Derived.Test.YtkcljmgjbjdccaaExConstantTreeQ4
set_option linter.unusedVariables false
set_option linter.unusedSimpArgs false
namespace Go.Proofs.Ytkcljmgjbjdccaa
open Go.RowKit
set_option maxRecDepth 100000
def ndS (k n : Int) (s : ByteArray) : Nod := ⟨k, n, s, [], 0⟩
def cTx (k : Int) (x : It) : List Nod × Bool :=
  if k = 1 then (if x.den = 0 then [ndS 4 2 ⟨#[]⟩] else [ndS 4 x.num ⟨#[]⟩], true)
  else if x.den = 0 then ([ndS 5 (k - 2) ⟨#[]⟩], true)
  else if k = 3 then ([ndS 3 0 x.text], true)
  else if 1 < x.den then ([], false)
  else if x.num < 0 then ([ndS 2 (0 - x.num) ⟨#[]⟩, ⟨10, 0, ⟨#[45]⟩, [], 1⟩], true)
  else ([ndS 2 x.num ⟨#[]⟩], true)
def cTr (b : Bool) (k : Int) (its : List It) (nn nc nl : Nat) : List Nod × Bool :=
  if b = true then (if k = 0 then ([ndS 6 0 ⟨#[]⟩], true) else if 3 < k ∨ its.length ≠ 1 ∨ 0 < nn + nc + nl then ([], false) else cTx k (its.getD 0 default)) else ([], false)
def cT : Vec → List Nod × Bool
  | .mk k its ps ns cl lv c e => cTr (isVc (.mk k its ps ns cl lv c e)) k its ns.length cl.length lv.length
theorem cT_mk (k : Int) (its : List It) (ps : List Vec) (ns cl lv : List ByteArray) (c e : Int) : cT (.mk k its ps ns cl lv c e) = cTr (isVc (.mk k its ps ns cl lv c e)) k its ns.length cl.length lv.length := rfl
theorem isVc_facts {k c e : Int} {its : List It} {ps : List Vec} {ns cl lv : List ByteArray} (h : isVc (.mk k its ps ns cl lv c e) = true) :
    (0 ≤ k ∧ k ≤ 5) ∧ (k = 0 → ns.length = 0 ∧ cl.length = 0 ∧ lv.length = 0) ∧ (its.length = 1 → (k = 1 ∨ k = 2 ∨ k = 3) → ivB k (its.getD 0 default) = true) := by
  unfold isVc at h
  rw [vcB_mk] at h
  simp only [Bool.and_eq_true] at h
  have hs := h.1.1
  unfold shB gA gB at hs
  simp only [Bool.and_eq_true, Bool.or_eq_true, decide_eq_true_eq] at hs
  obtain ⟨⟨a1, a2, a3, a4⟩, ⟨b1, b2, b3⟩, hc⟩ := hs
  refine ⟨a1, fun hk => ?_, fun hl hk => ?_⟩
  · unfold gC at hc
    rw [if_neg (by omega), if_pos hk] at hc
    simp only [Bool.and_eq_true, decide_eq_true_eq] at hc
    obtain ⟨c1, c2⟩ := hc
    refine ⟨?_, c2, by rcases b2 with h | h <;> omega⟩
    rcases a3 with h | h
    · exact h
    · omega
  · unfold gC at hc
    rw [if_neg (by omega), if_neg (by omega), if_neg (by omega)] at hc
    have h0 := allB_iff.1 hc 0 (by omega)
    unfold itlB at h0
    simp only [Bool.and_eq_true] at h0
    exact h0.1
theorem iv_facts {k : Int} {x : It} (h : ivB k x = true) : (decide (x = it0) = decide (x.den = 0)) ∧ (k = 2 → x.den ≠ 0 → 1 ≤ x.den ∧ -999999999 ≤ x.num ∧ x.num ≤ 999999999) := by
  have hd := ivB_den h
  refine ⟨by rw [Bool.eq_iff_iff, decide_eq_true_eq, decide_eq_true_eq]; exact hd, fun hk h0 => ?_⟩
  unfold ivB at h
  have h1 : ¬ x = it0 := fun e => h0 (hd.1 e)
  rw [decide_eq_false h1, Bool.false_or, if_neg (by omega), if_pos hk] at h
  unfold numB at h
  simp only [Bool.and_eq_true, decide_eq_true_eq] at h
  omega
def CTm (fn : FuncId) : Prop := ∀ v, wtV v ≤ 1048576 → Meets Try.prog fn [(true, encV v)] [(false, [encNods (cT v).1], true), (false, [.sc (.bool (cT v).2)], true)]
set_option maxHeartbeats 4000000 in
theorem iCT_m : CTm 8 := by
  rintro ⟨k, its, ps, ns, cl, lv, c, e⟩ hw
  have h1 := iIsVec_m _ hw
  have h2 := iAtm_m (.mk k its ps ns cl lv c e) k ⟨_, _, _, _, _, _, _, rfl⟩
  obtain ⟨b1, b2, b3, b4, b5, -⟩ := bdV hw
  have hf := isVc_facts (k := k) (c := c) (e := e) (its := its) (ps := ps) (ns := ns) (cl := cl) (lv := lv)
  rw [cT_mk]
  generalize isVc (.mk k its ps ns cl lv c e) = b at *
  have h3 := iMiss_m (its.getD 0 default)
  have hix : 0 < its.length → eIdx 3 (some (.sl 54 3 (its.map encIt))) (some (.sc (.int .i64 0))) = some (encIt (its.getD 0 default)) := fun h => ix_it (by omega) (by omega)
  simp only [encV, encV_mk, encSs] at h1 h2 ⊢
  refine meets_upf Try.func8 u_impl_ConstantTree_g rfl ?_; simp only [u_impl_ConstantTree_u]
  simp only [encNods]
  cases b
  · unfold cTr
    repeat' (first | (with_reducible refine jn_in ?_) | (with_reducible refine cl_ok (by assumption) rfl ?_) | (with_reducible refine cl_okP (by assumption) rfl ?_) | (with_reducible refine br_if (fun hbr => ?_) (fun hbr => ?_)) | (with_reducible refine br_ifn (fun hbr => ?_) (fun hbr => ?_)) | (with_reducible refine br_nb (fun hbr => ?_) (fun hbr => ?_)) | (with_reducible refine br_b (fun hbr => ?_) (fun hbr => ?_)) | simp (disch := first | omega | (simp only [List.length_take, List.length_drop, List.length_append, List.map_cons, List.map_nil, List.length_map, List.length_cons, List.length_nil, List.length_set, List.length_replicate]; omega) | (simp only [List.length_cons, List.length_nil, Nat.zero_add, Nat.reduceAdd])) only [go_sem, ↓reduceIte, Nat.reduceAdd, Int.reduceNeg, Int.reduceAdd, Int.reduceSub, Int.reduceMul, Int.reduceLT, Int.reduceLE, Int.reduceEq, Int.reduceToNat, Nat.reduceBEq, e_sle, e_sge, e_shl1, e_orI, e_andI, e_shr, wrapu, wrap8, tn1, nat1, ix_s, ix_z, st_s, st_z, fl_s, fl_z, fl1_s, fl1_z, map_s, map_z, true_and])
    all_goals first | omega | rfl
  obtain ⟨f1, f2, f3⟩ := hf rfl
  unfold cTr
  rw [if_pos rfl]
  by_cases hk0 : k = 0
  · rw [if_pos hk0]
    have f2' := f2 hk0
    repeat' (first | (with_reducible refine jn_in ?_) | (with_reducible refine cl_ok (by assumption) rfl ?_) | (with_reducible refine cl_okP (by assumption) rfl ?_) | (with_reducible refine br_if (fun hbr => ?_) (fun hbr => ?_)) | (with_reducible refine br_ifn (fun hbr => ?_) (fun hbr => ?_)) | (with_reducible refine br_nb (fun hbr => ?_) (fun hbr => ?_)) | (with_reducible refine br_b (fun hbr => ?_) (fun hbr => ?_)) | simp (disch := first | omega | (simp only [List.length_take, List.length_drop, List.length_append, List.map_cons, List.map_nil, List.length_map, List.length_cons, List.length_nil, List.length_set, List.length_replicate]; omega) | (simp only [List.length_cons, List.length_nil, Nat.zero_add, Nat.reduceAdd])) only [go_sem, ↓reduceIte, Nat.reduceAdd, Int.reduceNeg, Int.reduceAdd, Int.reduceSub, Int.reduceMul, Int.reduceLT, Int.reduceLE, Int.reduceEq, Int.reduceToNat, Nat.reduceBEq, e_sle, e_sge, e_shl1, e_orI, e_andI, e_shr, wrapu, wrap8, tn1, nat1, ix_s, ix_z, st_s, st_z, fl_s, fl_z, fl1_s, fl1_z, map_s, map_z, true_and])
    all_goals first | omega | rfl
  rw [if_neg hk0]
  by_cases hbad : 3 < k ∨ its.length ≠ 1 ∨ 0 < ns.length + cl.length + lv.length
  · rw [if_pos hbad]
    by_cases h4 : 3 < k
    · have ha : atB k = false := by unfold atB; rw [decide_eq_false (by omega), decide_eq_false (by omega), decide_eq_false (by omega)]; rfl
      rw [ha] at h2
      repeat' (first | (with_reducible refine jn_in ?_) | (with_reducible refine cl_ok (by assumption) rfl ?_) | (with_reducible refine cl_okP (by assumption) rfl ?_) | (with_reducible refine br_if (fun hbr => ?_) (fun hbr => ?_)) | (with_reducible refine br_ifn (fun hbr => ?_) (fun hbr => ?_)) | (with_reducible refine br_nb (fun hbr => ?_) (fun hbr => ?_)) | (with_reducible refine br_b (fun hbr => ?_) (fun hbr => ?_)) | simp (disch := first | omega | (simp only [List.length_take, List.length_drop, List.length_append, List.map_cons, List.map_nil, List.length_map, List.length_cons, List.length_nil, List.length_set, List.length_replicate]; omega) | (simp only [List.length_cons, List.length_nil, Nat.zero_add, Nat.reduceAdd])) only [go_sem, ↓reduceIte, Nat.reduceAdd, Int.reduceNeg, Int.reduceAdd, Int.reduceSub, Int.reduceMul, Int.reduceLT, Int.reduceLE, Int.reduceEq, Int.reduceToNat, Nat.reduceBEq, e_sle, e_sge, e_shl1, e_orI, e_andI, e_shr, wrapu, wrap8, tn1, nat1, ix_s, ix_z, st_s, st_z, fl_s, fl_z, fl1_s, fl1_z, map_s, map_z, true_and])
      all_goals first | omega | rfl
    · have ha : atB k = true := by unfold atB; simp; omega
      rw [ha] at h2
      by_cases h5 : its.length = 1
      · repeat' (first | (with_reducible refine jn_in ?_) | (with_reducible refine cl_ok (by assumption) rfl ?_) | (with_reducible refine cl_okP (by assumption) rfl ?_) | (with_reducible refine br_if (fun hbr => ?_) (fun hbr => ?_)) | (with_reducible refine br_ifn (fun hbr => ?_) (fun hbr => ?_)) | (with_reducible refine br_nb (fun hbr => ?_) (fun hbr => ?_)) | (with_reducible refine br_b (fun hbr => ?_) (fun hbr => ?_)) | simp (disch := first | omega | (simp only [List.length_take, List.length_drop, List.length_append, List.map_cons, List.map_nil, List.length_map, List.length_cons, List.length_nil, List.length_set, List.length_replicate]; omega) | (simp only [List.length_cons, List.length_nil, Nat.zero_add, Nat.reduceAdd])) only [go_sem, ↓reduceIte, Nat.reduceAdd, Int.reduceNeg, Int.reduceAdd, Int.reduceSub, Int.reduceMul, Int.reduceLT, Int.reduceLE, Int.reduceEq, Int.reduceToNat, Nat.reduceBEq, e_sle, e_sge, e_shl1, e_orI, e_andI, e_shr, wrapu, wrap8, tn1, nat1, ix_s, ix_z, st_s, st_z, fl_s, fl_z, fl1_s, fl1_z, map_s, map_z, true_and])
        all_goals first | omega | rfl
      · repeat' (first | (with_reducible refine jn_in ?_) | (with_reducible refine cl_ok (by assumption) rfl ?_) | (with_reducible refine cl_okP (by assumption) rfl ?_) | (with_reducible refine br_if (fun hbr => ?_) (fun hbr => ?_)) | (with_reducible refine br_ifn (fun hbr => ?_) (fun hbr => ?_)) | (with_reducible refine br_nb (fun hbr => ?_) (fun hbr => ?_)) | (with_reducible refine br_b (fun hbr => ?_) (fun hbr => ?_)) | simp (disch := first | omega | (simp only [List.length_take, List.length_drop, List.length_append, List.map_cons, List.map_nil, List.length_map, List.length_cons, List.length_nil, List.length_set, List.length_replicate]; omega) | (simp only [List.length_cons, List.length_nil, Nat.zero_add, Nat.reduceAdd])) only [go_sem, ↓reduceIte, Nat.reduceAdd, Int.reduceNeg, Int.reduceAdd, Int.reduceSub, Int.reduceMul, Int.reduceLT, Int.reduceLE, Int.reduceEq, Int.reduceToNat, Nat.reduceBEq, e_sle, e_sge, e_shl1, e_orI, e_andI, e_shr, wrapu, wrap8, tn1, nat1, ix_s, ix_z, st_s, st_z, fl_s, fl_z, fl1_s, fl1_z, map_s, map_z, true_and])
        all_goals first | omega | rfl
  rw [if_neg hbad]
  have hix' := hix (by omega)
  have hv := f3 (by omega) (by omega)
  obtain ⟨d1, d2⟩ := iv_facts hv
  rw [d1] at h3
  have ha : atB k = true := by unfold atB; simp; omega
  rw [ha] at h2
  clear d1 hv hix hf f3
  generalize its.getD 0 default = x at *
  simp only [encIt] at h3 hix'
  by_cases hd : x.den = 0
  · rw [decide_eq_true hd] at h3
    have hk : k = 1 ∨ k = 2 ∨ k = 3 := by omega
    rcases hk with rfl | rfl | rfl
    · unfold cTx; simp only [hd, if_true]
      repeat' (first | (with_reducible refine jn_in ?_) | (with_reducible refine cl_ok (by assumption) rfl ?_) | (with_reducible refine cl_okP (by assumption) rfl ?_) | (with_reducible refine br_if (fun hbr => ?_) (fun hbr => ?_)) | (with_reducible refine br_ifn (fun hbr => ?_) (fun hbr => ?_)) | (with_reducible refine br_nb (fun hbr => ?_) (fun hbr => ?_)) | (with_reducible refine br_b (fun hbr => ?_) (fun hbr => ?_)) | simp (disch := first | omega | (simp only [List.length_take, List.length_drop, List.length_append, List.map_cons, List.map_nil, List.length_map, List.length_cons, List.length_nil, List.length_set, List.length_replicate]; omega) | (simp only [List.length_cons, List.length_nil, Nat.zero_add, Nat.reduceAdd])) only [go_sem, ↓reduceIte, Nat.reduceAdd, Int.reduceNeg, Int.reduceAdd, Int.reduceSub, Int.reduceMul, Int.reduceLT, Int.reduceLE, Int.reduceEq, Int.reduceToNat, Nat.reduceBEq, e_sle, e_sge, e_shl1, e_orI, e_andI, e_shr, wrapu, wrap8, tn1, nat1, ix_s, ix_z, st_s, st_z, fl_s, fl_z, fl1_s, fl1_z, map_s, map_z, hix', u_impl_ConstantTree_j2])
      all_goals first | omega | rfl
    · unfold cTx; simp only [hd, if_true]
      repeat' (first | (with_reducible refine jn_in ?_) | (with_reducible refine cl_ok (by assumption) rfl ?_) | (with_reducible refine cl_okP (by assumption) rfl ?_) | (with_reducible refine br_if (fun hbr => ?_) (fun hbr => ?_)) | (with_reducible refine br_ifn (fun hbr => ?_) (fun hbr => ?_)) | (with_reducible refine br_nb (fun hbr => ?_) (fun hbr => ?_)) | (with_reducible refine br_b (fun hbr => ?_) (fun hbr => ?_)) | simp (disch := first | omega | (simp only [List.length_take, List.length_drop, List.length_append, List.map_cons, List.map_nil, List.length_map, List.length_cons, List.length_nil, List.length_set, List.length_replicate]; omega) | (simp only [List.length_cons, List.length_nil, Nat.zero_add, Nat.reduceAdd])) only [go_sem, ↓reduceIte, Nat.reduceAdd, Int.reduceNeg, Int.reduceAdd, Int.reduceSub, Int.reduceMul, Int.reduceLT, Int.reduceLE, Int.reduceEq, Int.reduceToNat, Nat.reduceBEq, e_sle, e_sge, e_shl1, e_orI, e_andI, e_shr, wrapu, wrap8, tn1, nat1, ix_s, ix_z, st_s, st_z, fl_s, fl_z, fl1_s, fl1_z, map_s, map_z, hix', u_impl_ConstantTree_j2, u_impl_ConstantTree_j1])
      all_goals first | omega | rfl
    · unfold cTx; simp only [hd, if_true]
      repeat' (first | (with_reducible refine jn_in ?_) | (with_reducible refine cl_ok (by assumption) rfl ?_) | (with_reducible refine cl_okP (by assumption) rfl ?_) | (with_reducible refine br_if (fun hbr => ?_) (fun hbr => ?_)) | (with_reducible refine br_ifn (fun hbr => ?_) (fun hbr => ?_)) | (with_reducible refine br_nb (fun hbr => ?_) (fun hbr => ?_)) | (with_reducible refine br_b (fun hbr => ?_) (fun hbr => ?_)) | simp (disch := first | omega | (simp only [List.length_take, List.length_drop, List.length_append, List.map_cons, List.map_nil, List.length_map, List.length_cons, List.length_nil, List.length_set, List.length_replicate]; omega) | (simp only [List.length_cons, List.length_nil, Nat.zero_add, Nat.reduceAdd])) only [go_sem, ↓reduceIte, Nat.reduceAdd, Int.reduceNeg, Int.reduceAdd, Int.reduceSub, Int.reduceMul, Int.reduceLT, Int.reduceLE, Int.reduceEq, Int.reduceToNat, Nat.reduceBEq, e_sle, e_sge, e_shl1, e_orI, e_andI, e_shr, wrapu, wrap8, tn1, nat1, ix_s, ix_z, st_s, st_z, fl_s, fl_z, fl1_s, fl1_z, map_s, map_z, hix', u_impl_ConstantTree_j2, u_impl_ConstantTree_j1, u_impl_ConstantTree_j0])
      all_goals first | omega | rfl
  · rw [decide_eq_false hd] at h3
    have hk : k = 1 ∨ k = 2 ∨ k = 3 := by omega
    rcases hk with rfl | rfl | rfl
    · unfold cTx; simp only [hd, if_true, if_false]
      repeat' (first | (with_reducible refine jn_in ?_) | (with_reducible refine cl_ok (by assumption) rfl ?_) | (with_reducible refine cl_okP (by assumption) rfl ?_) | (with_reducible refine br_if (fun hbr => ?_) (fun hbr => ?_)) | (with_reducible refine br_ifn (fun hbr => ?_) (fun hbr => ?_)) | (with_reducible refine br_nb (fun hbr => ?_) (fun hbr => ?_)) | (with_reducible refine br_b (fun hbr => ?_) (fun hbr => ?_)) | simp (disch := first | omega | (simp only [List.length_take, List.length_drop, List.length_append, List.map_cons, List.map_nil, List.length_map, List.length_cons, List.length_nil, List.length_set, List.length_replicate]; omega) | (simp only [List.length_cons, List.length_nil, Nat.zero_add, Nat.reduceAdd])) only [go_sem, ↓reduceIte, Nat.reduceAdd, Int.reduceNeg, Int.reduceAdd, Int.reduceSub, Int.reduceMul, Int.reduceLT, Int.reduceLE, Int.reduceEq, Int.reduceToNat, Nat.reduceBEq, e_sle, e_sge, e_shl1, e_orI, e_andI, e_shr, wrapu, wrap8, tn1, nat1, ix_s, ix_z, st_s, st_z, fl_s, fl_z, fl1_s, fl1_z, map_s, map_z, hix', u_impl_ConstantTree_j2])
      all_goals first | omega | rfl
    · have d2' := d2 rfl hd
      unfold cTx; simp only [hd, if_false, if_neg (show ¬ (2 : Int) = 1 by decide), if_neg (show ¬ (2 : Int) = 3 by decide)]
      by_cases hd1 : 1 < x.den
      · rw [if_pos hd1]
        repeat' (first | (with_reducible refine jn_in ?_) | (with_reducible refine cl_ok (by assumption) rfl ?_) | (with_reducible refine cl_okP (by assumption) rfl ?_) | (with_reducible refine br_if (fun hbr => ?_) (fun hbr => ?_)) | (with_reducible refine br_ifn (fun hbr => ?_) (fun hbr => ?_)) | (with_reducible refine br_nb (fun hbr => ?_) (fun hbr => ?_)) | (with_reducible refine br_b (fun hbr => ?_) (fun hbr => ?_)) | simp (disch := first | omega | (simp only [List.length_take, List.length_drop, List.length_append, List.map_cons, List.map_nil, List.length_map, List.length_cons, List.length_nil, List.length_set, List.length_replicate]; omega) | (simp only [List.length_cons, List.length_nil, Nat.zero_add, Nat.reduceAdd])) only [go_sem, ↓reduceIte, Nat.reduceAdd, Int.reduceNeg, Int.reduceAdd, Int.reduceSub, Int.reduceMul, Int.reduceLT, Int.reduceLE, Int.reduceEq, Int.reduceToNat, Nat.reduceBEq, e_sle, e_sge, e_shl1, e_orI, e_andI, e_shr, wrapu, wrap8, tn1, nat1, ix_s, ix_z, st_s, st_z, fl_s, fl_z, fl1_s, fl1_z, map_s, map_z, hix', u_impl_ConstantTree_j2, u_impl_ConstantTree_j1, u_impl_ConstantTree_j0])
        all_goals first | omega | rfl
      · rw [if_neg hd1]
        by_cases hn : x.num < 0
        · rw [if_pos hn]
          repeat' (first | (with_reducible refine jn_in ?_) | (with_reducible refine cl_ok (by assumption) rfl ?_) | (with_reducible refine cl_okP (by assumption) rfl ?_) | (with_reducible refine br_if (fun hbr => ?_) (fun hbr => ?_)) | (with_reducible refine br_ifn (fun hbr => ?_) (fun hbr => ?_)) | (with_reducible refine br_nb (fun hbr => ?_) (fun hbr => ?_)) | (with_reducible refine br_b (fun hbr => ?_) (fun hbr => ?_)) | simp (disch := first | omega | (simp only [List.length_take, List.length_drop, List.length_append, List.map_cons, List.map_nil, List.length_map, List.length_cons, List.length_nil, List.length_set, List.length_replicate]; omega) | (simp only [List.length_cons, List.length_nil, Nat.zero_add, Nat.reduceAdd])) only [go_sem, ↓reduceIte, Nat.reduceAdd, Int.reduceNeg, Int.reduceAdd, Int.reduceSub, Int.reduceMul, Int.reduceLT, Int.reduceLE, Int.reduceEq, Int.reduceToNat, Nat.reduceBEq, e_sle, e_sge, e_shl1, e_orI, e_andI, e_shr, wrapu, wrap8, tn1, nat1, ix_s, ix_z, st_s, st_z, fl_s, fl_z, fl1_s, fl1_z, map_s, map_z, hix', u_impl_ConstantTree_j2, u_impl_ConstantTree_j1, u_impl_ConstantTree_j0])
          all_goals first | omega | rfl
        · rw [if_neg hn]
          repeat' (first | (with_reducible refine jn_in ?_) | (with_reducible refine cl_ok (by assumption) rfl ?_) | (with_reducible refine cl_okP (by assumption) rfl ?_) | (with_reducible refine br_if (fun hbr => ?_) (fun hbr => ?_)) | (with_reducible refine br_ifn (fun hbr => ?_) (fun hbr => ?_)) | (with_reducible refine br_nb (fun hbr => ?_) (fun hbr => ?_)) | (with_reducible refine br_b (fun hbr => ?_) (fun hbr => ?_)) | simp (disch := first | omega | (simp only [List.length_take, List.length_drop, List.length_append, List.map_cons, List.map_nil, List.length_map, List.length_cons, List.length_nil, List.length_set, List.length_replicate]; omega) | (simp only [List.length_cons, List.length_nil, Nat.zero_add, Nat.reduceAdd])) only [go_sem, ↓reduceIte, Nat.reduceAdd, Int.reduceNeg, Int.reduceAdd, Int.reduceSub, Int.reduceMul, Int.reduceLT, Int.reduceLE, Int.reduceEq, Int.reduceToNat, Nat.reduceBEq, e_sle, e_sge, e_shl1, e_orI, e_andI, e_shr, wrapu, wrap8, tn1, nat1, ix_s, ix_z, st_s, st_z, fl_s, fl_z, fl1_s, fl1_z, map_s, map_z, hix', u_impl_ConstantTree_j2, u_impl_ConstantTree_j1, u_impl_ConstantTree_j0])
          all_goals first | omega | rfl
    · unfold cTx; simp only [hd, if_true, if_false, if_neg (show ¬ (3 : Int) = 1 by decide)]
      repeat' (first | (with_reducible refine jn_in ?_) | (with_reducible refine cl_ok (by assumption) rfl ?_) | (with_reducible refine cl_okP (by assumption) rfl ?_) | (with_reducible refine br_if (fun hbr => ?_) (fun hbr => ?_)) | (with_reducible refine br_ifn (fun hbr => ?_) (fun hbr => ?_)) | (with_reducible refine br_nb (fun hbr => ?_) (fun hbr => ?_)) | (with_reducible refine br_b (fun hbr => ?_) (fun hbr => ?_)) | simp (disch := first | omega | (simp only [List.length_take, List.length_drop, List.length_append, List.map_cons, List.map_nil, List.length_map, List.length_cons, List.length_nil, List.length_set, List.length_replicate]; omega) | (simp only [List.length_cons, List.length_nil, Nat.zero_add, Nat.reduceAdd])) only [go_sem, ↓reduceIte, Nat.reduceAdd, Int.reduceNeg, Int.reduceAdd, Int.reduceSub, Int.reduceMul, Int.reduceLT, Int.reduceLE, Int.reduceEq, Int.reduceToNat, Nat.reduceBEq, e_sle, e_sge, e_shl1, e_orI, e_andI, e_shr, wrapu, wrap8, tn1, nat1, ix_s, ix_z, st_s, st_z, fl_s, fl_z, fl1_s, fl1_z, map_s, map_z, hix', u_impl_ConstantTree_j2, u_impl_ConstantTree_j1, u_impl_ConstantTree_j0])
      all_goals first | omega | rfl
set_option maxHeartbeats 4000000 in
theorem sCT_m : CTm 6 := by
  rintro ⟨k, its, ps, ns, cl, lv, c, e⟩ hw
  have h1 := sIsVec_m _ hw
  obtain ⟨b1, b2, b3, b4, b5, -⟩ := bdV hw
  have hf := isVc_facts (k := k) (c := c) (e := e) (its := its) (ps := ps) (ns := ns) (cl := cl) (lv := lv)
  rw [cT_mk]
  generalize isVc (.mk k its ps ns cl lv c e) = b at *
  have hix : 0 < its.length → eIdx 3 (some (.sl 54 3 (its.map encIt))) (some (.sc (.int .i64 0))) = some (encIt (its.getD 0 default)) := fun h => ix_it (by omega) (by omega)
  simp only [encV, encV_mk, encSs] at h1 ⊢
  refine meets_upf Try.func6 u_spec_ConstantTree_g rfl ?_; simp only [u_spec_ConstantTree_u]
  simp only [encNods]
  cases b
  · unfold cTr
    repeat' (first | (with_reducible refine jn_in ?_) | (with_reducible refine cl_ok (by assumption) rfl ?_) | (with_reducible refine cl_okP (by assumption) rfl ?_) | (with_reducible refine br_if (fun hbr => ?_) (fun hbr => ?_)) | (with_reducible refine br_ifn (fun hbr => ?_) (fun hbr => ?_)) | (with_reducible refine br_nb (fun hbr => ?_) (fun hbr => ?_)) | (with_reducible refine br_b (fun hbr => ?_) (fun hbr => ?_)) | simp (disch := first | omega | (simp only [List.length_take, List.length_drop, List.length_append, List.map_cons, List.map_nil, List.length_map, List.length_cons, List.length_nil, List.length_set, List.length_replicate]; omega) | (simp only [List.length_cons, List.length_nil, Nat.zero_add, Nat.reduceAdd])) only [go_sem, ↓reduceIte, Nat.reduceAdd, Int.reduceNeg, Int.reduceAdd, Int.reduceSub, Int.reduceMul, Int.reduceLT, Int.reduceLE, Int.reduceEq, Int.reduceToNat, Nat.reduceBEq, e_sle, e_sge, e_shl1, e_orI, e_andI, e_shr, wrapu, wrap8, tn1, nat1, ix_s, ix_z, st_s, st_z, fl_s, fl_z, fl1_s, fl1_z, map_s, map_z, u_spec_ConstantTree_j1, u_spec_ConstantTree_j0])
    all_goals first | omega | rfl
  obtain ⟨f1, f2, f3⟩ := hf rfl
  unfold cTr
  rw [if_pos rfl]
  by_cases hk0 : k = 0
  · rw [if_pos hk0]
    have f2' := f2 hk0
    repeat' (first | (with_reducible refine jn_in ?_) | (with_reducible refine cl_ok (by assumption) rfl ?_) | (with_reducible refine cl_okP (by assumption) rfl ?_) | (with_reducible refine br_if (fun hbr => ?_) (fun hbr => ?_)) | (with_reducible refine br_ifn (fun hbr => ?_) (fun hbr => ?_)) | (with_reducible refine br_nb (fun hbr => ?_) (fun hbr => ?_)) | (with_reducible refine br_b (fun hbr => ?_) (fun hbr => ?_)) | simp (disch := first | omega | (simp only [List.length_take, List.length_drop, List.length_append, List.map_cons, List.map_nil, List.length_map, List.length_cons, List.length_nil, List.length_set, List.length_replicate]; omega) | (simp only [List.length_cons, List.length_nil, Nat.zero_add, Nat.reduceAdd])) only [go_sem, ↓reduceIte, Nat.reduceAdd, Int.reduceNeg, Int.reduceAdd, Int.reduceSub, Int.reduceMul, Int.reduceLT, Int.reduceLE, Int.reduceEq, Int.reduceToNat, Nat.reduceBEq, e_sle, e_sge, e_shl1, e_orI, e_andI, e_shr, wrapu, wrap8, tn1, nat1, ix_s, ix_z, st_s, st_z, fl_s, fl_z, fl1_s, fl1_z, map_s, map_z, u_spec_ConstantTree_j1, u_spec_ConstantTree_j0])
    all_goals first | omega | rfl
  rw [if_neg hk0]
  by_cases hbad : 3 < k ∨ its.length ≠ 1 ∨ 0 < ns.length + cl.length + lv.length
  · rw [if_pos hbad]
    by_cases h4 : 3 < k
    · have ha : atB k = false := by unfold atB; rw [decide_eq_false (by omega), decide_eq_false (by omega), decide_eq_false (by omega)]; rfl
      repeat' (first | (with_reducible refine jn_in ?_) | (with_reducible refine cl_ok (by assumption) rfl ?_) | (with_reducible refine cl_okP (by assumption) rfl ?_) | (with_reducible refine br_if (fun hbr => ?_) (fun hbr => ?_)) | (with_reducible refine br_ifn (fun hbr => ?_) (fun hbr => ?_)) | (with_reducible refine br_nb (fun hbr => ?_) (fun hbr => ?_)) | (with_reducible refine br_b (fun hbr => ?_) (fun hbr => ?_)) | simp (disch := first | omega | (simp only [List.length_take, List.length_drop, List.length_append, List.map_cons, List.map_nil, List.length_map, List.length_cons, List.length_nil, List.length_set, List.length_replicate]; omega) | (simp only [List.length_cons, List.length_nil, Nat.zero_add, Nat.reduceAdd])) only [go_sem, ↓reduceIte, Nat.reduceAdd, Int.reduceNeg, Int.reduceAdd, Int.reduceSub, Int.reduceMul, Int.reduceLT, Int.reduceLE, Int.reduceEq, Int.reduceToNat, Nat.reduceBEq, e_sle, e_sge, e_shl1, e_orI, e_andI, e_shr, wrapu, wrap8, tn1, nat1, ix_s, ix_z, st_s, st_z, fl_s, fl_z, fl1_s, fl1_z, map_s, map_z, u_spec_ConstantTree_j1, u_spec_ConstantTree_j0])
      all_goals first | omega | rfl
    · have ha : atB k = true := by unfold atB; simp; omega
      by_cases h5 : its.length = 1
      · repeat' (first | (with_reducible refine jn_in ?_) | (with_reducible refine cl_ok (by assumption) rfl ?_) | (with_reducible refine cl_okP (by assumption) rfl ?_) | (with_reducible refine br_if (fun hbr => ?_) (fun hbr => ?_)) | (with_reducible refine br_ifn (fun hbr => ?_) (fun hbr => ?_)) | (with_reducible refine br_nb (fun hbr => ?_) (fun hbr => ?_)) | (with_reducible refine br_b (fun hbr => ?_) (fun hbr => ?_)) | simp (disch := first | omega | (simp only [List.length_take, List.length_drop, List.length_append, List.map_cons, List.map_nil, List.length_map, List.length_cons, List.length_nil, List.length_set, List.length_replicate]; omega) | (simp only [List.length_cons, List.length_nil, Nat.zero_add, Nat.reduceAdd])) only [go_sem, ↓reduceIte, Nat.reduceAdd, Int.reduceNeg, Int.reduceAdd, Int.reduceSub, Int.reduceMul, Int.reduceLT, Int.reduceLE, Int.reduceEq, Int.reduceToNat, Nat.reduceBEq, e_sle, e_sge, e_shl1, e_orI, e_andI, e_shr, wrapu, wrap8, tn1, nat1, ix_s, ix_z, st_s, st_z, fl_s, fl_z, fl1_s, fl1_z, map_s, map_z, u_spec_ConstantTree_j1, u_spec_ConstantTree_j0])
        all_goals first | omega | rfl
      · repeat' (first | (with_reducible refine jn_in ?_) | (with_reducible refine cl_ok (by assumption) rfl ?_) | (with_reducible refine cl_okP (by assumption) rfl ?_) | (with_reducible refine br_if (fun hbr => ?_) (fun hbr => ?_)) | (with_reducible refine br_ifn (fun hbr => ?_) (fun hbr => ?_)) | (with_reducible refine br_nb (fun hbr => ?_) (fun hbr => ?_)) | (with_reducible refine br_b (fun hbr => ?_) (fun hbr => ?_)) | simp (disch := first | omega | (simp only [List.length_take, List.length_drop, List.length_append, List.map_cons, List.map_nil, List.length_map, List.length_cons, List.length_nil, List.length_set, List.length_replicate]; omega) | (simp only [List.length_cons, List.length_nil, Nat.zero_add, Nat.reduceAdd])) only [go_sem, ↓reduceIte, Nat.reduceAdd, Int.reduceNeg, Int.reduceAdd, Int.reduceSub, Int.reduceMul, Int.reduceLT, Int.reduceLE, Int.reduceEq, Int.reduceToNat, Nat.reduceBEq, e_sle, e_sge, e_shl1, e_orI, e_andI, e_shr, wrapu, wrap8, tn1, nat1, ix_s, ix_z, st_s, st_z, fl_s, fl_z, fl1_s, fl1_z, map_s, map_z, u_spec_ConstantTree_j1, u_spec_ConstantTree_j0])
        all_goals first | omega | rfl
  rw [if_neg hbad]
  have hix' := hix (by omega)
  have hv := f3 (by omega) (by omega)
  obtain ⟨d1, d2⟩ := iv_facts hv
  clear d1 hv hix hf f3
  generalize its.getD 0 default = x at *
  simp only [encIt] at hix'
  by_cases hd : x.den = 0
  · have hk : k = 1 ∨ k = 2 ∨ k = 3 := by omega
    rcases hk with rfl | rfl | rfl
    · unfold cTx; simp only [hd, if_true]
      repeat' (first | (with_reducible refine jn_in ?_) | (with_reducible refine cl_ok (by assumption) rfl ?_) | (with_reducible refine cl_okP (by assumption) rfl ?_) | (with_reducible refine br_if (fun hbr => ?_) (fun hbr => ?_)) | (with_reducible refine br_ifn (fun hbr => ?_) (fun hbr => ?_)) | (with_reducible refine br_nb (fun hbr => ?_) (fun hbr => ?_)) | (with_reducible refine br_b (fun hbr => ?_) (fun hbr => ?_)) | simp (disch := first | omega | (simp only [List.length_take, List.length_drop, List.length_append, List.map_cons, List.map_nil, List.length_map, List.length_cons, List.length_nil, List.length_set, List.length_replicate]; omega) | (simp only [List.length_cons, List.length_nil, Nat.zero_add, Nat.reduceAdd])) only [go_sem, ↓reduceIte, Nat.reduceAdd, Int.reduceNeg, Int.reduceAdd, Int.reduceSub, Int.reduceMul, Int.reduceLT, Int.reduceLE, Int.reduceEq, Int.reduceToNat, Nat.reduceBEq, e_sle, e_sge, e_shl1, e_orI, e_andI, e_shr, wrapu, wrap8, tn1, nat1, ix_s, ix_z, st_s, st_z, fl_s, fl_z, fl1_s, fl1_z, map_s, map_z, hix', u_spec_ConstantTree_j1, u_spec_ConstantTree_j0])
      all_goals first | omega | rfl
    · unfold cTx; simp only [hd, if_true]
      repeat' (first | (with_reducible refine jn_in ?_) | (with_reducible refine cl_ok (by assumption) rfl ?_) | (with_reducible refine cl_okP (by assumption) rfl ?_) | (with_reducible refine br_if (fun hbr => ?_) (fun hbr => ?_)) | (with_reducible refine br_ifn (fun hbr => ?_) (fun hbr => ?_)) | (with_reducible refine br_nb (fun hbr => ?_) (fun hbr => ?_)) | (with_reducible refine br_b (fun hbr => ?_) (fun hbr => ?_)) | simp (disch := first | omega | (simp only [List.length_take, List.length_drop, List.length_append, List.map_cons, List.map_nil, List.length_map, List.length_cons, List.length_nil, List.length_set, List.length_replicate]; omega) | (simp only [List.length_cons, List.length_nil, Nat.zero_add, Nat.reduceAdd])) only [go_sem, ↓reduceIte, Nat.reduceAdd, Int.reduceNeg, Int.reduceAdd, Int.reduceSub, Int.reduceMul, Int.reduceLT, Int.reduceLE, Int.reduceEq, Int.reduceToNat, Nat.reduceBEq, e_sle, e_sge, e_shl1, e_orI, e_andI, e_shr, wrapu, wrap8, tn1, nat1, ix_s, ix_z, st_s, st_z, fl_s, fl_z, fl1_s, fl1_z, map_s, map_z, hix', u_spec_ConstantTree_j1, u_spec_ConstantTree_j0])
      all_goals first | omega | rfl
    · unfold cTx; simp only [hd, if_true]
      repeat' (first | (with_reducible refine jn_in ?_) | (with_reducible refine cl_ok (by assumption) rfl ?_) | (with_reducible refine cl_okP (by assumption) rfl ?_) | (with_reducible refine br_if (fun hbr => ?_) (fun hbr => ?_)) | (with_reducible refine br_ifn (fun hbr => ?_) (fun hbr => ?_)) | (with_reducible refine br_nb (fun hbr => ?_) (fun hbr => ?_)) | (with_reducible refine br_b (fun hbr => ?_) (fun hbr => ?_)) | simp (disch := first | omega | (simp only [List.length_take, List.length_drop, List.length_append, List.map_cons, List.map_nil, List.length_map, List.length_cons, List.length_nil, List.length_set, List.length_replicate]; omega) | (simp only [List.length_cons, List.length_nil, Nat.zero_add, Nat.reduceAdd])) only [go_sem, ↓reduceIte, Nat.reduceAdd, Int.reduceNeg, Int.reduceAdd, Int.reduceSub, Int.reduceMul, Int.reduceLT, Int.reduceLE, Int.reduceEq, Int.reduceToNat, Nat.reduceBEq, e_sle, e_sge, e_shl1, e_orI, e_andI, e_shr, wrapu, wrap8, tn1, nat1, ix_s, ix_z, st_s, st_z, fl_s, fl_z, fl1_s, fl1_z, map_s, map_z, hix', u_spec_ConstantTree_j1, u_spec_ConstantTree_j0])
      all_goals first | omega | rfl
  · have hk : k = 1 ∨ k = 2 ∨ k = 3 := by omega
    rcases hk with rfl | rfl | rfl
    · unfold cTx; simp only [hd, if_true, if_false]
      repeat' (first | (with_reducible refine jn_in ?_) | (with_reducible refine cl_ok (by assumption) rfl ?_) | (with_reducible refine cl_okP (by assumption) rfl ?_) | (with_reducible refine br_if (fun hbr => ?_) (fun hbr => ?_)) | (with_reducible refine br_ifn (fun hbr => ?_) (fun hbr => ?_)) | (with_reducible refine br_nb (fun hbr => ?_) (fun hbr => ?_)) | (with_reducible refine br_b (fun hbr => ?_) (fun hbr => ?_)) | simp (disch := first | omega | (simp only [List.length_take, List.length_drop, List.length_append, List.map_cons, List.map_nil, List.length_map, List.length_cons, List.length_nil, List.length_set, List.length_replicate]; omega) | (simp only [List.length_cons, List.length_nil, Nat.zero_add, Nat.reduceAdd])) only [go_sem, ↓reduceIte, Nat.reduceAdd, Int.reduceNeg, Int.reduceAdd, Int.reduceSub, Int.reduceMul, Int.reduceLT, Int.reduceLE, Int.reduceEq, Int.reduceToNat, Nat.reduceBEq, e_sle, e_sge, e_shl1, e_orI, e_andI, e_shr, wrapu, wrap8, tn1, nat1, ix_s, ix_z, st_s, st_z, fl_s, fl_z, fl1_s, fl1_z, map_s, map_z, hix', u_spec_ConstantTree_j1, u_spec_ConstantTree_j0])
      all_goals first | omega | rfl
    · have d2' := d2 rfl hd
      unfold cTx; simp only [hd, if_false, if_neg (show ¬ (2 : Int) = 1 by decide), if_neg (show ¬ (2 : Int) = 3 by decide)]
      by_cases hd1 : 1 < x.den
      · rw [if_pos hd1]
        repeat' (first | (with_reducible refine jn_in ?_) | (with_reducible refine cl_ok (by assumption) rfl ?_) | (with_reducible refine cl_okP (by assumption) rfl ?_) | (with_reducible refine br_if (fun hbr => ?_) (fun hbr => ?_)) | (with_reducible refine br_ifn (fun hbr => ?_) (fun hbr => ?_)) | (with_reducible refine br_nb (fun hbr => ?_) (fun hbr => ?_)) | (with_reducible refine br_b (fun hbr => ?_) (fun hbr => ?_)) | simp (disch := first | omega | (simp only [List.length_take, List.length_drop, List.length_append, List.map_cons, List.map_nil, List.length_map, List.length_cons, List.length_nil, List.length_set, List.length_replicate]; omega) | (simp only [List.length_cons, List.length_nil, Nat.zero_add, Nat.reduceAdd])) only [go_sem, ↓reduceIte, Nat.reduceAdd, Int.reduceNeg, Int.reduceAdd, Int.reduceSub, Int.reduceMul, Int.reduceLT, Int.reduceLE, Int.reduceEq, Int.reduceToNat, Nat.reduceBEq, e_sle, e_sge, e_shl1, e_orI, e_andI, e_shr, wrapu, wrap8, tn1, nat1, ix_s, ix_z, st_s, st_z, fl_s, fl_z, fl1_s, fl1_z, map_s, map_z, hix', u_spec_ConstantTree_j1, u_spec_ConstantTree_j0])
        all_goals first | omega | rfl
      · rw [if_neg hd1]
        by_cases hn : x.num < 0
        · rw [if_pos hn]
          repeat' (first | (with_reducible refine jn_in ?_) | (with_reducible refine cl_ok (by assumption) rfl ?_) | (with_reducible refine cl_okP (by assumption) rfl ?_) | (with_reducible refine br_if (fun hbr => ?_) (fun hbr => ?_)) | (with_reducible refine br_ifn (fun hbr => ?_) (fun hbr => ?_)) | (with_reducible refine br_nb (fun hbr => ?_) (fun hbr => ?_)) | (with_reducible refine br_b (fun hbr => ?_) (fun hbr => ?_)) | simp (disch := first | omega | (simp only [List.length_take, List.length_drop, List.length_append, List.map_cons, List.map_nil, List.length_map, List.length_cons, List.length_nil, List.length_set, List.length_replicate]; omega) | (simp only [List.length_cons, List.length_nil, Nat.zero_add, Nat.reduceAdd])) only [go_sem, ↓reduceIte, Nat.reduceAdd, Int.reduceNeg, Int.reduceAdd, Int.reduceSub, Int.reduceMul, Int.reduceLT, Int.reduceLE, Int.reduceEq, Int.reduceToNat, Nat.reduceBEq, e_sle, e_sge, e_shl1, e_orI, e_andI, e_shr, wrapu, wrap8, tn1, nat1, ix_s, ix_z, st_s, st_z, fl_s, fl_z, fl1_s, fl1_z, map_s, map_z, hix', u_spec_ConstantTree_j1, u_spec_ConstantTree_j0])
          all_goals first | omega | rfl
        · rw [if_neg hn]
          repeat' (first | (with_reducible refine jn_in ?_) | (with_reducible refine cl_ok (by assumption) rfl ?_) | (with_reducible refine cl_okP (by assumption) rfl ?_) | (with_reducible refine br_if (fun hbr => ?_) (fun hbr => ?_)) | (with_reducible refine br_ifn (fun hbr => ?_) (fun hbr => ?_)) | (with_reducible refine br_nb (fun hbr => ?_) (fun hbr => ?_)) | (with_reducible refine br_b (fun hbr => ?_) (fun hbr => ?_)) | simp (disch := first | omega | (simp only [List.length_take, List.length_drop, List.length_append, List.map_cons, List.map_nil, List.length_map, List.length_cons, List.length_nil, List.length_set, List.length_replicate]; omega) | (simp only [List.length_cons, List.length_nil, Nat.zero_add, Nat.reduceAdd])) only [go_sem, ↓reduceIte, Nat.reduceAdd, Int.reduceNeg, Int.reduceAdd, Int.reduceSub, Int.reduceMul, Int.reduceLT, Int.reduceLE, Int.reduceEq, Int.reduceToNat, Nat.reduceBEq, e_sle, e_sge, e_shl1, e_orI, e_andI, e_shr, wrapu, wrap8, tn1, nat1, ix_s, ix_z, st_s, st_z, fl_s, fl_z, fl1_s, fl1_z, map_s, map_z, hix', u_spec_ConstantTree_j1, u_spec_ConstantTree_j0])
          all_goals first | omega | rfl
    · unfold cTx; simp only [hd, if_true, if_false, if_neg (show ¬ (3 : Int) = 1 by decide)]
      repeat' (first | (with_reducible refine jn_in ?_) | (with_reducible refine cl_ok (by assumption) rfl ?_) | (with_reducible refine cl_okP (by assumption) rfl ?_) | (with_reducible refine br_if (fun hbr => ?_) (fun hbr => ?_)) | (with_reducible refine br_ifn (fun hbr => ?_) (fun hbr => ?_)) | (with_reducible refine br_nb (fun hbr => ?_) (fun hbr => ?_)) | (with_reducible refine br_b (fun hbr => ?_) (fun hbr => ?_)) | simp (disch := first | omega | (simp only [List.length_take, List.length_drop, List.length_append, List.map_cons, List.map_nil, List.length_map, List.length_cons, List.length_nil, List.length_set, List.length_replicate]; omega) | (simp only [List.length_cons, List.length_nil, Nat.zero_add, Nat.reduceAdd])) only [go_sem, ↓reduceIte, Nat.reduceAdd, Int.reduceNeg, Int.reduceAdd, Int.reduceSub, Int.reduceMul, Int.reduceLT, Int.reduceLE, Int.reduceEq, Int.reduceToNat, Nat.reduceBEq, e_sle, e_sge, e_shl1, e_orI, e_andI, e_shr, wrapu, wrap8, tn1, nat1, ix_s, ix_z, st_s, st_z, fl_s, fl_z, fl1_s, fl1_z, map_s, map_z, hix', u_spec_ConstantTree_j1, u_spec_ConstantTree_j0])
      all_goals first | omega | rfl
end Go.Proofs.Ytkcljmgjbjdccaa

namespace Go.Proofs.Ytkcljmgjbjdccaa
open Go.RowKit Go.ChangeShapes Go.WideShapes Go.Deep
set_option maxRecDepth 100000
theorem encIts_scs (l : List It) : (l.map encIt).flatten = scs (itFlat l) := by
  induction l with
  | nil => rfl
  | cons x l ih => rw [List.map_cons, List.flatten_cons, ih]; simp [itFlat, scs, encIt, itCells]
theorem own_its {w : World} {base : Nat} {v : Value} {l : List It} {f : List Nat} (h : OwnL w base [v] [encIts l] f) : w.ownsRow base 54 3 v l.length (itFlat l) ∧ f = v.ownBlock.toList := by
  cases h with
  | @sl _ _ _ _ cells g vs ds f' h1 h2 h3 h4 h5 h6 =>
    cases h5
    have hg := own_flat_nil h4 (encIts_flat l)
    subst hg
    have hc := h4.rep
    rw [encIts_scs] at hc
    have := rep_scs hc
    subst this
    rw [List.length_map] at h1
    exact ⟨h1, by simp⟩
theorem its_own {w : World} {base : Nat} {v : Value} {l : List It} (h : w.ownsRow base 54 3 v l.length (itFlat l)) : OwnL w base [v] [encIts l] v.ownBlock.toList := by
  have hf : OwnL w base (itFlat l) (l.map encIt).flatten [] := by
    rw [encIts_scs]
    refine own_scs fun u hu => ?_
    obtain ⟨x, _, hx⟩ := List.mem_flatMap.1 hu
    simp [itCells] at hx
    rcases hx with rfl | rfl | rfl <;> trivial
  have := OwnL.sl (t := 54) (k := 3) (es := l.map encIt) (vs := []) (ds := []) (f := []) (by rw [List.length_map]; exact h) (by decide) (by simp [encIt]) hf .nil (by cases v.ownBlock <;> simp)
  simpa [encIts] using this
theorem markItemS_k (l : List It) (k0 : Nat) (h0 : 0 < k0) (h1 : k0 + 3 * l.length ≤ 4611686018427387904) : Marks Try.prog 33 false [encIts l] k0 [encIts (marksIt k0 l.length)] ((k0 + 3 * l.length : Nat) : Int) := by
  refine ⟨by kernel_rfl, fun w base v vals fs hv ho hnd => ?_⟩
  have hv : vals = [v] := hv
  subst hv
  obtain ⟨_, _, f, _, e, rfl, o0, ho⟩ := ownP_cons ho
  injection e with e1 e2
  subst e1 e2
  obtain ⟨-, rfl⟩ := ownP_nil ho
  obtain ⟨h2, rfl⟩ := own_its o0
  obtain ⟨A, c, rfl, -, -⟩ := own_shape h2
  refine (markItemS_any A l.length c base k0 l w h2 rfl h0 h1).mono ?_
  rintro e w' ⟨rfl, h3, h4⟩
  exact ⟨rfl, ⟨its_own (by rw [marksIt_len]; exact h3), trivial⟩, wrote_grown h4⟩
end Go.Proofs.Ytkcljmgjbjdccaa

namespace Go.Proofs.Ytkcljmgjbjdccaa
open Go.RowKit
set_option maxRecDepth 100000
def u_laws_heldNodeS_h : List Hint := [⟨3000002, 2, ⟨[(5, .p false [.d 4]), (4, .p false [.d 2]), (0, .p false [.d 0]), (1, .p false [.d 5])], [], 0, 0, 6, []⟩, []⟩]
def u_laws_heldNodeS_d : List (Nat × Nat × Bool × List Nat) := [(10, 8, false, [])]
def u_laws_heldNodeS_l0 : UP := .po (.lenL 5) <| .po (.bin .lss false 2 0) <| .ite 0 (.po (.isI 3) <| .po (.idx 5 7 3) <| .po (.bin .neq false 4 7) <| .ite 0 (.po (.k (.int .i64 (-1))) <| .po (.sc 0) <| .ret [(false, [0])]) <| .po (.k (.int .i64 1)) <| .po (.bin .add false 9 0) <| .po (.isI 11) <| .po (.idx 5 15 11) <| .po (.bin .neq false 3 5) <| .ite 0 (.po (.k (.int .i64 (-1))) <| .po (.sc 0) <| .ret [(false, [0])]) <| .po (.k (.int .i64 1)) <| .po (.bin .add false 7 0) <| .po (.isI 19) <| .po (.idx 5 23 19) <| .po (.sc 2) <| .sel [2, 5, 24, 28] <| .cl 36 [(false, [1])] [(false, [none], true)] <| .po (.bin .neq false 1 0) <| .po (.sc 0) <| .ite 0 (.po (.k (.int .i64 (-1))) <| .po (.sc 0) <| .ret [(false, [0])]) <| .po (.k (.int .i64 1)) <| .po (.bin .add false 4 0) <| .po (.isI 6) <| .po (.idx 5 7 6) <| .sel [1, 5, 11, 12] <| .cl 37 [(false, [0]), (false, [1])] [(false, [none], true)] <| .po (.k (.int .i64 0)) <| .po (.bin .lss false 1 0) <| .ite 0 (.po (.k (.int .i64 (-1))) <| .po (.sc 0) <| .ret [(false, [0])]) <| .po (.isI 5) <| .po (.idx 5 6 5) <| .po (.bin .neq false 0 7) <| .ite 0 (.po (.k (.int .i64 (-1))) <| .po (.sc 0) <| .ret [(false, [0])]) <| .po (.k (.int .i64 1)) <| .po (.bin .add false 9 0) <| .po (.k (.int .i64 1)) <| .po (.bin .add false 14 0) <| .jump 0 [0, 2]) <| .po (.sc 2) <| .ret [(false, [2])]
def u_laws_heldNodeS_u : UP := .po (.k (.int .i64 0)) <| .po (.k (.int .i64 0)) <| .loop [0, 2] u_laws_heldNodeS_l0
theorem u_laws_heldNodeS_g : toUPf Try.prog 13 Try.f13 owA u_laws_heldNodeS_h u_laws_heldNodeS_d = some ([(false, 1), (false, 1)], u_laws_heldNodeS_u) := by kernel_rfl
end Go.Proofs.Ytkcljmgjbjdccaa

namespace Go.Proofs.Ytkcljmgjbjdccaa
open Go.RowKit
set_option maxRecDepth 100000
def u_laws_heldStringS_h : List Hint := [⟨3000002, 2, ⟨[(5, .p false [.d 4]), (4, .p false [.d 2]), (0, .p false [.d 0]), (1, .p false [.d 5])], [], 0, 0, 6, []⟩, []⟩]
def u_laws_heldStringS_d : List (Nat × Nat × Bool × List Nat) := [(4, 7, false, [])]
def u_laws_heldStringS_l0 : UP := .po (.lenL 5) <| .po (.bin .lss false 2 0) <| .ite 0 (.po (.isI 3) <| .po (.idx 1 7 3) <| .po (.sc 0) <| .sel [0, 3, 4] <| .cl 36 [(false, [1])] [(false, [none], true)] <| .po (.bin .neq false 1 0) <| .po (.sc 0) <| .ite 0 (.po (.k (.int .i64 (-1))) <| .po (.sc 0) <| .ret [(false, [0])]) <| .po (.k (.int .i64 1)) <| .po (.bin .add false 4 0) <| .po (.k (.int .i64 1)) <| .po (.bin .add false 7 0) <| .jump 0 [0, 2]) <| .po (.sc 2) <| .ret [(false, [2])]
def u_laws_heldStringS_u : UP := .po (.k (.int .i64 0)) <| .po (.k (.int .i64 0)) <| .loop [0, 2] u_laws_heldStringS_l0
theorem u_laws_heldStringS_g : toUPf Try.prog 37 Try.f37 owA u_laws_heldStringS_h u_laws_heldStringS_d = some ([(false, 1), (false, 1)], u_laws_heldStringS_u) := by kernel_rfl
end Go.Proofs.Ytkcljmgjbjdccaa

namespace Go.Proofs.Ytkcljmgjbjdccaa
open Go.RowKit
set_option maxRecDepth 100000
def cellsS (l : List ByteArray) : List Value := l.map Value.string
def marksS (k n : Nat) : List ByteArray := (List.range n).map fun i => markT (k + i)
theorem marksS_len (k n : Nat) : (marksS k n).length = n := by simp [marksS]
theorem marks_step {α β : Type} (f : α → β) (g : Nat → α) (l : List α) (k : Nat) (h : k < l.length) : (((List.range k).map g ++ l.drop k).map f).set k (f (g k)) = ((List.range (k + 1)).map g ++ l.drop (k + 1)).map f := by
  rw [List.map_append, List.set_append_right _ _ (by simp), List.length_map, List.length_map, List.length_range, Nat.sub_self, List.drop_eq_getElem_cons h, List.map_cons, List.set_cons_zero, List.range_succ]
  simp
def MRel (n : Nat) (w : World) (base : Nat) (t : TypeId) (A : Option Addr) (c k0 : Nat) (cells : Nat → List Value) (v1 v5 : Value) (wr : World) : Prop :=
  ∃ k : Nat, k ≤ n ∧ v5 = .int .i64 k ∧ v1 = .int .i64 ((k0 + k : Nat) : Int) ∧ wr.ownsRow base t 1 (.slice A n c) n (cells k) ∧ w.grownBy wr (Value.slice A n c).ownBlock
theorem markStringS_any (A : Option Addr) (n c base k0 : Nat) (l : List ByteArray) (w : World) (ha : w.ownsRow base 9 1 (.slice A n c) n (cellsS l)) (hl : l.length = n) (h0 : 0 < k0) (h1 : k0 + n ≤ 4611686018427387904) :
    Calls Try.prog 35 #[.slice A n c, .int .i64 k0] w fun e w' => e = .returned (.int .i64 ((k0 + n : Nat) : Int)) ∧ w'.ownsRow base 9 1 (.slice A n c) n (cellsS (marksS k0 n)) ∧ w.grownBy w' (Value.slice A n c).ownBlock := by
  have HL := Lib.hid hl; clear hl
  go_enter Try.func35, Try.ntmps35
  go_wp2
  go_loopw [1, 5] (MRel n w base 9 A c k0 (fun k => cellsS (marksS k0 k ++ l.drop k))) (fun _ i _ => n - (intOf i).toNat)
  case atStart => exact ⟨0, Nat.zero_le _, rfl, rfl, by simpa [marksS] using ha, World.grownBy.refl w _⟩
  case round =>
    obtain ⟨k, hk, rfl, rfl, hown, hg⟩ := hrel
    by_cases hlt : k < n
    · obtain ⟨g, cap, hv, -, -⟩ := hown.form (by omega)
      injection hv with e1 e2 e3
      subst e1 e3
      have hown : wr.ownsRow base 9 1 (.slice (some ⟨g, 0, none⟩) n c) n (cellsS (marksS k0 k ++ l.drop k)) := hown
      have hgl := (own_blk hown rfl).2
      have HO := Lib.hid hown
      have HG := Lib.hid hg
      clear hown hg ha
      go_wp2_with fail
      refine (markText_x _ (k0 + k) _ (by omega) (by omega) (by omega)).mono ?_
      rintro e w2 ⟨rfl, hb⟩
      have hown2 := own_below HO.out hb (Nat.le_refl _)
      have hst := hown2.stored k (.string (markT (k0 + k)))
      have hfl : (cellsS (marksS k0 k ++ l.drop k)).length = n := by have := HL.out; simp [cellsS, marksS_len]; omega
      obtain ⟨z0, c0⟩ : ∃ z, w2.cell? ⟨g, k, none⟩ = some z := ⟨_, (hown2.cellAt k (by omega)).trans (List.getElem?_eq_getElem (by omega))⟩
      have f0 := hown2.frozenAt k
      have hgb : wr.grownBy w2 (some g) := ⟨hb.os, hb.tape, hb.output, hb.size, fun i hi _ => hb.block i hi⟩
      have HS := Lib.hid hst
      have HB := Lib.hid hgb
      clear hown2 hst hb hfl hgb
      go_wp2
      refine ⟨⟨k + 1, hlt, rfl, rfl, ?_, (HG.out.trans HB.out).trans HS.out.2⟩, by simp [intOf]; omega⟩
      have hsp := marks_step Value.string (fun i => markT (k0 + i)) l k (by rw [HL.out]; omega)
      have := HS.out.1
      unfold cellsS marksS at this
      rw [hsp] at this
      exact this
    · go_wp2
      go_ret
      obtain rfl : k = n := by omega
      have hown : wr.ownsRow base 9 1 (.slice A k c) k (cellsS (marksS k0 k ++ l.drop k)) := hown
      rw [List.drop_of_length_le (by rw [HL.out]; omega), List.append_nil] at hown
      exact ⟨ret_i rfl, hown, hg⟩
theorem own_row {w : World} {base t k : Nat} {es : List (List DV)} {cells : List Value} {v : Value} {f : List Nat} (hf : es.flatten = cells.map .sc) (h : OwnL w base [v] [.sl t k es] f) : w.ownsRow base t k v es.length cells ∧ f = v.ownBlock.toList := by
  cases h with
  | @sl _ _ _ _ cs g vs ds f' h1 h2 h3 h4 h5 h6 =>
    cases h5
    have hfl : Flat es.flatten := by rw [hf]; intro d hd; obtain ⟨x, _, rfl⟩ := List.mem_map.1 hd; exact ⟨x, rfl⟩
    have hg := own_flat_nil h4 hfl
    subst hg
    have hc := h4.rep
    rw [hf] at hc
    have : cs = cells := by
      have key : ∀ {A : Nat → Prop} {a b : List Value}, RepL w A a (b.map .sc) → a = b := by
        intro A a b
        induction b generalizing a with
        | nil => intro h; cases h; rfl
        | cons x b ih => intro h; cases h with | sc _ h2 => rw [ih h2]
      exact key hc
    subst this
    exact ⟨h1, by simp⟩
theorem row_own {w : World} {base t k : Nat} {es : List (List DV)} {cells : List Value} {v : Value} (hf : es.flatten = cells.map .sc) (hs : ∀ u ∈ cells, Sc u) (hk : 0 < k) (he : ∀ e ∈ es, e.length = k) (h : w.ownsRow base t k v es.length cells) : OwnL w base [v] [.sl t k es] v.ownBlock.toList := by
  have hf2 : OwnL w base cells es.flatten [] := by
    rw [hf]
    clear h hf
    induction cells with
    | nil => exact .nil
    | cons x b ih => exact .sc (hs x (List.mem_cons_self ..)) (ih fun v hv => hs v (List.mem_cons_of_mem _ hv))
  have := OwnL.sl (t := t) (k := k) (es := es) (vs := []) (ds := []) (f := []) h hk he hf2 .nil (by cases v.ownBlock <;> simp)
  simpa using this
theorem flatS (l : List ByteArray) : (l.map encS).flatten = (cellsS l).map .sc := by
  induction l with
  | nil => rfl
  | cons x l ih => rw [List.map_cons, List.flatten_cons, ih]; rfl
theorem markStringS_k (l : List ByteArray) (k0 : Nat) (h0 : 0 < k0) (h1 : k0 + l.length ≤ 4611686018427387904) : Marks Try.prog 35 false [encSs l] k0 [encSs (marksS k0 l.length)] ((k0 + l.length : Nat) : Int) := by
  refine ⟨by kernel_rfl, fun w base v vals fs hv ho hnd => ?_⟩
  have hv : vals = [v] := hv
  subst hv
  obtain ⟨_, _, f, _, e, rfl, o0, ho⟩ := ownP_cons ho
  injection e with e1 e2
  subst e1 e2
  obtain ⟨-, rfl⟩ := ownP_nil ho
  obtain ⟨h2, rfl⟩ := own_row (flatS l) o0
  rw [List.length_map] at h2
  obtain ⟨A, c, rfl, -, -⟩ := own_shape h2
  refine (markStringS_any A l.length c base k0 l w h2 rfl h0 h1).mono ?_
  rintro e w' ⟨rfl, h3, h4⟩
  exact ⟨rfl, ⟨row_own (flatS _) (by intro u hu; obtain ⟨x, _, rfl⟩ := List.mem_map.1 hu; trivial) (by decide) (by simp [encS]) (by rw [List.length_map, marksS_len]; exact h3), trivial⟩, wrote_grown h4⟩
theorem marksS_get {k n i : Nat} (h : i < n) : (marksS k n).getD i default = markT (k + i) := by
  rw [List.getD_eq_getElem?_getD]; simp [marksS, h]
theorem heldStringS_m (k0 n : Nat) (h0 : 0 < k0) (h1 : k0 + n ≤ 4611686018427387904) : Meets Try.prog 37 [(false, [encSs (marksS k0 n)]), (false, [.sc (.int .i64 k0)])] [(false, [.sc (.int .i64 ((k0 + n : Nat) : Int))], true)] := by
  have hl := marksS_len k0 n
  refine meets_upf Try.func37 u_laws_heldStringS_g rfl ?_; simp only [u_laws_heldStringS_u]
  simp only [encSs]
  simp (disch := first | omega | (simp only [List.length_take, List.length_drop, List.length_append, List.map_cons, List.map_nil, List.length_map, List.length_cons, List.length_nil, List.length_set, List.length_replicate]; omega) | (simp only [List.length_cons, List.length_nil, Nat.zero_add, Nat.reduceAdd])) only [go_sem, ↓reduceIte, Nat.reduceAdd, Int.reduceNeg, Int.reduceAdd, Int.reduceSub, Int.reduceMul, Int.reduceLT, Int.reduceLE, Int.reduceEq, Int.reduceToNat, Nat.reduceBEq, e_sle, e_sge, e_shl1, e_orI, e_andI, e_shr, wrapu, wrap8, tn1, nat1, ix_s, ix_z, st_s, st_z, fl_s, fl_z, fl1_s, fl1_z, map_s, map_z, true_and]
  refine lp_n n (fun i => [.sc (.int .i64 i), .sc (.int .i64 ((k0 + i : Nat) : Int))]) rfl fun i hi => ?_
  simp only [u_laws_heldStringS_l0]
  by_cases hlt : i < n
  · have hg := marksS_get (k := k0) hlt
    have hm := markText_m (k0 + i) (by omega) (by omega)
    have hk : ((k0 + i : Nat) : Int) + 1 = ((k0 + (i + 1) : Nat) : Int) := by omega
    repeat' (first | (with_reducible refine jn_in ?_) | (with_reducible refine cl_ok (by assumption) rfl ?_) | (with_reducible refine cl_okP (by assumption) rfl ?_) | (with_reducible refine br_if (fun hbr => ?_) (fun hbr => ?_)) | (with_reducible refine br_ifn (fun hbr => ?_) (fun hbr => ?_)) | (with_reducible refine br_nb (fun hbr => ?_) (fun hbr => ?_)) | (with_reducible refine br_b (fun hbr => ?_) (fun hbr => ?_)) | simp (disch := first | omega | (simp only [List.length_take, List.length_drop, List.length_append, List.map_cons, List.map_nil, List.length_map, List.length_cons, List.length_nil, List.length_set, List.length_replicate]; omega) | (simp only [List.length_cons, List.length_nil, Nat.zero_add, Nat.reduceAdd])) only [go_sem, ↓reduceIte, Nat.reduceAdd, Int.reduceNeg, Int.reduceAdd, Int.reduceSub, Int.reduceMul, Int.reduceLT, Int.reduceLE, Int.reduceEq, Int.reduceToNat, Nat.reduceBEq, e_sle, e_sge, e_shl1, e_orI, e_andI, e_shr, wrapu, wrap8, tn1, nat1, ix_s, ix_z, st_s, st_z, fl_s, fl_z, fl1_s, fl1_z, map_s, map_z, hl, hg, eq_self, hk])
    all_goals first | omega | exact ⟨rfl, hlt⟩
  · obtain rfl : i = n := by omega
    repeat' (first | (with_reducible refine jn_in ?_) | (with_reducible refine cl_ok (by assumption) rfl ?_) | (with_reducible refine cl_okP (by assumption) rfl ?_) | (with_reducible refine br_if (fun hbr => ?_) (fun hbr => ?_)) | (with_reducible refine br_ifn (fun hbr => ?_) (fun hbr => ?_)) | (with_reducible refine br_nb (fun hbr => ?_) (fun hbr => ?_)) | (with_reducible refine br_b (fun hbr => ?_) (fun hbr => ?_)) | simp (disch := first | omega | (simp only [List.length_take, List.length_drop, List.length_append, List.map_cons, List.map_nil, List.length_map, List.length_cons, List.length_nil, List.length_set, List.length_replicate]; omega) | (simp only [List.length_cons, List.length_nil, Nat.zero_add, Nat.reduceAdd])) only [go_sem, ↓reduceIte, Nat.reduceAdd, Int.reduceNeg, Int.reduceAdd, Int.reduceSub, Int.reduceMul, Int.reduceLT, Int.reduceLE, Int.reduceEq, Int.reduceToNat, Nat.reduceBEq, e_sle, e_sge, e_shl1, e_orI, e_andI, e_shr, wrapu, wrap8, tn1, nat1, ix_s, ix_z, st_s, st_z, fl_s, fl_z, fl1_s, fl1_z, map_s, map_z, hl])
    all_goals first | omega | rfl
end Go.Proofs.Ytkcljmgjbjdccaa

namespace Go.Proofs.Ytkcljmgjbjdccaa
open Go.RowKit
section
variable {w w' : World} {base : Nat} {vs : List Value} {ds : List DV} {f : List Nat}
theorem OwnL.setSc (h : OwnL w base vs ds f) : ∀ {p : Nat} {x u : Value}, ds[p]? = some (.sc x) → Sc u → OwnL w base (vs.set p u) (ds.set p (.sc u)) f := by
  induction h with
  | nil => intro p x u hp; simp at hp
  | @sc v vs ds f h1 h2 ih =>
    intro p x u hp hu
    cases p with
    | zero => exact .sc hu h2
    | succ p => exact .sc h1 (ih (by simpa using hp) hu)
  | sl h1 h2 h3 h4 h5 h6 _ ih =>
    intro p x u hp hu
    cases p with
    | zero => simp at hp
    | succ p => exact .sl h1 h2 h3 h4 (ih (by simpa using hp) hu) h6
theorem OwnL.one_at (h : OwnL w base vs ds f) : ∀ {p : Nat} {d : DV}, ds[p]? = some d → ∃ u f2, vs[p]? = some u ∧ OwnL w base [u] [d] f2 ∧ (∀ b ∈ f2, b ∈ f) ∧
    ∀ (w' : World) (d' : DV), (∀ b ∈ f, b ∉ f2 → w'.heap[b]? = w.heap[b]?) → OwnL w' base [u] [d'] f2 → OwnL w' base vs (ds.set p d') f := by
  induction h with
  | nil => intro p d hp; simp at hp
  | @sc v vs ds f h1 h2 ih =>
    intro p d hp
    cases p with
    | zero =>
      simp at hp; subst hp
      refine ⟨v, [], rfl, .sc h1 .nil, by simp, fun w' d' hk ho => ?_⟩
      have := ho.app (h2.keep fun b hb => hk b hb (by simp)) (by simp)
      simpa using this
    | succ p =>
      obtain ⟨u, f2, a1, a2, a3, a4⟩ := ih (by simpa using hp)
      exact ⟨u, f2, by simpa using a1, a2, a3, fun w' d' hk ho => .sc h1 (a4 w' d' hk ho)⟩
  | @sl v t k es cells g vs ds f h1 h2 h3 h4 h5 h6 ih1 ih2 =>
    intro p d hp
    rw [← List.append_assoc] at h6
    obtain ⟨n1, n2, n3⟩ := List.nodup_append.1 h6
    cases p with
    | zero =>
      simp at hp; subst hp
      refine ⟨v, v.ownBlock.toList ++ g, rfl, ?_, fun b hb => ?_, fun w' d' hk ho => ?_⟩
      · have := OwnL.sl (vs := []) (ds := []) (f := []) h1 h2 h3 h4 .nil (by simpa using n1)
        simpa using this
      · rw [← List.append_assoc]; exact List.mem_append_left _ hb
      · have hk2 : OwnL w' base vs ds f := h5.keep fun b hb => hk b (by rw [← List.append_assoc]; exact List.mem_append_right _ hb) (fun hc => n3 b hc b hb rfl)
        have := ho.app hk2 (fun b hb hc => n3 b hb b hc rfl)
        simpa using this
    | succ p =>
      obtain ⟨u, f2, a1, a2, a3, a4⟩ := ih2 (by simpa using hp)
      refine ⟨u, f2, by simpa using a1, a2, fun b hb => by rw [← List.append_assoc]; exact List.mem_append_right _ (a3 b hb), fun w' d' hk ho => ?_⟩
      have hx : ∀ b, b ∈ v.ownBlock.toList ++ g → w'.heap[b]? = w.heap[b]? := fun b hb => hk b (by rw [← List.append_assoc]; exact List.mem_append_left _ hb) (fun hc => n3 b hb b (a3 b hc) rfl)
      refine .sl (own_keep h1 fun b hb => hx b (by simp [hb])) h2 h3 (h4.keep fun b hb => hx b (by simp [hb])) (a4 w' d' (fun b hb hn => hk b (by rw [← List.append_assoc]; exact List.mem_append_right _ hb) hn) ho) (by rw [← List.append_assoc]; exact h6)
theorem flat_set1 {α : Type} {k : Nat} {d : α} : ∀ {es : List (List α)} {j off : Nat} {e : List α}, (∀ e ∈ es, e.length = k) → es[j]? = some e → off < k → (es.set j (e.set off d)).flatten = es.flatten.set (j * k + off) d
  | [], j, off, e, _, h, _ => by simp at h
  | a :: es, 0, off, e, hk, h, ho => by
    simp at h; subst h
    have := hk a (List.mem_cons_self ..)
    simp only [List.set_cons_zero, List.flatten_cons, Nat.zero_mul, Nat.zero_add]
    rw [List.set_append_left _ _ (by omega)]
  | a :: es, j + 1, off, e, hk, h, ho => by
    have ha := hk a (List.mem_cons_self ..)
    have ih := flat_set1 (d := d) (es := es) (j := j) (off := off) (e := e) (fun e he => hk e (List.mem_cons_of_mem _ he)) (by simpa using h) ho
    simp only [List.set_cons_succ, List.flatten_cons, ih]
    rw [List.set_append_right _ _ (by rw [Nat.succ_mul]; omega)]
    congr 2
    rw [Nat.succ_mul]; omega
theorem flat_get1 {α : Type} {k : Nat} {es : List (List α)} {j off : Nat} {e : List α} {d : α} (hk : ∀ e ∈ es, e.length = k) (h : es[j]? = some e) (ho : e[off]? = some d) : es.flatten[j * k + off]? = some d := by
  have h1 := flat_at hk h
  have hlt : off < e.length := (List.getElem?_eq_some_iff.1 ho).1
  have : ((es.flatten.drop (j * k)).take k)[off]? = some d := by rw [h1]; exact ho
  rw [List.getElem?_take, if_pos (by rw [← hk e (List.mem_of_getElem? h)]; exact hlt), List.getElem?_drop] at this
  exact this
variable {t k : Nat} {es : List (List DV)} {g n c : Nat}
theorem own_lens (h : OwnL w base [.slice (some ⟨g, 0, none⟩) n c] [.sl t k es] f) : n = es.length ∧ 0 < k ∧ (∀ e ∈ es, e.length = k) ∧ g ∈ f ∧ base ≤ g ∧ g < w.heap.size := by
  cases h with
  | sl h1 h2 h3 h4 h5 h6 =>
    obtain ⟨a, c', e, _⟩ := own_shape h1
    injection e with _ e _
    have := own_blk h1 rfl
    exact ⟨e, h2, h3, by simp [Value.ownBlock], this.1, this.2⟩
theorem own_store (h : OwnL w base [.slice (some ⟨g, 0, none⟩) n c] [.sl t k es] f) {j off : Nat} {e : List DV} {x u : Value} (he : es[j]? = some e) (ho : e[off]? = some (.sc x)) (hu : Sc u) :
    OwnL (w.setCell ⟨g, j * k + off, none⟩ u) base [.slice (some ⟨g, 0, none⟩) n c] [.sl t k (es.set j (e.set off (.sc u)))] f ∧ (∃ z, w.cell? ⟨g, j * k + off, none⟩ = some z) ∧ w.frozen? ⟨g, j * k + off, none⟩ = false := by
  cases h with
  | @sl v t k es cells f1 vs ds f2 h1 h2 h3 h4 h5 h6 =>
    cases h5
    obtain ⟨_, _, en, _⟩ := own_shape h1
    injection en with _ en _
    subst en
    have hcl : cells.length = es.length * k := h1.1
    have hek : e.length = k := h3 e (List.mem_of_getElem? he)
    have hlt : off < k := by rw [← hek]; exact (List.getElem?_eq_some_iff.1 ho).1
    have hp := flat_get1 h3 he ho
    have hlen : (es.set j (e.set off (.sc u))).length = es.length := by simp
    have hst := h1.stored (j * k + off) u
    have hset := h4.setSc hp hu
    rw [← flat_set1 h3 he hlt] at hset
    have hnd : ∀ b ∈ f1, b ≠ g := by
      intro b hb e
      subst e
      have := (List.nodup_append.1 h6).2.2 b (by simp [Value.ownBlock]) b (by simp [hb])
      exact this rfl
    have hpc : j * k + off < cells.length := by rw [h4.rep.len]; exact (List.getElem?_eq_some_iff.1 hp).1
    refine ⟨?_, ⟨_, (h1.cellAt (j * k + off) (by omega)).trans (List.getElem?_eq_getElem hpc)⟩, h1.frozenAt _⟩
    · refine .sl (by rw [hlen]; exact hst.1) h2 (fun e' he' => ?_) (hset.keep fun b hb => ?_) .nil h6
      · rcases List.mem_or_eq_of_mem_set he' with h | h
        · exact h3 e' h
        · subst h; simpa using hek
      · exact Below.heap_setCell w ⟨g, j * k + off, none⟩ u b (fun e => hnd b hb e)
theorem own_sub (h : OwnL w base [.slice (some ⟨g, 0, none⟩) n c] [.sl t k es] f) {j off : Nat} {e : List DV} {d : DV} (he : es[j]? = some e) (ho : e[off]? = some d) :
    ∃ u f2, w.cell? ⟨g, j * k + off, none⟩ = some u ∧ OwnL w base [u] [d] f2 ∧ (∀ b ∈ f2, b ∈ f ∧ b ≠ g) ∧
      ∀ (w' : World) (d' : DV), (∀ b ∈ f, b ∉ f2 → w'.heap[b]? = w.heap[b]?) → OwnL w' base [u] [d'] f2 → OwnL w' base [.slice (some ⟨g, 0, none⟩) n c] [.sl t k (es.set j (e.set off d'))] f := by
  cases h with
  | @sl v t k es cells f1 vs ds f2 h1 h2 h3 h4 h5 h6 =>
    cases h5
    obtain ⟨_, _, en, _⟩ := own_shape h1
    injection en with _ en _
    subst en
    have hcl : cells.length = es.length * k := h1.1
    have hek : e.length = k := h3 e (List.mem_of_getElem? he)
    have hlt : off < k := by rw [← hek]; exact (List.getElem?_eq_some_iff.1 ho).1
    have hp := flat_get1 h3 he ho
    have hnd : ∀ b ∈ f1, b ≠ g := by
      intro b hb e
      subst e
      exact (List.nodup_append.1 h6).2.2 b (by simp [Value.ownBlock]) b (by simp [hb]) rfl
    obtain ⟨u, f3, a1, a2, a3, a4⟩ := h4.one_at hp
    refine ⟨u, f3, (h1.cellAt (j * k + off) (by rw [← hcl]; exact (List.getElem?_eq_some_iff.1 a1).1)).trans a1, a2, fun b hb => ⟨by simp [a3 b hb], hnd b (a3 b hb)⟩, fun w' d' hk ho' => ?_⟩
    have hc := a4 w' d' (fun b hb hn => hk b (by simp [hb]) hn) ho'
    rw [← flat_set1 h3 he hlt] at hc
    have hkg : w'.heap[g]? = w.heap[g]? := hk g (by simp [Value.ownBlock]) (fun hx => hnd _ (a3 _ hx) rfl)
    have ho1 : w'.ownsRow base t k (Value.slice (some ⟨g, 0, none⟩) es.length c) es.length cells := own_keep h1 fun b hb => by
      injection hb with hb
      subst hb
      exact hkg
    refine .sl (by rw [List.length_set]; exact ho1) h2 (fun e' he' => ?_) hc .nil h6
    rcases List.mem_or_eq_of_mem_set he' with h | h
    · exact h3 e' h
    · subst h; simpa using hek
end
end Go.Proofs.Ytkcljmgjbjdccaa

namespace Go.Proofs.Ytkcljmgjbjdccaa
open Go.RowKit
section
variable {w w1 w2 w3 : World} {f f2 : List Nat}
theorem Wrote.refl (w : World) (f : List Nat) : Wrote w w f := ⟨rfl, rfl, rfl, Nat.le_refl _, fun _ _ _ => rfl⟩
theorem Wrote.trans (h : Wrote w w1 f) (k : Wrote w1 w2 f) : Wrote w w2 f :=
  ⟨k.os.trans h.os, k.tape.trans h.tape, k.output.trans h.output, Nat.le_trans h.size k.size, fun b hb hn => (k.block b (Nat.lt_of_lt_of_le hb h.size) hn).trans (h.block b hb hn)⟩
theorem Wrote.mono (h : Wrote w w1 f2) (hs : ∀ b ∈ f2, b ∈ f) : Wrote w w1 f := ⟨h.os, h.tape, h.output, h.size, fun b hb hn => h.block b hb fun hx => hn (hs b hx)⟩
theorem Wrote.below (h : Below w.heap.size w w1) : Wrote w w1 f := ⟨h.os, h.tape, h.output, h.size, fun b hb _ => h.block b hb⟩
theorem Wrote.cell (w : World) {g o : Nat} {u : Value} (h : g ∈ f) (hg : g < w.heap.size) : Wrote w (w.setCell ⟨g, o, none⟩ u) f := by
  have hb := Below.setCell (Below.refl 0 w) (p := ⟨g, o, none⟩) (Nat.zero_le _) u
  refine ⟨hb.os, hb.tape, hb.output, hb.size, fun b hb hn => ?_⟩
  exact Below.heap_setCell w ⟨g, o, none⟩ u b (fun e => hn (e ▸ h))
end
theorem OwnL.wrote {w w' : World} {base : Nat} {vs : List Value} {ds : List DV} {f f2 : List Nat} (h : OwnL w base vs ds f) (hw : Wrote w w' f2) (hd : ∀ b ∈ f, b ∉ f2) : OwnL w' base vs ds f :=
  h.keep fun b hb => hw.block b (h.blocks b hb).2 (hd b hb)
section
variable {wr : World} {base n c t k g : Nat} {es : List (List DV)} {f : List Nat} {d0 d1 d2 d4 u0 u1 u2 u4 : Value} {d3 : DV}
theorem nod_cells (h : OwnL wr base [.slice (some ⟨g, 0, none⟩) n c] [.sl t 5 es] f) (he : es[k]? = some [.sc d0, .sc d1, .sc d2, d3, .sc d4]) :
    (∃ z, wr.cell? ⟨g, k * 5, none⟩ = some z) ∧ (∃ z, wr.cell? ⟨g, k * 5 + 1, none⟩ = some z) ∧ (∃ z, wr.cell? ⟨g, k * 5 + 2, none⟩ = some z) ∧ (∃ z, wr.cell? ⟨g, k * 5 + 4, none⟩ = some z) ∧
    wr.frozen? ⟨g, k * 5, none⟩ = false ∧ wr.frozen? ⟨g, k * 5 + 1, none⟩ = false ∧ wr.frozen? ⟨g, k * 5 + 2, none⟩ = false ∧ wr.frozen? ⟨g, k * 5 + 4, none⟩ = false ∧
    ∃ u, wr.cell? ⟨g, k * 5 + 3, none⟩ = some u := by
  obtain ⟨-, a1, a2⟩ := own_store h (off := 0) (u := .bool true) he rfl trivial
  obtain ⟨-, b1, b2⟩ := own_store h (off := 1) (u := .bool true) he rfl trivial
  obtain ⟨-, c1, c2⟩ := own_store h (off := 2) (u := .bool true) he rfl trivial
  obtain ⟨-, e1, e2⟩ := own_store h (off := 4) (u := .bool true) he rfl trivial
  obtain ⟨u, -, hu, -⟩ := own_sub h (off := 3) he rfl
  exact ⟨a1, b1, c1, e1, a2, b2, c2, e2, u, hu⟩
theorem adr_ne {g o o' : Nat} (h : o ≠ o') : (⟨g, o, none⟩ : Addr) ≠ ⟨g, o', none⟩ := fun e => h (by injection e)
theorem nod_step (h : OwnL wr base [.slice (some ⟨g, 0, none⟩) n c] [.sl t 5 es] f) (he : es[k]? = some [.sc d0, .sc d1, .sc d2, d3, .sc d4]) (s0 : Sc u0) (s1 : Sc u1) (s2 : Sc u2) (s4 : Sc u4) {u : Value} (hu : wr.cell? ⟨g, k * 5 + 3, none⟩ = some u)
    {w2 : World} (hb : Below ((wr.setCell ⟨g, k * 5, none⟩ u0).setCell ⟨g, k * 5 + 1, none⟩ u1).heap.size ((wr.setCell ⟨g, k * 5, none⟩ u0).setCell ⟨g, k * 5 + 1, none⟩ u1) w2) :
    ∃ f2, OwnL (w2.setCell ⟨g, k * 5 + 2, none⟩ u2) base [u] [d3] f2 ∧ ∀ (w4 : World) (d3' : DV), OwnL w4 base [u] [d3'] f2 → Wrote (w2.setCell ⟨g, k * 5 + 2, none⟩ u2) w4 f2 →
      (∃ z, w4.cell? ⟨g, k * 5 + 4, none⟩ = some z) ∧ w4.frozen? ⟨g, k * 5 + 4, none⟩ = false ∧
      OwnL (w4.setCell ⟨g, k * 5 + 4, none⟩ u4) base [.slice (some ⟨g, 0, none⟩) n c] [.sl t 5 (es.set k [.sc u0, .sc u1, .sc u2, d3', .sc u4])] f ∧ Wrote wr (w4.setCell ⟨g, k * 5 + 4, none⟩ u4) f := by
  have hk : k < es.length := (List.getElem?_eq_some_iff.1 he).1
  have hg := own_lens h
  obtain ⟨-, -, -, gf, -, gs⟩ := hg
  have a1 := (own_store h (off := 0) (u := u0) he rfl s0).1
  have e1 : (es.set k ([.sc d0, .sc d1, .sc d2, d3, .sc d4].set 0 (.sc u0)))[k]? = some [.sc u0, .sc d1, .sc d2, d3, .sc d4] := by rw [List.getElem?_set, if_pos rfl, if_pos hk]; rfl
  have a2 := (own_store a1 (off := 1) (u := u1) e1 rfl s1).1
  have e2 : ((es.set k ([.sc d0, .sc d1, .sc d2, d3, .sc d4].set 0 (.sc u0))).set k ([.sc u0, .sc d1, .sc d2, d3, .sc d4].set 1 (.sc u1)))[k]? = some [.sc u0, .sc u1, .sc d2, d3, .sc d4] := by rw [List.getElem?_set, if_pos rfl, if_pos (by simpa using hk)]; rfl
  have wA : Wrote wr ((wr.setCell ⟨g, k * 5, none⟩ u0).setCell ⟨g, k * 5 + 1, none⟩ u1) f := (Wrote.cell wr gf gs).trans (Wrote.cell _ gf (by simpa using gs))
  generalize hW : (wr.setCell ⟨g, k * 5, none⟩ u0).setCell ⟨g, k * 5 + 1, none⟩ u1 = W at *
  have a2 : OwnL W base [.slice (some ⟨g, 0, none⟩) n c] [.sl t 5 ((es.set k ([.sc d0, .sc d1, .sc d2, d3, .sc d4].set 0 (.sc u0))).set k ([.sc u0, .sc d1, .sc d2, d3, .sc d4].set 1 (.sc u1)))] f := a2
  have a3 := a2.keep fun b hbf => hb.block b (a2.blocks b hbf).2
  have gs2 := (own_lens a3).2.2.2.2.2
  have wB : Wrote wr w2 f := wA.trans (Wrote.below hb)
  have a4 := (own_store a3 (off := 2) (u := u2) e2 rfl s2).1
  have e4 : (((es.set k ([.sc d0, .sc d1, .sc d2, d3, .sc d4].set 0 (.sc u0))).set k ([.sc u0, .sc d1, .sc d2, d3, .sc d4].set 1 (.sc u1))).set k ([.sc u0, .sc u1, .sc d2, d3, .sc d4].set 2 (.sc u2)))[k]? = some [.sc u0, .sc u1, .sc u2, d3, .sc d4] := by rw [List.getElem?_set, if_pos rfl, if_pos (by simpa using hk)]; rfl
  have wC : Wrote wr (w2.setCell ⟨g, k * 5 + 2, none⟩ u2) f := wB.trans (Wrote.cell _ gf gs2)
  obtain ⟨u', f2, b1, b2, b3, b4⟩ := own_sub a4 (off := 3) e4 rfl
  have hu' : u' = u := by
    rw [World.cell?_setCell_other (h := adr_ne (by omega))] at b1
    have hgW : g < W.heap.size := (own_lens a2).2.2.2.2.2
    have : w2.cell? ⟨g, k * 5 + 3, none⟩ = W.cell? ⟨g, k * 5 + 3, none⟩ := (bcell hb).1 g _ hgW
    rw [this, ← hW, World.cell?_setCell_other (h := adr_ne (by omega)), World.cell?_setCell_other (h := adr_ne (by omega)), hu] at b1
    injection b1 with b1; exact b1.symm
  subst hu'
  refine ⟨f2, b2, fun w4 d3' ho hw => ?_⟩
  have a5 := b4 w4 d3' (fun b hbf hn => hw.block b (a4.blocks b hbf).2 hn) ho
  have e5 : ((((es.set k ([.sc d0, .sc d1, .sc d2, d3, .sc d4].set 0 (.sc u0))).set k ([.sc u0, .sc d1, .sc d2, d3, .sc d4].set 1 (.sc u1))).set k ([.sc u0, .sc u1, .sc d2, d3, .sc d4].set 2 (.sc u2))).set k ([.sc u0, .sc u1, .sc u2, d3, .sc d4].set 3 d3'))[k]? = some [.sc u0, .sc u1, .sc u2, d3', .sc d4] := by rw [List.getElem?_set, if_pos rfl, if_pos (by simpa using hk)]; rfl
  obtain ⟨a6, z6, f6⟩ := own_store a5 (off := 4) (u := u4) e5 rfl s4
  refine ⟨z6, f6, ?_, (wC.trans (hw.mono fun b hb => (b3 b hb).1)).trans (Wrote.cell _ gf (own_lens a5).2.2.2.2.2)⟩
  simpa using a6
end
def wNd (x : Nod) : Nat := 4 + x.labels.length
def mkNd (o : Nat) (x : Nod) : Nod := ⟨(o : Nat), (o + 1 : Nat), markT (o + 2), marksS (o + 3) x.labels.length, (o + 3 + x.labels.length : Nat)⟩
def offN (l : List Nod) (i : Nat) : Nat := sumOf wNd (l.take i)
def mixN (k0 : Nat) (l : List Nod) (i : Nat) : List Nod := ((List.range i).map fun j => mkNd (k0 + offN l j) (l.getD j default)) ++ l.drop i
def marksN (k0 : Nat) (l : List Nod) : List Nod := (List.range l.length).map fun j => mkNd (k0 + offN l j) (l.getD j default)
theorem offN_succ {l : List Nod} {i : Nat} (h : i < l.length) : offN l (i + 1) = offN l i + (4 + (l.getD i default).labels.length) := sumOf_take wNd h
theorem offN_le (l : List Nod) (i : Nat) : offN l i ≤ sumOf wNd l := sumOf_le wNd l i
theorem mixN_0 (k0 : Nat) (l : List Nod) : mixN k0 l 0 = l := by simp [mixN]
theorem mixN_end (k0 : Nat) (l : List Nod) : mixN k0 l l.length = marksN k0 l := by simp [mixN, marksN]
theorem mixN_len {k0 : Nat} {l : List Nod} {i : Nat} (h : i ≤ l.length) : (mixN k0 l i).length = l.length := by simp [mixN]; omega
theorem mixN_get {k0 : Nat} {l : List Nod} {i : Nat} (h : i < l.length) : ((mixN k0 l i).map encNod)[i]? = some (encNod (l.getD i default)) := by
  unfold mixN
  rw [List.getElem?_map, List.getElem?_append_right (by simp), List.length_map, List.length_range, Nat.sub_self, List.getElem?_drop, Nat.add_zero, List.getD_eq_getElem?_getD, List.getElem?_eq_getElem h]; rfl
theorem own_some {w : World} {base n c t k : Nat} {A : Option Addr} {es : List (List DV)} {f : List Nat} (h : OwnL w base [.slice A n c] [.sl t k es] f) (hn : 0 < es.length) : ∃ g, A = some ⟨g, 0, none⟩ := by
  cases h with
  | sl h1 h2 h3 h4 h5 h6 =>
    obtain ⟨g, cap, hv, -, -⟩ := h1.form hn
    injection hv with e1 e2 e3
    exact ⟨g, e1⟩
theorem mixN_set {k0 : Nat} {l : List Nod} {i : Nat} (h : i < l.length) : ((mixN k0 l i).map encNod).set i (encNod (mkNd (k0 + offN l i) (l.getD i default))) = (mixN k0 l (i + 1)).map encNod := marks_step encNod (fun j => mkNd (k0 + offN l j) (l.getD j default)) l i h
theorem own_cap {w : World} {base n c t k : Nat} {A : Option Addr} {es : List (List DV)} {f : List Nat} (h : OwnL w base [.slice A n c] [.sl t k es] f) : n ≤ 9223372036854775807 := by
  cases h with
  | sl h1 h2 h3 h4 h5 h6 =>
    obtain ⟨A, c', e, e1, e2⟩ := own_shape h1
    injection e with _ e _
    unfold maxLen at e2
    omega
theorem marks_x {P : Program} {fn : FuncId} {d d' : DV} {k k' : Int} (h : Marks P fn false [d] k [d'] k') {w : World} {base : Nat} {u : Value} {f2 : List Nat} (ho : OwnL w base [u] [d] f2) {x : Int} (hx : x = k) :
    Calls P fn #[u, .int .i64 x] w fun e w' => e = .returned (.int .i64 k') ∧ OwnL w' base [u] [d'] f2 ∧ Wrote w w' f2 := by
  subst hx
  refine (h.2 w base u [u] [f2] rfl ⟨ho, trivial⟩ (by simpa using ho.nodup)).mono ?_
  rintro e w' ⟨h1, ⟨h2, -⟩, h3⟩
  exact ⟨h1, h2, by simpa using h3⟩
def NRel (k0 n : Nat) (w : World) (base : Nat) (A : Option Addr) (c : Nat) (l : List Nod) (f : List Nat) (v1 v5 : Value) (wr : World) : Prop :=
  ∃ k : Nat, k ≤ n ∧ v5 = .int .i64 k ∧ v1 = .int .i64 ((k0 + offN l k : Nat) : Int) ∧ OwnL wr base [.slice A n c] [.sl 52 5 ((mixN k0 l k).map encNod)] f ∧ Wrote w wr f
set_option maxRecDepth 100000 in
theorem markNodeS_any (A : Option Addr) (n c base k0 : Nat) (l : List Nod) (f : List Nat) (w : World) (ha : OwnL w base [.slice A n c] [.sl 52 5 (l.map encNod)] f) (hl : l.length = n) (h0 : 0 < k0) (h1 : k0 + sumOf wNd l ≤ 4611686018427387904) :
    Calls Try.prog 12 #[.slice A n c, .int .i64 k0] w fun e w' => e = .returned (.int .i64 ((k0 + sumOf wNd l : Nat) : Int)) ∧ OwnL w' base [.slice A n c] [.sl 52 5 ((marksN k0 l).map encNod)] f ∧ Wrote w w' f := by
  have HL := Lib.hid hl; clear hl
  go_enter Try.func12, Try.ntmps12
  go_wp2
  go_loopw [1, 5] (NRel k0 n w base A c l f) (fun _ i _ => n - (intOf i).toNat)
  case atStart => exact ⟨0, Nat.zero_le _, rfl, by simp [offN, sumOf], by rw [mixN_0]; exact ha, Wrote.refl _ _⟩
  case round =>
    obtain ⟨k, hk, rfl, rfl, hown, hg⟩ := hrel
    by_cases hlt : k < n
    · have hkl : k < l.length := by have := HL.out; omega
      have he := mixN_get (k0 := k0) hkl
      obtain ⟨g, rfl⟩ := own_some hown (by rw [List.length_map, mixN_len (by omega)]; omega)
      obtain ⟨-, -, -, gf, -, gs⟩ := own_lens hown
      have hcp := own_cap hown
      have hof := offN_succ hkl
      have hol := offN_le l (k + 1)
      have hms := mixN_set (k0 := k0) hkl
      generalize l.getD k default = x at *
      generalize hes : (mixN k0 l k).map encNod = es at *
      obtain ⟨⟨z0, c0⟩, ⟨z1, c1⟩, ⟨z2, c2⟩, ⟨z4, c4⟩, q0, q1, q2, q4, u, c3⟩ := nod_cells hown he
      generalize hK : k0 + offN l k = K at *
      have hKb : K + 4 + x.labels.length ≤ 4611686018427387904 := by omega
      have NS := fun (w2 : World) hb => nod_step (u0 := .int .i64 K) (u1 := .int .i64 ((K : Int) + 1)) (u2 := .string (markT (K + 2))) (u4 := .int .i64 ((K + 3 + x.labels.length : Nat) : Int)) hown he trivial trivial trivial trivial c3 (w2 := w2) hb
      have HR := Lib.hid NS
      have HG := Lib.hid hg
      have HE := Lib.hid hes
      have HK := Lib.hid hK
      have HM := Lib.hid hms
      have HF := Lib.hid hof
      clear hown hg ha he NS hes hK hms hof hol
      go_wp2_with fail
      refine (markText_x _ (K + 2) _ (by omega) (by omega) (by omega)).mono ?_
      rintro e w2 ⟨rfl, hb⟩
      obtain ⟨f2, o3, HN⟩ := HR.out w2 hb
      obtain ⟨hc, hf⟩ := bcell hb
      have hz : g < w2.heap.size := by have := hb.size; simp at this; omega
      have HN := Lib.hid HN
      have HO := Lib.hid o3
      clear hb HR o3
      go_wp2_with fail
      refine (marks_x (markStringS_k x.labels (K + 3) (by omega) (by omega)) HO.out (by omega)).mono ?_
      rintro e w4 ⟨rfl, o4, wr4⟩
      obtain ⟨⟨z5, c5⟩, q5, o5, wr5⟩ := HN.out w4 _ o4 wr4
      have HW := Lib.hid wr5
      have HP := Lib.hid o5
      clear o4 wr4 o5 wr5 HN HO hc hf c0 c1 c2 c3 c4 q0 q1 q2 q4
      go_wp2
      go_roundw
      case rel =>
        refine ⟨k + 1, hlt, rfl, ?_, ?_, HG.out.trans HW.out⟩
        · congr 1; have := HF.out; have := HK.out; omega
        · rw [← HM.out]
          have := HP.out
          unfold mkNd encNod encSs
          exact this
      case measure => simp [intOf]; omega
    · go_wp2
      go_ret
      obtain rfl : k = n := by omega
      obtain rfl : l.length = k := HL.out
      have he : offN l l.length = sumOf wNd l := by unfold offN; rw [List.take_length]
      rw [mixN_end] at hown
      exact ⟨ret_i (by rw [he]), hown, hg⟩
theorem markNodeS_k (l : List Nod) (k0 : Nat) (h0 : 0 < k0) (h1 : k0 + sumOf wNd l ≤ 4611686018427387904) : Marks Try.prog 12 false [encNods l] k0 [encNods (marksN k0 l)] ((k0 + sumOf wNd l : Nat) : Int) := by
  refine ⟨by kernel_rfl, fun w base v vals fs hv ho hnd => ?_⟩
  have hv : vals = [v] := hv
  subst hv
  obtain ⟨_, _, f, _, e, rfl, o0, ho⟩ := ownP_cons ho
  injection e with e1 e2
  subst e1 e2
  obtain ⟨-, rfl⟩ := ownP_nil ho
  obtain ⟨A, n, c, rfl, hn⟩ : ∃ A n c, v = .slice A n c ∧ n = l.length := by
    unfold encNods at o0
    cases o0 with
    | sl h1 h2 h3 h4 h5 h6 =>
      obtain ⟨A, c, e, -, -⟩ := own_shape h1
      exact ⟨A, _, c, e, by rw [List.length_map]⟩
  refine (markNodeS_any A n c base k0 l f w o0 hn.symm h0 h1).mono ?_
  rintro e w' ⟨rfl, h3, h4⟩
  exact ⟨rfl, ⟨h3, trivial⟩, by simpa using h4⟩
theorem marksN_len (k0 : Nat) (l : List Nod) : (marksN k0 l).length = l.length := by simp [marksN]
theorem marksN_get {k0 i : Nat} {l : List Nod} (h : i < l.length) : (marksN k0 l).getD i default = mkNd (k0 + offN l i) (l.getD i default) := by
  unfold marksN
  rw [List.getD_eq_getElem?_getD, List.getElem?_map, List.getElem?_range h]; rfl
set_option maxRecDepth 100000 in
set_option maxHeartbeats 1000000 in
theorem heldNodeS_m (k0 : Nat) (l : List Nod) (h0 : 0 < k0) (h1 : k0 + sumOf wNd l ≤ 4611686018427387904) (hl : l.length ≤ 4611686018427387904) : Meets Try.prog 13 [(false, [encNods (marksN k0 l)]), (false, [.sc (.int .i64 k0)])] [(false, [.sc (.int .i64 ((k0 + sumOf wNd l : Nat) : Int))], true)] := by
  have hml := marksN_len k0 l
  refine meets_upf Try.func13 u_laws_heldNodeS_g rfl ?_; simp only [u_laws_heldNodeS_u]
  simp only [encNods]
  simp (disch := first | omega | (simp only [List.length_take, List.length_drop, List.length_append, List.map_cons, List.map_nil, List.length_map, List.length_cons, List.length_nil, List.length_set, List.length_replicate]; omega) | (simp only [List.length_cons, List.length_nil, Nat.zero_add, Nat.reduceAdd])) only [go_sem, ↓reduceIte, Nat.reduceAdd, Int.reduceNeg, Int.reduceAdd, Int.reduceSub, Int.reduceMul, Int.reduceLT, Int.reduceLE, Int.reduceEq, Int.reduceToNat, Nat.reduceBEq, e_sle, e_sge, e_shl1, e_orI, e_andI, e_shr, wrapu, wrap8, tn1, nat1, ix_s, ix_z, st_s, st_z, fl_s, fl_z, fl1_s, fl1_z, map_s, map_z, true_and]
  refine lp_n l.length (fun i => [.sc (.int .i64 i), .sc (.int .i64 ((k0 + offN l i : Nat) : Int))]) rfl fun i hi => ?_
  simp only [u_laws_heldNodeS_l0]
  by_cases hlt : i < l.length
  · have hg := marksN_get (k0 := k0) hlt
    have hof := offN_succ hlt
    have hol := offN_le l (i + 1)
    generalize l.getD i default = x at *
    generalize offN l i = o at *
    rw [hof]
    have hm := markText_m (k0 + o + 2) (by omega) (by omega)
    have hh := heldStringS_m (k0 + o + 3) x.labels.length (by omega) (by omega)
    unfold mkNd at hg
    have e1 : ((k0 + o : Nat) : Int) + 1 = ((k0 + o + 1 : Nat) : Int) := by omega
    have e2 : ((k0 + o + 1 : Nat) : Int) + 1 = ((k0 + o + 2 : Nat) : Int) := by omega
    have e3 : ((k0 + o + 2 : Nat) : Int) + 1 = ((k0 + o + 3 : Nat) : Int) := by omega
    simp only [encSs] at hh
    repeat' (first | (with_reducible refine jn_in ?_) | (with_reducible refine cl_ok (by assumption) rfl ?_) | (with_reducible refine cl_okP (by assumption) rfl ?_) | (with_reducible refine br_if (fun hbr => ?_) (fun hbr => ?_)) | (with_reducible refine br_ifn (fun hbr => ?_) (fun hbr => ?_)) | (with_reducible refine br_nb (fun hbr => ?_) (fun hbr => ?_)) | (with_reducible refine br_b (fun hbr => ?_) (fun hbr => ?_)) | simp (disch := first | omega | (simp only [List.length_take, List.length_drop, List.length_append, List.map_cons, List.map_nil, List.length_map, List.length_cons, List.length_nil, List.length_set, List.length_replicate]; omega) | (simp only [List.length_cons, List.length_nil, Nat.zero_add, Nat.reduceAdd])) only [go_sem, ↓reduceIte, Nat.reduceAdd, Int.reduceNeg, Int.reduceAdd, Int.reduceSub, Int.reduceMul, Int.reduceLT, Int.reduceLE, Int.reduceEq, Int.reduceToNat, Nat.reduceBEq, e_sle, e_sge, e_shl1, e_orI, e_andI, e_shr, wrapu, wrap8, tn1, nat1, ix_s, ix_z, st_s, st_z, fl_s, fl_z, fl1_s, fl1_z, map_s, map_z, ix_Nod, encNod, encSs, hml, hg, eq_self, e1, e2, e3])
    all_goals first | omega | (rw [show k0 + (o + (4 + x.labels.length)) = k0 + o + 3 + x.labels.length + 1 by omega]; exact ⟨rfl, hlt⟩)
  · obtain rfl : i = l.length := by omega
    have he : offN l l.length = sumOf wNd l := by unfold offN; rw [List.take_length]
    repeat' (first | (with_reducible refine jn_in ?_) | (with_reducible refine cl_ok (by assumption) rfl ?_) | (with_reducible refine cl_okP (by assumption) rfl ?_) | (with_reducible refine br_if (fun hbr => ?_) (fun hbr => ?_)) | (with_reducible refine br_ifn (fun hbr => ?_) (fun hbr => ?_)) | (with_reducible refine br_nb (fun hbr => ?_) (fun hbr => ?_)) | (with_reducible refine br_b (fun hbr => ?_) (fun hbr => ?_)) | simp (disch := first | omega | (simp only [List.length_take, List.length_drop, List.length_append, List.map_cons, List.map_nil, List.length_map, List.length_cons, List.length_nil, List.length_set, List.length_replicate]; omega) | (simp only [List.length_cons, List.length_nil, Nat.zero_add, Nat.reduceAdd])) only [go_sem, ↓reduceIte, Nat.reduceAdd, Int.reduceNeg, Int.reduceAdd, Int.reduceSub, Int.reduceMul, Int.reduceLT, Int.reduceLE, Int.reduceEq, Int.reduceToNat, Nat.reduceBEq, e_sle, e_sge, e_shl1, e_orI, e_andI, e_shr, wrapu, wrap8, tn1, nat1, ix_s, ix_z, st_s, st_z, fl_s, fl_z, fl1_s, fl1_z, map_s, map_z, hml])
    all_goals first | omega | (rw [← he]; rfl) | skip
end Go.Proofs.Ytkcljmgjbjdccaa

namespace Go.Proofs.Ytkcljmgjbjdccaa
open Go.RowKit
set_option maxRecDepth 100000
def partsV : Vec → List Vec | .mk _ _ ps _ _ _ _ _ => ps
def wMk : Vec → Nat
  | .mk k its ps ns cl lv c e => 3 + 3 * its.length + (ps.map fun p => wMk p).sum + ns.length + cl.length + lv.length
theorem wMk_mk (k : Int) (its : List It) (ps : List Vec) (ns cl lv : List ByteArray) (c e : Int) : wMk (.mk k its ps ns cl lv c e) = 3 + 3 * its.length + sumBy wMk ps + ns.length + cl.length + lv.length := by rw [wMk]; rfl
theorem sumBy_lin {α : Type} (f g : α → Nat) : ∀ l : List α, (∀ x ∈ l, f x ≤ 3 + 3 * g x) → sumBy f l ≤ 3 * l.length + 3 * sumBy g l
  | [], _ => by simp [sumBy]
  | x :: l, h => by
    have h1 := h x (List.mem_cons_self ..)
    have h2 := sumBy_lin f g l fun y hy => h y (List.mem_cons_of_mem _ hy)
    have e1 : sumBy f (x :: l) = f x + sumBy f l := by simp [sumBy]
    have e2 : sumBy g (x :: l) = g x + sumBy g l := by simp [sumBy]
    rw [e1, e2, List.length_cons]; omega
theorem wMk_le : ∀ v, wMk v ≤ 3 + 3 * wtV v := Vec.ind fun k its ps ns cl lv c e ih => by
  have h := sumBy_lin wMk wtV ps ih
  have a := wtSs_len (l := ns) (Nat.le_refl _)
  have b := wtSs_len (l := cl) (Nat.le_refl _)
  have d := wtSs_len (l := lv) (Nat.le_refl _)
  have i : its.length ≤ wtItems its := by unfold wtItems; omega
  rw [wMk_mk, wtV_mk]
  omega
def MkVs (l : List Vec) : Prop := ∃ G : Nat → List (List DV), ∀ k0 : Nat, 0 < k0 → k0 + sumBy wMk l ≤ 4611686018427387904 →
  Marks Try.prog 34 false [.sl 34 8 (l.map encV)] k0 [.sl 34 8 (G k0)] ((k0 + sumBy wMk l : Nat) : Int)
noncomputable def mkG (l : List Vec) : Nat → List (List DV) := by
  classical exact if h : MkVs l then Classical.choose h else fun _ => []
theorem mkG_spec {l : List Vec} (h : MkVs l) {k0 : Nat} (h0 : 0 < k0) (h1 : k0 + sumBy wMk l ≤ 4611686018427387904) :
    Marks Try.prog 34 false [.sl 34 8 (l.map encV)] k0 [.sl 34 8 (mkG l k0)] ((k0 + sumBy wMk l : Nat) : Int) := by
  have e : mkG l = Classical.choose h := by unfold mkG; exact dif_pos h
  rw [e]
  exact Classical.choose_spec h k0 h0 h1
noncomputable def mkE (K : Nat) : Vec → List DV
  | .mk k its ps ns cl lv c e => [.sc (.int .i64 (K : Nat)), encIts (marksIt (K + 1) its.length), .sl 34 8 (mkG ps (K + 1 + 3 * its.length)), encSs (marksS (K + 1 + 3 * its.length + sumBy wMk ps) ns.length),
      encSs (marksS (K + 1 + 3 * its.length + sumBy wMk ps + ns.length) cl.length), encSs (marksS (K + 1 + 3 * its.length + sumBy wMk ps + ns.length + cl.length) lv.length),
      .sc (.int .i64 ((K + 1 + 3 * its.length + sumBy wMk ps + ns.length + cl.length + lv.length : Nat) : Int)), .sc (.int .i64 ((K + 1 + 3 * its.length + sumBy wMk ps + ns.length + cl.length + lv.length : Nat) + 1 : Int))]
def offV (l : List Vec) (i : Nat) : Nat := sumBy wMk (l.take i)
noncomputable def mixV (k0 : Nat) (l : List Vec) (i : Nat) : List (List DV) := ((List.range i).map fun j => mkE (k0 + offV l j) (l.getD j default)) ++ (l.drop i).map encV
theorem mixV_0 (k0 : Nat) (l : List Vec) : mixV k0 l 0 = l.map encV := by simp [mixV]
theorem mixV_len {k0 : Nat} {l : List Vec} {i : Nat} (h : i ≤ l.length) : (mixV k0 l i).length = l.length := by simp [mixV]; omega
theorem mixV_get {k0 : Nat} {l : List Vec} {i : Nat} (h : i < l.length) : (mixV k0 l i)[i]? = some (encV (l.getD i default)) := by
  unfold mixV
  rw [List.getElem?_append_right (by simp), List.length_map, List.length_range, Nat.sub_self, List.getElem?_map, List.getElem?_drop, Nat.add_zero, List.getD_eq_getElem?_getD, List.getElem?_eq_getElem h]; rfl
theorem mixV_set {k0 : Nat} {l : List Vec} {i : Nat} (h : i < l.length) : (mixV k0 l i).set i (mkE (k0 + offV l i) (l.getD i default)) = mixV k0 l (i + 1) := by
  unfold mixV
  rw [List.set_append_right _ _ (by simp), List.length_map, List.length_range, Nat.sub_self, List.range_succ, List.map_append, List.append_assoc]
  congr 1
  rw [List.drop_eq_getElem_cons h]; rfl
theorem set_same {α : Type} {l : List α} {j : Nat} {y : α} (h : l[j]? = some y) : l.set j y = l := by
  apply List.ext_getElem?
  intro m
  rw [List.getElem?_set]
  split
  · subst_vars
    split
    · exact h.symm
    · rename_i hn
      rw [List.getElem?_eq_none (by omega)]
  · rfl
section
variable {w : World} {base n c t kk g j off : Nat} {es : List (List DV)} {f : List Nat} {e : List DV} {d : DV} {x u : Value}
theorem set_at {e2 : List DV} (he : es[j]? = some e) : (es.set j e2)[j]? = some e2 := by
  rw [List.getElem?_set, if_pos rfl, if_pos (List.getElem?_eq_some_iff.1 he).1]
theorem store8 (h : OwnL w base [.slice (some ⟨g, 0, none⟩) n c] [.sl t kk es] f) (he : es[j]? = some e) (ho : e[off]? = some (.sc x)) (hu : Sc u) :
    ∃ es', es'[j]? = some (e.set off (.sc u)) ∧ (∀ y, es'.set j y = es.set j y) ∧ OwnL (w.setCell ⟨g, j * kk + off, none⟩ u) base [.slice (some ⟨g, 0, none⟩) n c] [.sl t kk es'] f ∧
      (∃ z, w.cell? ⟨g, j * kk + off, none⟩ = some z) ∧ w.frozen? ⟨g, j * kk + off, none⟩ = false ∧ Wrote w (w.setCell ⟨g, j * kk + off, none⟩ u) f := by
  obtain ⟨a, b, d⟩ := own_store h he ho hu
  obtain ⟨-, -, -, gf, -, gs⟩ := own_lens h
  exact ⟨_, set_at he, fun y => by rw [List.set_set], a, b, d, Wrote.cell w gf gs⟩
theorem sub8 (h : OwnL w base [.slice (some ⟨g, 0, none⟩) n c] [.sl t kk es] f) (he : es[j]? = some e) (ho : e[off]? = some d) :
    ∃ u f2, w.cell? ⟨g, j * kk + off, none⟩ = some u ∧ OwnL w base [u] [d] f2 ∧
      ∀ (w' : World) (d' : DV), OwnL w' base [u] [d'] f2 → Wrote w w' f2 → ∃ es', es'[j]? = some (e.set off d') ∧ (∀ y, es'.set j y = es.set j y) ∧ OwnL w' base [.slice (some ⟨g, 0, none⟩) n c] [.sl t kk es'] f ∧ Wrote w w' f := by
  obtain ⟨u, f2, b1, b2, b3, b4⟩ := own_sub h he ho
  exact ⟨u, f2, b1, b2, fun w' d' ho' hw => ⟨_, set_at he, fun y => by rw [List.set_set], b4 w' d' (fun b hbf hn => hw.block b (h.blocks b hbf).2 hn) ho', hw.mono fun b hb => (b3 b hb).1⟩⟩
end
def VRel (k0 n : Nat) (w : World) (base : Nat) (A : Option Addr) (c : Nat) (l : List Vec) (f : List Nat) (v1 v5 : Value) (wr : World) : Prop :=
  ∃ k : Nat, k ≤ n ∧ v5 = .int .i64 k ∧ v1 = .int .i64 ((k0 + offV l k : Nat) : Int) ∧ OwnL wr base [.slice A n c] [.sl 34 8 (mixV k0 l k)] f ∧ Wrote w wr f
set_option maxHeartbeats 4000000 in
theorem markVectorS_any (A : Option Addr) (n c base k0 : Nat) (l : List Vec) (hall : ∀ p ∈ l, MkVs (partsV p)) (f : List Nat) (w : World) (ha : OwnL w base [.slice A n c] [.sl 34 8 (l.map encV)] f) (hl : l.length = n) (h0 : 0 < k0) (h1 : k0 + sumBy wMk l ≤ 4611686018427387904) :
    Calls Try.prog 34 #[.slice A n c, .int .i64 k0] w fun e w' => e = .returned (.int .i64 ((k0 + sumBy wMk l : Nat) : Int)) ∧ OwnL w' base [.slice A n c] [.sl 34 8 (mixV k0 l l.length)] f ∧ Wrote w w' f := by
  have HL := Lib.hid hl; clear hl
  have HA := Lib.hid hall; clear hall
  go_enter Try.func34, Try.ntmps34
  go_wp2
  go_loopw [1, 5] (VRel k0 n w base A c l f) (fun _ i _ => n - (intOf i).toNat)
  case atStart => exact ⟨0, Nat.zero_le _, rfl, by simp [offV, sumBy], by rw [mixV_0]; exact ha, Wrote.refl _ _⟩
  case round =>
    obtain ⟨k, hk, rfl, rfl, hown, hg⟩ := hrel
    by_cases hlt : k < n
    · have hkl : k < l.length := by have := HL.out; omega
      have he := mixV_get (k0 := k0) hkl
      obtain ⟨g, rfl⟩ := own_some hown (by rw [mixV_len (by omega)]; omega)
      obtain ⟨-, -, -, gf, -, gs⟩ := own_lens hown
      have hcp := own_cap hown
      have hof := sumBy_succ wMk hkl
      have hol := sumBy_le wMk l (k + 1)
      have hms := mixV_set (k0 := k0) hkl
      have hmk := HA.out _ (getD_mem hkl)
      have hoe : offV l (k + 1) = sumBy wMk (l.take (k + 1)) := rfl
      have hoe2 : offV l k = sumBy wMk (l.take k) := rfl
      rw [← hoe, ← hoe2] at hof
      rw [← hoe] at hol
      generalize l.getD k default = x at *
      generalize mixV k0 l k = es at *
      generalize hK : k0 + offV l k = K at *
      obtain ⟨xk, its, ps, ns, cl, lv, xc, xe⟩ := x
      rw [wMk_mk] at hof
      simp only [encV, encV_mk] at he
      simp only [partsV] at hmk
      have hKb : K + 3 + 3 * its.length + sumBy wMk ps + ns.length + cl.length + lv.length ≤ 4611686018427387904 := by omega
      obtain ⟨es1, e1, r1, o1, ⟨z0, c0⟩, q0, t1⟩ := store8 hown (off := 0) (u := .int .i64 (K : Nat)) he rfl trivial
      obtain ⟨u1, g1, c1, p1, N1⟩ := sub8 o1 (off := 1) e1 rfl
      rw [Nat.add_zero] at c0 q0 t1
      simp only [Nat.add_zero] at c1 p1 N1
      have c1' : wr.cell? ⟨g, k * 8 + 1, none⟩ = some u1 := by rw [World.cell?_setCell_other (h := adr_ne (by omega))] at c1; exact c1
      clear c1
      have HM := Lib.hid (And.intro hms (And.intro hmk (And.intro hof (And.intro hK (And.intro hKb h1)))))
      have HN := Lib.hid (And.intro N1 p1)
      have HR := Lib.hid (And.intro r1 (And.intro hg t1))
      clear hown hg ha he N1 p1 o1 e1 hms hmk hof hol hK r1 t1 hoe hoe2
      go_wp2_with fail
      refine (marks_x (markItemS_k its (K + 1) (by omega) (by omega)) HN.out.2 (by omega)).mono ?_
      rintro e w2 ⟨rfl, pp, vv⟩
      obtain ⟨es2, e2, r2, o2, t2⟩ := HN.out.1 w2 _ pp vv
      obtain ⟨u2, g2, c2, p2, N2⟩ := sub8 o2 (off := 2) e2 rfl
      have HN2 := Lib.hid (And.intro N2 p2)
      have HR2 := Lib.hid (And.intro r2 t2)
      clear c0 q0 pp vv HN N2 p2 r2 t2 o2 e2 c1'
      go_wp2_with fail
      refine (marks_x (mkG_spec HM.out.2.1 (k0 := K + 1 + 3 * its.length) (by omega) (by omega)) HN2.out.2 (by omega)).mono ?_
      rintro e w3 ⟨rfl, pp, vv⟩
      obtain ⟨es3, e3, r3, o3, t3⟩ := HN2.out.1 w3 _ pp vv
      obtain ⟨u3, g3, c3, p3, N3⟩ := sub8 o3 (off := 3) e3 rfl
      have HN3 := Lib.hid (And.intro N3 p3)
      have HR3 := Lib.hid (And.intro r3 t3)
      clear pp vv HN2 N3 p3 r3 t3 o3 e3 c2
      go_wp2_with fail
      refine (marks_x (markStringS_k ns (K + 1 + 3 * its.length + sumBy wMk ps) (by omega) (by omega)) HN3.out.2 (by omega)).mono ?_
      rintro e w4 ⟨rfl, pp, vv⟩
      obtain ⟨es4, e4, r4, o4, t4⟩ := HN3.out.1 w4 _ pp vv
      obtain ⟨u4, g4, c4, p4, N4⟩ := sub8 o4 (off := 4) e4 rfl
      have HN4 := Lib.hid (And.intro N4 p4)
      have HR4 := Lib.hid (And.intro r4 t4)
      clear pp vv HN3 N4 p4 r4 t4 o4 e4 c3
      go_wp2_with fail
      refine (marks_x (markStringS_k cl (K + 1 + 3 * its.length + sumBy wMk ps + ns.length) (by omega) (by omega)) HN4.out.2 (by omega)).mono ?_
      rintro e w5 ⟨rfl, pp, vv⟩
      obtain ⟨es5, e5, r5, o5, t5⟩ := HN4.out.1 w5 _ pp vv
      obtain ⟨u5, g5, c5, p5, N5⟩ := sub8 o5 (off := 5) e5 rfl
      have HN5 := Lib.hid (And.intro N5 p5)
      have HR5 := Lib.hid (And.intro r5 t5)
      clear pp vv HN4 N5 p5 r5 t5 o5 e5 c4
      go_wp2_with fail
      refine (marks_x (markStringS_k lv (K + 1 + 3 * its.length + sumBy wMk ps + ns.length + cl.length) (by omega) (by omega)) HN5.out.2 (by omega)).mono ?_
      rintro e w6 ⟨rfl, pp, vv⟩
      obtain ⟨es6, e6, r6, o6, t6⟩ := HN5.out.1 w6 _ pp vv
      obtain ⟨es7, e7, r7, o7, ⟨z6, c6⟩, q6, t7⟩ := store8 o6 (off := 6) (u := .int .i64 ((K + 1 + 3 * its.length + sumBy wMk ps + ns.length + cl.length + lv.length : Nat) : Int)) e6 rfl trivial
      obtain ⟨-, ⟨z7, c7⟩, q7⟩ := own_store o6 (off := 7) (u := .bool true) e6 rfl trivial
      obtain ⟨es8, e8, r8, o8, -, -, t8⟩ := store8 o7 (off := 7) (u := .int .i64 ((K + 1 + 3 * its.length + sumBy wMk ps + ns.length + cl.length + lv.length : Nat) + 1 : Int)) e7 rfl trivial
      have hfin : es8 = mixV k0 l (k + 1) := by
        rw [← HM.out.1, ← HR.out.1, ← HR2.out.1, ← HR3.out.1, ← HR4.out.1, ← HR5.out.1, ← r6, ← r7, ← r8]
        exact (set_same e8).symm
      have hw : Wrote w _ f := (((((((HR.out.2.1.trans HR.out.2.2).trans HR2.out.2).trans HR3.out.2).trans HR4.out.2).trans HR5.out.2).trans t6).trans t7).trans t8
      rw [hfin] at o8
      have HO := Lib.hid (And.intro o8 hw)
      clear pp vv o6 e6 r6 t6 o7 e7 r7 t7 e8 r8 o8 t8 hw hfin HR HR2 HR3 HR4 HR5 HN5
      go_wp2
      go_roundw
      case rel =>
        refine ⟨k + 1, hlt, rfl, ?_, HO.out.1, HO.out.2⟩
        congr 1; have := HM.out.2.2.1; have := HM.out.2.2.2.1; omega
      case measure => simp [intOf]; omega
    · go_wp2
      go_ret
      obtain rfl : k = n := by omega
      obtain rfl : l.length = k := HL.out
      have he : offV l l.length = sumBy wMk l := by unfold offV; rw [List.take_length]
      exact ⟨ret_i (by rw [he]), hown, hg⟩
theorem cell_of_heapV {w w' : World} {b : Nat} (h : w'.heap[b]? = w.heap[b]?) (o : Nat) : w'.cell? ⟨b, o, none⟩ = w.cell? ⟨b, o, none⟩ := by
  unfold World.cell?
  simp only [h]
theorem mkVs_l (l : List Vec) (hall : ∀ p ∈ l, MkVs (partsV p)) : MkVs l := by
  refine ⟨fun k0 => mixV k0 l l.length, fun k0 h0 h1 => ⟨by kernel_rfl, fun w base v vals fs hv ho hnd => ?_⟩⟩
  have hv : vals = [v] := hv
  subst hv
  obtain ⟨_, _, f, _, e, rfl, o0, ho⟩ := ownP_cons ho
  injection e with e1 e2
  subst e1 e2
  obtain ⟨-, rfl⟩ := ownP_nil ho
  obtain ⟨A, n, c, rfl, hn⟩ : ∃ A n c, v = .slice A n c ∧ n = l.length := by
    cases o0 with
    | sl h1 h2 h3 h4 h5 h6 =>
      obtain ⟨A, c, e, -, -⟩ := own_shape h1
      exact ⟨A, _, c, e, by rw [List.length_map]⟩
  refine (markVectorS_any A n c base k0 l hall f w o0 hn.symm h0 h1).mono ?_
  rintro e w' ⟨rfl, h3, h4⟩
  exact ⟨rfl, ⟨h3, trivial⟩, by simpa using h4⟩
theorem mkVs_m : ∀ v : Vec, MkVs (partsV v) := Vec.ind fun k its ps ns cl lv c e ih => mkVs_l ps ih
set_option maxHeartbeats 2000000 in
theorem markVec_k (k : Int) (its : List It) (ps : List Vec) (ns cl lv : List ByteArray) (c e : Int) (k0 : Nat) (h0 : 0 < k0) (h1 : k0 + 3 * its.length + sumBy wMk ps + ns.length + cl.length + lv.length ≤ 4611686018427387904) :
    Marks Try.prog 11 true (encV (.mk k its ps ns cl lv c e)) k0 [.sc (.int .i64 k), encIts (marksIt k0 its.length), .sl 34 8 (mkG ps (k0 + 3 * its.length)), encSs (marksS (k0 + 3 * its.length + sumBy wMk ps) ns.length),
      encSs (marksS (k0 + 3 * its.length + sumBy wMk ps + ns.length) cl.length), encSs (marksS (k0 + 3 * its.length + sumBy wMk ps + ns.length + cl.length) lv.length), .sc (.int .i64 c), .sc (.int .i64 e)]
      ((k0 + 3 * its.length + sumBy wMk ps + ns.length + cl.length + lv.length : Nat) : Int) := by
  refine ⟨by kernel_rfl, fun w base v vals fs hv ho hnd => ?_⟩
  have hv : v = .agg vals.toArray := hv
  subst hv
  simp only [encV, encV_mk] at ho
  obtain ⟨v0, _, f0, _, rfl, rfl, o0, ho⟩ := ownP_cons ho
  obtain ⟨v1, _, f1, _, rfl, rfl, o1, ho⟩ := ownP_cons ho
  obtain ⟨v2, _, f2, _, rfl, rfl, o2, ho⟩ := ownP_cons ho
  obtain ⟨v3, _, f3, _, rfl, rfl, o3, ho⟩ := ownP_cons ho
  obtain ⟨v4, _, f4, _, rfl, rfl, o4, ho⟩ := ownP_cons ho
  obtain ⟨v5, _, f5, _, rfl, rfl, o5, ho⟩ := ownP_cons ho
  obtain ⟨v6, _, f6, _, rfl, rfl, o6, ho⟩ := ownP_cons ho
  obtain ⟨v7, _, f7, _, rfl, rfl, o7, ho⟩ := ownP_cons ho
  obtain ⟨rfl, rfl⟩ := ownP_nil ho
  obtain ⟨rfl, -⟩ := RepL.scOf o0.rep
  obtain ⟨rfl, -⟩ := RepL.scOf o6.rep
  obtain ⟨rfl, -⟩ := RepL.scOf o7.rep
  have e0 := own_flat_nil o0 (by intro d hd; simp at hd; exact ⟨_, hd⟩)
  have e6 := own_flat_nil o6 (by intro d hd; simp at hd; exact ⟨_, hd⟩)
  have e7 := own_flat_nil o7 (by intro d hd; simp at hd; exact ⟨_, hd⟩)
  subst e0 e6 e7
  simp only [List.flatten_cons, List.flatten_nil, List.append_nil, List.nil_append] at hnd
  obtain ⟨n1, hnd, d1⟩ := List.nodup_append.1 hnd
  obtain ⟨n2, hnd, d2⟩ := List.nodup_append.1 hnd
  obtain ⟨n3, hnd, d3⟩ := List.nodup_append.1 hnd
  obtain ⟨n4, n5, d4⟩ := List.nodup_append.1 hnd
  have hfl : ([[], f1, f2, f3, f4, f5, [], []] : List (List Nat)).flatten = f1 ++ (f2 ++ (f3 ++ (f4 ++ f5))) := by simp
  rw [hfl]
  have b1 := fun b hb => (o1.blocks b hb).2
  have b2 := fun b hb => (o2.blocks b hb).2
  have b3 := fun b hb => (o3.blocks b hb).2
  have b4 := fun b hb => (o4.blocks b hb).2
  have b5 := fun b hb => (o5.blocks b hb).2
  have HV := Lib.hid (show MkVs ps from mkVs_m (.mk k its ps ns cl lv c e))
  have HB := Lib.hid (And.intro b1 (And.intro b2 (And.intro b3 (And.intro b4 b5))))
  have HD := Lib.hid (And.intro d1 (And.intro d2 (And.intro d3 d4)))
  have HO := Lib.hid (And.intro o1 (And.intro o2 (And.intro o3 (And.intro o4 o5))))
  have HX := Lib.hid (And.intro o0 (And.intro o6 o7))
  clear ho o0 o1 o2 o3 o4 o5 o6 o7 hnd n1 n2 n3 n4 n5 d1 d2 d3 d4 b1 b2 b3 b4 b5 hfl
  have hal : ∀ o : Obj, Below w.heap.size w (w.alloc o) := fun o => (Below.refl _ _).alloc (Nat.le_refl _) _
  go_enter Try.func11, Try.ntmps11
  go_wp2_with fail
  have q1 := fun o => (HO.out.1).keep (w' := w.alloc o) fun b hb => (hal o).block b (HB.out.1 b hb)
  have q2 := fun o => (HO.out.2.1).keep (w' := w.alloc o) fun b hb => (hal o).block b (HB.out.2.1 b hb)
  have q3 := fun o => (HO.out.2.2.1).keep (w' := w.alloc o) fun b hb => (hal o).block b (HB.out.2.2.1 b hb)
  have q4 := fun o => (HO.out.2.2.2.1).keep (w' := w.alloc o) fun b hb => (hal o).block b (HB.out.2.2.2.1 b hb)
  have q5 := fun o => (HO.out.2.2.2.2).keep (w' := w.alloc o) fun b hb => (hal o).block b (HB.out.2.2.2.2 b hb)
  refine (marks_x (markItemS_k its k0 h0 (by omega)) (q1 _) rfl).mono ?_
  rintro e w1 ⟨rfl, p1, t1⟩
  have hc1 := fun o => cell_of_heapV (t1.block w.heap.size (by simp) (fun hx => absurd (HB.out.1 _ hx) (Nat.lt_irrefl _))) o
  have hz1 : w.heap.size < w1.heap.size := by have := t1.size; simp at this; omega
  have r2 := (q2 _).wrote t1 (fun b hb hx => HD.out.1 b hx b (by simp [hb]) rfl)
  have r3 := (q3 _).wrote t1 (fun b hb hx => HD.out.1 b hx b (by simp [hb]) rfl)
  have r4 := (q4 _).wrote t1 (fun b hb hx => HD.out.1 b hx b (by simp [hb]) rfl)
  have r5 := (q5 _).wrote t1 (fun b hb hx => HD.out.1 b hx b (by simp [hb]) rfl)
  have tt := (Wrote.below (f := f1 ++ (f2 ++ (f3 ++ (f4 ++ f5)))) (hal _)).trans (t1.mono fun b hb => by simp [hb])
  clear q1 q2 q3 q4 q5 hal
  have HQ2 := Lib.hid r2
  have HQ3 := Lib.hid r3
  have HQ4 := Lib.hid r4
  have HQ5 := Lib.hid r5
  have HP1 := Lib.hid p1
  have HT1 := Lib.hid tt
  clear tt p1 t1 r2 r3 r4 r5
  go_wp2_with fail
  refine (marks_x (mkG_spec HV.out (k0 := k0 + 3 * its.length) (by omega) (by omega)) HQ2.out (by omega)).mono ?_
  rintro e w2 ⟨rfl, p2, t2⟩
  have hc2 := fun o => (cell_of_heapV (t2.block w.heap.size hz1 (fun hx => absurd (HB.out.2.1 _ hx) (Nat.lt_irrefl _))) o).trans (hc1 o)
  have hz2 : w.heap.size < w2.heap.size := Nat.lt_of_lt_of_le hz1 t2.size
  have r3 := HQ3.out.wrote t2 (fun b hb hx => HD.out.2.1 b hx b (by simp [hb]) rfl)
  have r4 := HQ4.out.wrote t2 (fun b hb hx => HD.out.2.1 b hx b (by simp [hb]) rfl)
  have r5 := HQ5.out.wrote t2 (fun b hb hx => HD.out.2.1 b hx b (by simp [hb]) rfl)
  have s1 := HP1.out.wrote t2 (fun b hb hx => HD.out.1 b hb b (by simp [hx]) rfl)
  have tt := HT1.out.trans (t2.mono (f := f1 ++ (f2 ++ (f3 ++ (f4 ++ f5)))) fun b hb => by simp [hb])
  clear HQ2 HQ3 HQ4 HQ5 HP1 HT1 hc1
  have HQ3 := Lib.hid r3
  have HQ4 := Lib.hid r4
  have HQ5 := Lib.hid r5
  have HP1 := Lib.hid s1
  have HP2 := Lib.hid p2
  have HT2 := Lib.hid tt
  clear tt p2 t2 r3 r4 r5 s1
  go_wp2_with fail
  refine (marks_x (markStringS_k ns (k0 + 3 * its.length + sumBy wMk ps) (by omega) (by omega)) HQ3.out (by omega)).mono ?_
  rintro e w3 ⟨rfl, p3, t3⟩
  have hc3 := fun o => (cell_of_heapV (t3.block w.heap.size hz2 (fun hx => absurd (HB.out.2.2.1 _ hx) (Nat.lt_irrefl _))) o).trans (hc2 o)
  have hz3 : w.heap.size < w3.heap.size := Nat.lt_of_lt_of_le hz2 t3.size
  have r4 := HQ4.out.wrote t3 (fun b hb hx => HD.out.2.2.1 b hx b (by simp [hb]) rfl)
  have r5 := HQ5.out.wrote t3 (fun b hb hx => HD.out.2.2.1 b hx b (by simp [hb]) rfl)
  have s1 := HP1.out.wrote t3 (fun b hb hx => HD.out.1 b hb b (by simp [hx]) rfl)
  have s2 := HP2.out.wrote t3 (fun b hb hx => HD.out.2.1 b hb b (by simp [hx]) rfl)
  have tt := HT2.out.trans (t3.mono (f := f1 ++ (f2 ++ (f3 ++ (f4 ++ f5)))) fun b hb => by simp [hb])
  clear HQ3 HQ4 HQ5 HP1 HP2 HT2 hc2
  have HQ4 := Lib.hid r4
  have HQ5 := Lib.hid r5
  have HP1 := Lib.hid s1
  have HP2 := Lib.hid s2
  have HP3 := Lib.hid p3
  have HT3 := Lib.hid tt
  clear tt p3 t3 r4 r5 s1 s2
  go_wp2_with fail
  refine (marks_x (markStringS_k cl (k0 + 3 * its.length + sumBy wMk ps + ns.length) (by omega) (by omega)) HQ4.out (by omega)).mono ?_
  rintro e w4 ⟨rfl, p4, t4⟩
  have hc4 := fun o => (cell_of_heapV (t4.block w.heap.size hz3 (fun hx => absurd (HB.out.2.2.2.1 _ hx) (Nat.lt_irrefl _))) o).trans (hc3 o)
  have hz4 : w.heap.size < w4.heap.size := Nat.lt_of_lt_of_le hz3 t4.size
  have r5 := HQ5.out.wrote t4 (fun b hb hx => HD.out.2.2.2 b hx b (by simp [hb]) rfl)
  have s1 := HP1.out.wrote t4 (fun b hb hx => HD.out.1 b hb b (by simp [hx]) rfl)
  have s2 := HP2.out.wrote t4 (fun b hb hx => HD.out.2.1 b hb b (by simp [hx]) rfl)
  have s3 := HP3.out.wrote t4 (fun b hb hx => HD.out.2.2.1 b hb b (by simp [hx]) rfl)
  have tt := HT3.out.trans (t4.mono (f := f1 ++ (f2 ++ (f3 ++ (f4 ++ f5)))) fun b hb => by simp [hb])
  clear HQ4 HQ5 HP1 HP2 HP3 HT3 hc3
  have HQ5 := Lib.hid r5
  have HP1 := Lib.hid s1
  have HP2 := Lib.hid s2
  have HP3 := Lib.hid s3
  have HP4 := Lib.hid p4
  have HT4 := Lib.hid tt
  clear tt p4 t4 r5 s1 s2 s3
  go_wp2_with fail
  refine (marks_x (markStringS_k lv (k0 + 3 * its.length + sumBy wMk ps + ns.length + cl.length) (by omega) (by omega)) HQ5.out (by omega)).mono ?_
  rintro e w5 ⟨rfl, p5, t5⟩
  have hc5 := fun o => (cell_of_heapV (t5.block w.heap.size hz4 (fun hx => absurd (HB.out.2.2.2.2 _ hx) (Nat.lt_irrefl _))) o).trans (hc4 o)
  have hz5 : w.heap.size < w5.heap.size := Nat.lt_of_lt_of_le hz4 t5.size
  have s1 := HP1.out.wrote t5 (fun b hb hx => HD.out.1 b hb b (by simp [hx]) rfl)
  have s2 := HP2.out.wrote t5 (fun b hb hx => HD.out.2.1 b hb b (by simp [hx]) rfl)
  have s3 := HP3.out.wrote t5 (fun b hb hx => HD.out.2.2.1 b hb b (by simp [hx]) rfl)
  have s4 := HP4.out.wrote t5 (fun b hb hx => HD.out.2.2.2 b hb b (by simp [hx]) rfl)
  have tt := HT4.out.trans (t5.mono (f := f1 ++ (f2 ++ (f3 ++ (f4 ++ f5)))) fun b hb => by simp [hb])
  clear HQ5 HP1 HP2 HP3 HP4 HT4 hc4
  have HP1 := Lib.hid s1
  have HP2 := Lib.hid s2
  have HP3 := Lib.hid s3
  have HP4 := Lib.hid s4
  have HP5 := Lib.hid p5
  have HT5 := Lib.hid tt
  clear tt p5 t5 s1 s2 s3 s4
  go_wp2
  go_ret
  refine ⟨ret_i (by simp), ⟨?_, HP1.out, HP2.out, HP3.out, HP4.out, HP5.out, ?_, ?_, trivial⟩, HT5.out⟩
  · exact HX.out.1.keep (by simp)
  · exact HX.out.2.1.keep (by simp)
  · exact HX.out.2.2.keep (by simp)
end Go.Proofs.Ytkcljmgjbjdccaa

namespace Go.Proofs.Ytkcljmgjbjdccaa
open Go.RowKit
theorem sumOf_wNd : ∀ (l : List Nod), sumOf wNd l ≤ 4 * wtNods l
  | [] => by simp [sumOf]
  | x :: l => by
    have ih := sumOf_wNd l
    have h1 : x.labels.length ≤ wtSs x.labels := wtSs_len (Nat.le_refl _)
    have h2 : wtNod x = x.text.size + wtSs x.labels := rfl
    have h3 : wNd x = 4 + x.labels.length := rfl
    simp only [sumOf, wtNods, List.length_cons] at ih ⊢
    omega
end Go.Proofs.Ytkcljmgjbjdccaa

namespace Go.Proofs.Ytkcljmgjbjdccaa
open Go.RowKit
set_option maxRecDepth 100000
theorem cT_wt (v : Vec) (hw : wtV v ≤ 1048576) : wtNods (cT v).1 ≤ 1048586 := by
  obtain ⟨k, its, ps, ns, cl, lv, c, e⟩ := v
  rw [cT_mk]
  have hi : its.length = 1 → (its.getD 0 default).text.size ≤ 1048576 := by
    intro h
    rw [wtV_mk] at hw
    have h1 : wtItems its ≤ 1048576 := by omega
    have hm := getD_mem (l := its) (i := 0) (by omega)
    have h2 := sumBy_mem wtItem hm
    have h3 : wtItem (its.getD 0 default) = (its.getD 0 default).text.size := rfl
    unfold wtItems at h1
    omega
  have w1 : ∀ (a n : Int) (s : ByteArray), s.size ≤ 1048576 → wtNods [ndS a n s] ≤ 1048586 := fun a n s h => by simp [wtNods, wtNod, ndS, wtSs, sumOf]; omega
  have w2 : wtNods ([] : List Nod) ≤ 1048586 := by simp [wtNods, sumOf]
  have w3 : ∀ (n : Int), wtNods [ndS 2 n ⟨#[]⟩, ⟨10, 0, ⟨#[45]⟩, [], 1⟩] ≤ 1048586 := fun n => by
    have e1 : (⟨#[]⟩ : ByteArray).size = 0 := rfl
    have e2 : (⟨#[45]⟩ : ByteArray).size = 1 := rfl
    simp [wtNods, wtNod, ndS, wtSs, sumOf, e1, e2]
  unfold cTr
  split
  · split
    · exact w1 _ _ _ (by decide)
    · split
      · exact w2
      · rename_i hb
        have hl := hi (by omega)
        unfold cTx
        repeat' split
        all_goals first | exact w1 _ _ _ (by decide) | exact w1 _ _ _ hl | exact w2 | exact w3 _ | skip
  · exact w2
set_option maxHeartbeats 8000000 in
theorem lawConstantTree_m (a0 : Vec) (ok0 : OkVec a0) :
    Meets Try.prog 3 [(true, encVL a0)] [(false, [.sc (.bool true)], true)] := by
  have hz0 := szV_m a0 ((1048576 : Int)) ok0 (by omega) (by omega)
  by_cases hc0 : ((wtV a0 : Nat) : Int) ≤ (1048576 : Int)
  rotate_left
  · rw [szF_gt (by omega)] at hz0
    obtain ⟨k, its, ps, ns, cl, lv, c, e⟩ := a0
    simp only [encVL, encV_mk, encSs] at hz0 ⊢
    refine meets_upf Try.func3 u_laws_FnExactConstantTree_g rfl ?_; simp only [u_laws_FnExactConstantTree_u]
    repeat' (first | (with_reducible refine jn_in ?_) | (with_reducible refine cl_ok (by assumption) rfl ?_) | (with_reducible refine cl_okP (by assumption) rfl ?_) | (with_reducible refine br_if (fun hbr => ?_) (fun hbr => ?_)) | (with_reducible refine br_ifn (fun hbr => ?_) (fun hbr => ?_)) | (with_reducible refine br_nb (fun hbr => ?_) (fun hbr => ?_)) | (with_reducible refine br_b (fun hbr => ?_) (fun hbr => ?_)) | simp (disch := first | omega | (simp only [List.length_take, List.length_drop, List.length_append, List.map_cons, List.map_nil, List.length_map, List.length_cons, List.length_nil, List.length_set, List.length_replicate]; omega) | (simp only [List.length_cons, List.length_nil, Nat.zero_add, Nat.reduceAdd])) only [go_sem, ↓reduceIte, Nat.reduceAdd, Int.reduceNeg, Int.reduceAdd, Int.reduceSub, Int.reduceMul, Int.reduceLT, Int.reduceLE, Int.reduceEq, Int.reduceToNat, Nat.reduceBEq, eq_self])
    all_goals first | rfl | omega
  rw [szF_le hc0] at hz0
  have hd0 : decide ((1048576 : Int) - ((wtV a0 : Nat) : Int) < 0) = false := decide_eq_false (by omega)
  have wa0 : wtV a0 ≤ 1048576 := by omega
  have ht0 := toV_m a0 wa0
  have hq0 := eqV_m a0 (by omega)
  have h1 := sCT_m a0 wa0
  have h2 := iCT_m a0 wa0
  have hwr := cT_wt a0 wa0
  have hmv := wMk_le a0
  generalize cT a0 = R at *
  obtain ⟨N, b⟩ := R
  simp only at h1 h2 hwr
  have hln : N.length ≤ 1048586 := by unfold wtNods at hwr; omega
  have hr0 := eqNods_m N (by omega)
  have hsw := sumOf_wNd N
  generalize wtV a0 = W at *
  obtain ⟨k, its, ps, ns, cl, lv, c, e⟩ := a0
  rw [wMk_mk] at hmv
  have hmx0 := markVec_k k its ps ns cl lv c e 1 (by omega) (by omega)
  have hkx : decide (((1 + 3 * its.length + sumBy wMk ps + ns.length + cl.length + lv.length : Nat) : Int) < 0) = false := decide_eq_false (by omega)
  have hmg0 : Marks Try.prog 12 false [encNods N] 1 [encNods (marksN (1) N)] ((1 + sumOf wNd N : Nat) : Int) := markNodeS_k N (1) (by omega) (by omega)
  have hhg0 : Meets Try.prog 13 [(false, [encNods (marksN 1 N)]), (false, [.sc (.int .i64 1)])] [(false, [.sc (.int .i64 ((1 + sumOf wNd N : Nat) : Int))], true)] := heldNodeS_m 1 N (by omega) (by omega) (by omega)
  have hkg0 : decide (((1 + sumOf wNd N : Nat) : Int) < 0) = false := decide_eq_false (by omega)
  rw [show ((1 : Nat) : Int) = 1 from rfl] at hmx0
  simp only [encNods, encVL, encV, encV_mk, encSs, encIts] at hz0 ht0 hq0 h1 h2 hr0 hmx0 hmg0 hhg0 ⊢
  refine meets_upf Try.func3 u_laws_FnExactConstantTree_g rfl ?_; simp only [u_laws_FnExactConstantTree_u]
  repeat' (first | (with_reducible refine cl_ok (by assumption) rfl ?_) | (with_reducible refine cl_okP (by assumption) rfl ?_) | (refine mk_ok (by assumption) ?_ ?_; (· first | exact ⟨⟨_, rfl, rfl⟩, ⟨_, rfl, rfl⟩, trivial⟩ | exact ⟨⟨_, rfl, rfl⟩, ⟨_, rfl, rfl⟩, ⟨_, rfl, rfl⟩, trivial⟩ | exact trivial | exact ⟨⟨_, rfl, rfl⟩, trivial⟩)) | simp (disch := first | omega | (simp only [List.length_take, List.length_drop, List.length_append, List.map_cons, List.map_nil, List.length_map, List.length_cons, List.length_nil, List.length_set, List.length_replicate]; omega) | (simp only [List.length_cons, List.length_nil, Nat.zero_add, Nat.reduceAdd])) only [go_sem, ↓reduceIte, Nat.reduceAdd, Int.reduceNeg, Int.reduceAdd, Int.reduceSub, Int.reduceMul, Int.reduceLT, Int.reduceLE, Int.reduceEq, Int.reduceToNat, Nat.reduceBEq, hd0, hkx, hkg0])
  all_goals first | rfl | omega
end Go.Proofs.Ytkcljmgjbjdccaa

namespace Go.Proofs.Ytkcljmgjbjdccaa.fnExactConstantTree
open Go.ChangeShapes Go.WideShapes Go.ChangeAt Go.RowKit
open Go.ChangeMaps (open_string shut_string)
theorem own : ownKnob Try.prog.godebug = none := by kernel_rfl
theorem laidOut : laidOutB Try.prog = true := by kernel_rfl
set_option maxRecDepth 100000 in
set_option maxHeartbeats 2000000 in
theorem walk {H : Type} (enc : TypeId × Value → H) (v0 : Value) (d0 : DataW H) (p0 : List MemPlace) (base : Nat) (w : World)
    (ok0 : Value.okWide Try.prog w .any base 26 v0) (h0 : DataW.Trod enc Try.prog w 0 (fun _ => true) true 26 v0 d0 p0)
    (sz : (DataW.weightsEach Try.prog [26] [d0]).all (· ≤ reachBytes) = true) :
    Calls Try.prog 3 #[v0] w fun e w' => e = .returned (.bool true) ∧ Below w.heap.size w w' := by
  obtain ⟨a0, r0, i0⟩ := argD_st (base := base) opD_Vec Try.underlying26 h0 ok0
  exact run_law (lawConstantTree_m a0 i0) (ArgsR.cons r0 ArgsR.nil)
set_option maxRecDepth 100000 in
theorem lifted (os : Os) (started : os.Started) (H : Type) (enc : TypeId × Value → H) :
    ReturnsInHanded {} Try.checked os 3 .any (Rows.fnExactConstantTreeSpec.pre6 enc Try.prog Try.f3 Rows.fnExactConstantTreeRow.domain false) (Rows.fnExactConstantTreeSpec.post enc Try.prog Try.f3 false true false false) := by
  refine returnsInHanded_of_change_sized (C := Try.checked) own started (by kernel_rfl) Try.func3
    (ChangeSpec.witness6 (enc := enc) (C := Try.checked) false ⟨#[], #[.agg #[.int .i64 0, .slice none 0 0, .slice none 0 0, .slice none 0 0, .slice none 0 0, .slice none 0 0, .int .i64 0, .int .i64 0]], []⟩ 8 (by kernel_rfl) (by kernel_rfl) (by kernel_rfl) (by kernel_rfl)) ?_
  intro W base args ds gs before hval0 hW hcnd0 hsz0 hholds
  have hval : ∀ (j : Nat) t v, Try.f3.params[j]? = some t → args[j]? = some v → Value.okWide Try.prog W .any base t v := hval0
  have hsz : (DataW.weightsEach Try.prog (Try.f3.params.toList ++ Rows.fnExactConstantTreeSpec.plain.varTypes Try.prog) (ds ++ gs)).all (· ≤ reachBytes) = true := hsz0
  have hW' := hW
  obtain ⟨p, q, hA0, hV, rfl, hfz, hnd⟩ := hW
  have hA : DataW.TrodAll enc Try.prog W 0 (fun _ => true) true Try.f3.params.toList args.toList ds p := hA0
  rw [Try.params3] at hA hval hsz
  obtain ⟨v0, vs0, d0, ds0, p0, q0, hargs, rfl, rfl, h0, r0⟩ := trodAll_cons hA
  obtain ⟨rfl, rfl, rfl⟩ := trodAll_nil r0
  obtain rfl : args = #[v0] := by cases args; simp_all
  obtain ⟨rfl, rfl⟩ := trodVars_none hV
  have lt0 : ∀ x ∈ p0, x.block < W.heap.size := by obtain ⟨m, hm⟩ := h0; exact DataW.trod_lt m _ _ _ hm
  refine (walk enc v0 d0 p0 base W (hval 0 26 v0 rfl rfl) h0 hsz).mono fun e W' ⟨he, bel⟩ => ?_
  subst he
  exact ⟨_, rfl, _, _, _, [], _, [], hW', trodAll_mk1 (shut_bool Try.underlying4 _), (trodAll_cons_mk (Below.trod laidOut (by kernel_rfl) (of_decide_eq_true (by kernel_rfl)) h0 bel lt0) trodAll_mk0), rfl, bel.frame _, fun h => by cases h⟩
theorem over : Rows.fnExactConstantTreeRow.holds Try.pinned (OpenSpec.ofChange Rows.fnExactConstantTreeSpec) :=
  OpenClaim.holds_of_wide 3 Try.f3 rfl rfl rfl rfl rfl rfl rfl ⟨rfl, rfl, rfl, rfl, rfl⟩ rfl rfl rfl rfl rfl (by kernel_rfl) Try.func3 (by kernel_rfl)
    (of_decide_eq_true (by kernel_rfl)) (by unfold Func.isWrapper; first | (rw [if_pos (by decide +kernel)]; kernel_rfl) | (rw [if_neg (by decide +kernel)]; exact ⟨rfl, rfl⟩))
    (fun os started H enc _ => lifted os started H enc)
theorem proved : Rows.FnExactConstantTreeSaid := over
end Go.Proofs.Ytkcljmgjbjdccaa.fnExactConstantTree

