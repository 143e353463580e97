/- Proved: for every input the law 'FnExactIsStore' returns true and its arguments read behind the call as before: part 5 of its proof. No condition. -/
import Derived.WalkKit
import Derived.Lib.Hide
import Derived.WalkSpells
import Derived.Laws.OwnMore
import Derived.Deep.AppendLies
import Derived.Deep.Draws
import Derived.Maps.AppendAt
import Derived.RegionTactic
import Derived.OwnWalk
import Derived.Below
import Derived.Laws.AppendOwnNone
import Derived.Deep.QuietTactic
import Derived.BigQuiet
import Derived.StillTailTactics
import Derived.Laws.Cells
import Derived.Laws.IdiomCopy
import Derived.ChangeKeysEq
import Derived.Laws.BytesArg
import Derived.Laws.StructEq
import Derived.Laws.Tables
import Derived.Great.BuildSlice
import Derived.StillTail
import Derived.OrdersHeld
import Derived.Test.YtkhibgknpcgneaaProg
import Derived.Deep.Slices
import Derived.Deep.Fields
import Derived.ChangeSame
import Derived.OpenShut
import Derived.Laws.ResultCell
import Derived.Deep.RegionWith
import Derived.Test.YtkhibgknpcgneaaRows
import Derived.ProofKit
import Derived.ShutString
import Derived.ChangeOld
import Derived.SizedLaws
import Derived.Test.YtkhibgknpcgneaaExIsStoreQ4
set_option linter.unusedVariables false
set_option linter.unusedSimpArgs false
namespace Go.Proofs.Ytkhibgknpcgneaa
open List (length_take length_drop length_append map_cons map_nil length_map length_cons length_nil length_set length_replicate)
open Go.RowKit
set_option maxRecDepth 100000
theorem sLen_m (k : Int) (its : List It) (ps : List Vec) (ns cl lv : List ByteArray) (c e : Int) (hb : BdV its ps ns cl lv) : Meets Try.prog 59 [(true, encV (.mk k its ps ns cl lv c e))] [(false, [.sc (.int .i64 (lnV k its.length ps.length))], true)] := by
  obtain ⟨b1, b2, -, -, -, -⟩ := hb
  simp only [encV, encV_mk, encSs]
  refine meets_upf Try.func59 u_spec_l4Len_g rfl ?_; simp only [u_spec_l4Len_u]
  unfold lnV
  repeat' (first | (with_reducible first | refine jn_in ?_ | refine cl_ok (by assumption) rfl ?_ | refine cl_okP (by assumption) rfl ?_ | refine br_if (fun hbr => ?_) fun hbr => ?_ | refine br_ifn (fun hbr => ?_) fun hbr => ?_ | refine br_nb (fun hbr => ?_) fun hbr => ?_ | refine br_b (fun hbr => ?_) fun hbr => ?_) | simp (disch := first | omega | (simp only [length_take, length_drop, length_append, map_cons, map_nil, length_map, length_cons, length_nil, length_set, length_replicate]; omega) | (simp only [length_cons, length_nil, Nat.zero_add, Nat.reduceAdd])) only [go_sem, ↓reduceIte, Nat.reduceAdd, Int.reduceNeg, Int.reduceAdd, Int.reduceSub, Int.reduceMul, Int.reduceLT, Int.reduceLE, Int.reduceEq, Int.reduceToNat, Nat.reduceBEq, nat1, true_and])
  · rw [if_pos ‹_›]; rfl
  · rw [if_neg ‹_›]; rfl
theorem dec0 (n : Nat) : decide (0 < (n : Int)) = !decide (n = 0) := by rw [Bool.eq_iff_iff]; simp; omega
def SIs (n : Nat) : Prop := ∀ v, wtV v ≤ 1048576 → Meets Try.prog 43 [(true, encV v), (false, [.sc (.int .i64 n)])] [(false, [.sc (.bool (vcB n v))], true)]
set_option maxHeartbeats 4000000 in
theorem sIs_step (n : Nat) (hn : n ≤ 1000) (ih : ∀ m, n = m + 1 → SIs m) : SIs n := by
  rintro ⟨k, its, ps, ns, cl, lv, c, e⟩ hw
  have hb := bdV hw
  have h1 := sLen_m k its ps ns cl lv c e hb
  obtain ⟨b1, b2, b3, b4, b5, b6⟩ := hb
  have h2 := sNam_m 9 ns b3
  have h3 := sLab_m 9 cl 3 b4
  have h4 := sLab_m 9 lv 20 b5
  have h5 := mIn k 0 5
  have h6 := mIn c (-999) 99999
  have h7 := mIn e 0 99999
  have h8 := fun i => sItem_m k (its.getD i default)
  have h9 := fun i => mIn (its.getD i default).num 1 lv.length
  simp only [encIt] at h8
  rw [vcB_mk]
  have hlen := lnV_bd (k := k) b1 b2
  unfold shB
  generalize hln : lnV k its.length ps.length = ln at *
  simp only [encV, encV_mk, encSs] at h1 ⊢
  refine meets_upf Try.func43 u_spec_l4Is_g rfl ?_; simp only [u_spec_l4Is_u]
  simp (disch := first | omega | (simp only [length_take, length_drop, length_append, map_cons, map_nil, length_map, length_cons, length_nil, length_set, length_replicate]; omega) | (simp only [length_cons, length_nil, Nat.zero_add, Nat.reduceAdd])) only [go_sem, ↓reduceIte, Nat.reduceAdd, Int.reduceNeg, Int.reduceAdd, Int.reduceSub, Int.reduceMul, Int.reduceLT, Int.reduceLE, Int.reduceEq, Int.reduceToNat, Nat.reduceBEq, nat1, true_and]
  refine cl_ok h1 rfl ?_
  simp (disch := first | omega | (simp only [length_take, length_drop, length_append, map_cons, map_nil, length_map, length_cons, length_nil, length_set, length_replicate]; omega) | (simp only [length_cons, length_nil, Nat.zero_add, Nat.reduceAdd])) only [go_sem, ↓reduceIte, Nat.reduceAdd, Int.reduceNeg, Int.reduceAdd, Int.reduceSub, Int.reduceMul, Int.reduceLT, Int.reduceLE, Int.reduceEq, Int.reduceToNat, Nat.reduceBEq, nat1, true_and]
  refine jn_eq [.sc (.bool (!gA k ln ns cl lv))] ?_ ?_
  · unfold gA
    repeat' (first | (with_reducible first | refine jn_in ?_ | refine cl_ok (by assumption) rfl ?_ | refine cl_okP (by assumption) rfl ?_ | refine br_if (fun hbr => ?_) fun hbr => ?_ | refine br_ifn (fun hbr => ?_) fun hbr => ?_ | refine br_nb (fun hbr => ?_) fun hbr => ?_ | refine br_b (fun hbr => ?_) fun hbr => ?_) | simp (disch := first | omega | (simp only [length_take, length_drop, length_append, map_cons, map_nil, length_map, length_cons, length_nil, length_set, length_replicate]; omega) | (simp only [length_cons, length_nil, Nat.zero_add, Nat.reduceAdd])) only [go_sem, ↓reduceIte, Nat.reduceAdd, Int.reduceNeg, Int.reduceAdd, Int.reduceSub, Int.reduceMul, Int.reduceLT, Int.reduceLE, Int.reduceEq, Int.reduceToNat, Nat.reduceBEq, nat1, true_and])
    all_goals first
      | (refine bb ?_; simp [*]; done)
      | (refine bb ?_; simp_all; done)
      | (refine bb ?_; have hz : lv.length = 0 := by omega
         rw [dec0, hz]; simp [*]; done)
      | (refine bb ?_; grind)
      | skip
  simp only [u_spec_l4Is_j5]
  cases hA : gA k ln ns cl lv
  · repeat' (first | (with_reducible first | refine jn_in ?_ | refine cl_ok (by assumption) rfl ?_ | refine cl_okP (by assumption) rfl ?_ | refine br_if (fun hbr => ?_) fun hbr => ?_ | refine br_ifn (fun hbr => ?_) fun hbr => ?_ | refine br_nb (fun hbr => ?_) fun hbr => ?_ | refine br_b (fun hbr => ?_) fun hbr => ?_) | simp (disch := first | omega | (simp only [length_take, length_drop, length_append, map_cons, map_nil, length_map, length_cons, length_nil, length_set, length_replicate]; omega) | (simp only [length_cons, length_nil, Nat.zero_add, Nat.reduceAdd])) only [go_sem, ↓reduceIte, Nat.reduceAdd, Int.reduceNeg, Int.reduceAdd, Int.reduceSub, Int.reduceMul, Int.reduceLT, Int.reduceLE, Int.reduceEq, Int.reduceToNat, Nat.reduceBEq, nat1, true_and])
    all_goals exact ret_b rfl
  rw [Bool.true_and]
  simp (disch := first | omega | (simp only [length_take, length_drop, length_append, map_cons, map_nil, length_map, length_cons, length_nil, length_set, length_replicate]; omega) | (simp only [length_cons, length_nil, Nat.zero_add, Nat.reduceAdd])) only [go_sem, ↓reduceIte, Nat.reduceAdd, Int.reduceNeg, Int.reduceAdd, Int.reduceSub, Int.reduceMul, Int.reduceLT, Int.reduceLE, Int.reduceEq, Int.reduceToNat, Nat.reduceBEq, nat1, true_and]
  refine jn_eq [.sc (.bool (!gB k c e ps.length lv.length))] ?_ ?_
  · unfold gB
    repeat' (first | (with_reducible first | refine jn_in ?_ | refine cl_ok (by assumption) rfl ?_ | refine cl_okP (by assumption) rfl ?_ | refine br_if (fun hbr => ?_) fun hbr => ?_ | refine br_ifn (fun hbr => ?_) fun hbr => ?_ | refine br_nb (fun hbr => ?_) fun hbr => ?_ | refine br_b (fun hbr => ?_) fun hbr => ?_) | simp (disch := first | omega | (simp only [length_take, length_drop, length_append, map_cons, map_nil, length_map, length_cons, length_nil, length_set, length_replicate]; omega) | (simp only [length_cons, length_nil, Nat.zero_add, Nat.reduceAdd])) only [go_sem, ↓reduceIte, Nat.reduceAdd, Int.reduceNeg, Int.reduceAdd, Int.reduceSub, Int.reduceMul, Int.reduceLT, Int.reduceLE, Int.reduceEq, Int.reduceToNat, Nat.reduceBEq, nat1, true_and])
    all_goals first
      | (refine bb ?_; simp [*]; done)
      | (refine bb ?_; simp_all; done)
      | (refine bb ?_; have hz : lv.length = 0 := by omega
         rw [dec0, hz]; simp [*]; done)
      | (refine bb ?_; grind)
      | skip
  simp only [u_spec_l4Is_j4]
  cases hB : gB k c e ps.length lv.length
  · repeat' (first | (with_reducible first | refine jn_in ?_ | refine cl_ok (by assumption) rfl ?_ | refine cl_okP (by assumption) rfl ?_ | refine br_if (fun hbr => ?_) fun hbr => ?_ | refine br_ifn (fun hbr => ?_) fun hbr => ?_ | refine br_nb (fun hbr => ?_) fun hbr => ?_ | refine br_b (fun hbr => ?_) fun hbr => ?_) | simp (disch := first | omega | (simp only [length_take, length_drop, length_append, map_cons, map_nil, length_map, length_cons, length_nil, length_set, length_replicate]; omega) | (simp only [length_cons, length_nil, Nat.zero_add, Nat.reduceAdd])) only [go_sem, ↓reduceIte, Nat.reduceAdd, Int.reduceNeg, Int.reduceAdd, Int.reduceSub, Int.reduceMul, Int.reduceLT, Int.reduceLE, Int.reduceEq, Int.reduceToNat, Nat.reduceBEq, nat1, true_and])
    all_goals exact ret_b rfl
  rw [Bool.true_and]
  have hp0 : k ≠ 4 → ps.length = 0 := by
    intro h4
    unfold gB at hB
    simp only [Bool.and_eq_true, Bool.or_eq_true, decide_eq_true_eq] at hB
    exact hB.2.2.resolve_left h4
  have hp1 : k ≠ 4 → allB (kidB n ps) ps.length = true := fun h => by rw [hp0 h]; rfl
  simp (disch := first | omega | (simp only [length_take, length_drop, length_append, map_cons, map_nil, length_map, length_cons, length_nil, length_set, length_replicate]; omega) | (simp only [length_cons, length_nil, Nat.zero_add, Nat.reduceAdd])) only [go_sem, ↓reduceIte, Nat.reduceAdd, Int.reduceNeg, Int.reduceAdd, Int.reduceSub, Int.reduceMul, Int.reduceLT, Int.reduceLE, Int.reduceEq, Int.reduceToNat, Nat.reduceBEq, nat1, true_and]
  refine br_if (fun hk5 => ?_) (fun hk5 => ?_)
  · rw [hp1 (by omega), Bool.and_true]
    unfold gC
    rw [if_pos hk5]
    repeat' (first | (with_reducible first | refine jn_in ?_ | refine cl_ok (by assumption) rfl ?_ | refine cl_okP (by assumption) rfl ?_ | refine br_if (fun hbr => ?_) fun hbr => ?_ | refine br_ifn (fun hbr => ?_) fun hbr => ?_ | refine br_nb (fun hbr => ?_) fun hbr => ?_ | refine br_b (fun hbr => ?_) fun hbr => ?_) | simp (disch := first | omega | (simp only [length_take, length_drop, length_append, map_cons, map_nil, length_map, length_cons, length_nil, length_set, length_replicate]; omega) | (simp only [length_cons, length_nil, Nat.zero_add, Nat.reduceAdd])) only [go_sem, ↓reduceIte, Nat.reduceAdd, Int.reduceNeg, Int.reduceAdd, Int.reduceSub, Int.reduceMul, Int.reduceLT, Int.reduceLE, Int.reduceEq, Int.reduceToNat, Nat.reduceBEq, nat1, true_and])
    all_goals first
      | (refine ret_b ?_; simp [*]; done)
      | (refine ret_b ?_; simp_all; done)
      | (refine ret_b ?_; grind)
      | skip
  simp (disch := first | omega | (simp only [length_take, length_drop, length_append, map_cons, map_nil, length_map, length_cons, length_nil, length_set, length_replicate]; omega) | (simp only [length_cons, length_nil, Nat.zero_add, Nat.reduceAdd])) only [go_sem, ↓reduceIte, Nat.reduceAdd, Int.reduceNeg, Int.reduceAdd, Int.reduceSub, Int.reduceMul, Int.reduceLT, Int.reduceLE, Int.reduceEq, Int.reduceToNat, Nat.reduceBEq, nat1, true_and]
  refine br_if (fun hk0 => ?_) (fun hk0 => ?_)
  · rw [hp1 (by omega), Bool.and_true]
    unfold gC
    rw [if_neg hk5, if_pos hk0]
    repeat' (first | (with_reducible first | refine jn_in ?_ | refine cl_ok (by assumption) rfl ?_ | refine cl_okP (by assumption) rfl ?_ | refine br_if (fun hbr => ?_) fun hbr => ?_ | refine br_ifn (fun hbr => ?_) fun hbr => ?_ | refine br_nb (fun hbr => ?_) fun hbr => ?_ | refine br_b (fun hbr => ?_) fun hbr => ?_) | simp (disch := first | omega | (simp only [length_take, length_drop, length_append, map_cons, map_nil, length_map, length_cons, length_nil, length_set, length_replicate]; omega) | (simp only [length_cons, length_nil, Nat.zero_add, Nat.reduceAdd])) only [go_sem, ↓reduceIte, Nat.reduceAdd, Int.reduceNeg, Int.reduceAdd, Int.reduceSub, Int.reduceMul, Int.reduceLT, Int.reduceLE, Int.reduceEq, Int.reduceToNat, Nat.reduceBEq, nat1, true_and])
    all_goals first
      | (refine ret_b ?_; simp [*]; done)
      | (refine ret_b ?_; simp_all; done)
      | (refine ret_b ?_; grind)
      | skip
  unfold gC
  rw [if_neg hk5, if_neg hk0]
  simp (disch := first | omega | (simp only [length_take, length_drop, length_append, map_cons, map_nil, length_map, length_cons, length_nil, length_set, length_replicate]; omega) | (simp only [length_cons, length_nil, Nat.zero_add, Nat.reduceAdd])) only [go_sem, ↓reduceIte, Nat.reduceAdd, Int.reduceNeg, Int.reduceAdd, Int.reduceSub, Int.reduceMul, Int.reduceLT, Int.reduceLE, Int.reduceEq, Int.reduceToNat, Nat.reduceBEq, nat1, true_and]
  refine jn_eq [.sc (.bool (decide (k = 4) && decide (0 < its.length)))] ?_ ?_
  · repeat' (first | (with_reducible first | refine jn_in ?_ | refine cl_ok (by assumption) rfl ?_ | refine cl_okP (by assumption) rfl ?_ | refine br_if (fun hbr => ?_) fun hbr => ?_ | refine br_ifn (fun hbr => ?_) fun hbr => ?_ | refine br_nb (fun hbr => ?_) fun hbr => ?_ | refine br_b (fun hbr => ?_) fun hbr => ?_) | simp (disch := first | omega | (simp only [length_take, length_drop, length_append, map_cons, map_nil, length_map, length_cons, length_nil, length_set, length_replicate]; omega) | (simp only [length_cons, length_nil, Nat.zero_add, Nat.reduceAdd])) only [go_sem, ↓reduceIte, Nat.reduceAdd, Int.reduceNeg, Int.reduceAdd, Int.reduceSub, Int.reduceMul, Int.reduceLT, Int.reduceLE, Int.reduceEq, Int.reduceToNat, Nat.reduceBEq, nat1, true_and])
    all_goals first
      | (refine bb ?_; simp [*]; done)
      | (refine bb ?_; simp_all; done)
      | (refine bb ?_; have hz : lv.length = 0 := by omega
         rw [dec0, hz]; simp [*]; done)
      | (refine bb ?_; grind)
      | skip
  simp only [u_spec_l4Is_j3]
  by_cases hk4 : k = 4 ∧ 0 < its.length
  · rw [if_pos hk4.1, decide_eq_true hk4.1, decide_eq_true hk4.2, decide_eq_false (show ¬ its.length = 0 by omega)]
    repeat' (first | (with_reducible first | refine jn_in ?_ | refine cl_ok (by assumption) rfl ?_ | refine cl_okP (by assumption) rfl ?_ | refine br_if (fun hbr => ?_) fun hbr => ?_ | refine br_ifn (fun hbr => ?_) fun hbr => ?_ | refine br_nb (fun hbr => ?_) fun hbr => ?_ | refine br_b (fun hbr => ?_) fun hbr => ?_) | simp (disch := first | omega | (simp only [length_take, length_drop, length_append, map_cons, map_nil, length_map, length_cons, length_nil, length_set, length_replicate]; omega) | (simp only [length_cons, length_nil, Nat.zero_add, Nat.reduceAdd])) only [go_sem, ↓reduceIte, Nat.reduceAdd, Int.reduceNeg, Int.reduceAdd, Int.reduceSub, Int.reduceMul, Int.reduceLT, Int.reduceLE, Int.reduceEq, Int.reduceToNat, Nat.reduceBEq, nat1, true_and])
    all_goals exact ret_b rfl
  have e4 : (decide (k = 4) && decide (0 < its.length)) = false := by rw [← Bool.decide_and, decide_eq_false hk4]
  have e5 : (if k = 4 then decide (its.length = 0) else allB (fun j => itlB k lv.length (its.getD j default)) its.length) = allB (fun j => itlB k lv.length (its.getD j default)) its.length := by
    split
    · have : its.length = 0 := by omega
      rw [this]; rfl
    · rfl
  rw [e4, e5]
  simp (disch := first | omega | (simp only [length_take, length_drop, length_append, map_cons, map_nil, length_map, length_cons, length_nil, length_set, length_replicate]; omega) | (simp only [length_cons, length_nil, Nat.zero_add, Nat.reduceAdd])) only [go_sem, ↓reduceIte, Nat.reduceAdd, Int.reduceNeg, Int.reduceAdd, Int.reduceSub, Int.reduceMul, Int.reduceLT, Int.reduceLE, Int.reduceEq, Int.reduceToNat, Nat.reduceBEq, nat1, true_and]
  refine lp (fun i : Nat => [.sc (.int .i64 i)]) (fun i => i ≤ its.length ∧ allB (fun j => itlB k lv.length (its.getD j default)) i = true) (fun i => its.length - i) 0 rfl ⟨Nat.zero_le _, rfl⟩ ?_
  rintro i ⟨hi, ha⟩
  simp only [u_spec_l4Is_l2]
  by_cases hlt : i < its.length
  · have h8i := h8 i
    have h9i := h9 i
    repeat' (first | (with_reducible first | refine jn_in ?_ | refine cl_ok (by assumption) rfl ?_ | refine cl_okP (by assumption) rfl ?_ | refine br_if (fun hbr => ?_) fun hbr => ?_ | refine br_ifn (fun hbr => ?_) fun hbr => ?_ | refine br_nb (fun hbr => ?_) fun hbr => ?_ | refine br_b (fun hbr => ?_) fun hbr => ?_) | simp (disch := first | omega | (simp only [length_take, length_drop, length_append, map_cons, map_nil, length_map, length_cons, length_nil, length_set, length_replicate]; omega) | (simp only [length_cons, length_nil, Nat.zero_add, Nat.reduceAdd])) only [go_sem, ↓reduceIte, Nat.reduceAdd, Int.reduceNeg, Int.reduceAdd, Int.reduceSub, Int.reduceMul, Int.reduceLT, Int.reduceLE, Int.reduceEq, Int.reduceToNat, Nat.reduceBEq, nat1, u_spec_l4Is_j0, ix_it, encIt])
    all_goals first
      | omega
      | exact ret_b (by rw [allB_no (p := fun j => itlB k lv.length (its.getD j default)) hlt (by (first | (simp [-List.getD_eq_getElem?_getD, itlB, *]; done) | (simp_all [-List.getD_eq_getElem?_getD, itlB]; done) | (simp [-List.getD_eq_getElem?_getD, itlB, *]; omega) | (simp_all [-List.getD_eq_getElem?_getD, itlB]; omega) | omega)), Bool.false_and])
      | exact ret_b (by rw [allB_no (p := fun j => itlB k lv.length (its.getD j default)) hlt (by grind [itlB]), Bool.false_and])
      | exact ⟨i + 1, rfl, ⟨by omega, allB_step ha (by (first | (simp [-List.getD_eq_getElem?_getD, itlB, *]; done) | (simp_all [-List.getD_eq_getElem?_getD, itlB]; done) | (simp [-List.getD_eq_getElem?_getD, itlB, *]; omega) | (simp_all [-List.getD_eq_getElem?_getD, itlB]; omega) | omega))⟩, by omega⟩
      | skip
  obtain rfl : i = its.length := by omega
  rw [ha, Bool.true_and]
  simp (disch := first | omega | (simp only [length_take, length_drop, length_append, map_cons, map_nil, length_map, length_cons, length_nil, length_set, length_replicate]; omega) | (simp only [length_cons, length_nil, Nat.zero_add, Nat.reduceAdd])) only [go_sem, ↓reduceIte, Nat.reduceAdd, Int.reduceNeg, Int.reduceAdd, Int.reduceSub, Int.reduceMul, Int.reduceLT, Int.reduceLE, Int.reduceEq, Int.reduceToNat, Nat.reduceBEq, nat1, true_and]
  refine br_if (fun hx => absurd hx (by omega)) (fun _ => ?_)
  simp (disch := first | omega | (simp only [length_take, length_drop, length_append, map_cons, map_nil, length_map, length_cons, length_nil, length_set, length_replicate]; omega) | (simp only [length_cons, length_nil, Nat.zero_add, Nat.reduceAdd])) only [go_sem, ↓reduceIte, Nat.reduceAdd, Int.reduceNeg, Int.reduceAdd, Int.reduceSub, Int.reduceMul, Int.reduceLT, Int.reduceLE, Int.reduceEq, Int.reduceToNat, Nat.reduceBEq, nat1, true_and]
  refine lp (fun i : Nat => [.sc (.int .i64 i)]) (fun i => i ≤ ps.length ∧ allB (kidB n ps) i = true) (fun i => ps.length - i) 0 rfl ⟨Nat.zero_le _, rfl⟩ ?_
  rintro i ⟨hi2, ha2⟩
  simp only [u_spec_l4Is_l1]
  by_cases hlt2 : i < ps.length
  · rcases n with _ | m
    · repeat' (first | (with_reducible first | refine jn_in ?_ | refine cl_ok (by assumption) rfl ?_ | refine cl_okP (by assumption) rfl ?_ | refine br_if (fun hbr => ?_) fun hbr => ?_ | refine br_ifn (fun hbr => ?_) fun hbr => ?_ | refine br_nb (fun hbr => ?_) fun hbr => ?_ | refine br_b (fun hbr => ?_) fun hbr => ?_) | simp (disch := first | omega | (simp only [length_take, length_drop, length_append, map_cons, map_nil, length_map, length_cons, length_nil, length_set, length_replicate]; omega) | (simp only [length_cons, length_nil, Nat.zero_add, Nat.reduceAdd])) only [go_sem, ↓reduceIte, Nat.reduceAdd, Int.reduceNeg, Int.reduceAdd, Int.reduceSub, Int.reduceMul, Int.reduceLT, Int.reduceLE, Int.reduceEq, Int.reduceToNat, Nat.reduceBEq, nat1, true_and])
      all_goals first
        | omega
        | exact ret_b (by rw [allB_no (p := kidB 0 ps) hlt2 rfl])
        | skip
    · have hm := getD_mem hlt2
      have hc := ih m rfl _ (b6 _ hm)
      have hk : kidB (m + 1) ps i = vcB m (ps.getD i default) := rfl
      have hix : eIdx 8 (some (.sl 42 8 (ps.map encV))) (some (.sc (.int .i64 (i : Int)))) = some (encV (ps.getD i default)) := by rw [ix_V (by omega) (by omega), Int.toNat_natCast]
      have hs : ((m + 1 : Nat) : Int) - 1 = (m : Int) := by omega
      generalize ps.getD i default = x at hc hix hk
      generalize vcB m x = b at hc hk
      obtain ⟨x0, x1, x2, x3, x4, x5, x6, x7⟩ := x
      simp only [encV, encV_mk, encSs] at hc hix
      cases b
      · repeat' (first | (with_reducible first | refine jn_in ?_ | refine cl_ok (by assumption) rfl ?_ | refine cl_okP (by assumption) rfl ?_ | refine br_if (fun hbr => ?_) fun hbr => ?_ | refine br_ifn (fun hbr => ?_) fun hbr => ?_ | refine br_nb (fun hbr => ?_) fun hbr => ?_ | refine br_b (fun hbr => ?_) fun hbr => ?_) | simp (disch := first | omega | (simp only [length_take, length_drop, length_append, map_cons, map_nil, length_map, length_cons, length_nil, length_set, length_replicate]; omega) | (simp only [length_cons, length_nil, Nat.zero_add, Nat.reduceAdd])) only [go_sem, ↓reduceIte, Nat.reduceAdd, Int.reduceNeg, Int.reduceAdd, Int.reduceSub, Int.reduceMul, Int.reduceLT, Int.reduceLE, Int.reduceEq, Int.reduceToNat, Nat.reduceBEq, nat1, hix, hs])
        all_goals first
          | omega
          | exact ret_b (by rw [allB_no (p := kidB (m + 1) ps) hlt2 hk])
          | skip
      · repeat' (first | (with_reducible first | refine jn_in ?_ | refine cl_ok (by assumption) rfl ?_ | refine cl_okP (by assumption) rfl ?_ | refine br_if (fun hbr => ?_) fun hbr => ?_ | refine br_ifn (fun hbr => ?_) fun hbr => ?_ | refine br_nb (fun hbr => ?_) fun hbr => ?_ | refine br_b (fun hbr => ?_) fun hbr => ?_) | simp (disch := first | omega | (simp only [length_take, length_drop, length_append, map_cons, map_nil, length_map, length_cons, length_nil, length_set, length_replicate]; omega) | (simp only [length_cons, length_nil, Nat.zero_add, Nat.reduceAdd])) only [go_sem, ↓reduceIte, Nat.reduceAdd, Int.reduceNeg, Int.reduceAdd, Int.reduceSub, Int.reduceMul, Int.reduceLT, Int.reduceLE, Int.reduceEq, Int.reduceToNat, Nat.reduceBEq, nat1, hix, hs])
        all_goals first
          | omega
          | exact ⟨i + 1, rfl, ⟨by omega, allB_step ha2 hk⟩, by omega⟩
          | skip
  · obtain rfl : i = ps.length := by omega
    repeat' (first | (with_reducible first | refine jn_in ?_ | refine cl_ok (by assumption) rfl ?_ | refine cl_okP (by assumption) rfl ?_ | refine br_if (fun hbr => ?_) fun hbr => ?_ | refine br_ifn (fun hbr => ?_) fun hbr => ?_ | refine br_nb (fun hbr => ?_) fun hbr => ?_ | refine br_b (fun hbr => ?_) fun hbr => ?_) | simp (disch := first | omega | (simp only [length_take, length_drop, length_append, map_cons, map_nil, length_map, length_cons, length_nil, length_set, length_replicate]; omega) | (simp only [length_cons, length_nil, Nat.zero_add, Nat.reduceAdd])) only [go_sem, ↓reduceIte, Nat.reduceAdd, Int.reduceNeg, Int.reduceAdd, Int.reduceSub, Int.reduceMul, Int.reduceLT, Int.reduceLE, Int.reduceEq, Int.reduceToNat, Nat.reduceBEq, nat1, true_and])
    all_goals first | omega | exact ret_b ha2 | skip
theorem sIs_m : ∀ n, n ≤ 1000 → SIs n
  | 0, h => sIs_step 0 h fun m e => by omega
  | n + 1, h => sIs_step (n + 1) h fun m e => by obtain rfl : n = m := by omega
                                                 exact sIs_m n (by omega)
def SCel (n : Nat) : Prop := ∀ v, wtV v ≤ 1048576 → vcB n v = true → Meets Try.prog 44 [(true, encV v)] [(false, [.sc (.int .i64 (ceN n v))], true)]
theorem sCel_step (n : Nat) (hn : n ≤ 3) (ih : ∀ m, n = m + 1 → SCel m) : SCel n := by
  rintro ⟨k, its, ps, ns, cl, lv, c, e⟩ hw hv
  have hb := bdV hw
  have hbd : ((ceN n (.mk k its ps ns cl lv c e) : Nat) : Int) ≤ 3000000 := by have := ceN_bd n hn _ hv; omega
  have h1 := sLen_m k its ps ns cl lv c e hb
  obtain ⟨b1, b2, b3, b4, b5, b6⟩ := hb
  have hlen := lnV_bd (k := k) b1 b2
  rw [ceN_mk] at hbd ⊢
  rw [vcB_mk] at hv
  have hkid := (Bool.and_eq_true _ _ ▸ hv).2
  generalize hln : lnV k its.length ps.length = ln at *
  simp only [encV, encV_mk, encSs] at h1 ⊢
  refine meets_upf Try.func44 u_spec_l4Cells_g rfl ?_; simp only [u_spec_l4Cells_u]
  simp (disch := first | omega | (simp only [length_take, length_drop, length_append, map_cons, map_nil, length_map, length_cons, length_nil, length_set, length_replicate]; omega) | (simp only [length_cons, length_nil, Nat.zero_add, Nat.reduceAdd])) only [go_sem, ↓reduceIte, Nat.reduceAdd, Int.reduceNeg, Int.reduceAdd, Int.reduceSub, Int.reduceMul, Int.reduceLT, Int.reduceLE, Int.reduceEq, Int.reduceToNat, Nat.reduceBEq, nat1, true_and]
  refine cl_ok h1 rfl ?_
  simp (disch := first | omega | (simp only [length_take, length_drop, length_append, map_cons, map_nil, length_map, length_cons, length_nil, length_set, length_replicate]; omega) | (simp only [length_cons, length_nil, Nat.zero_add, Nat.reduceAdd])) only [go_sem, ↓reduceIte, Nat.reduceAdd, Int.reduceNeg, Int.reduceAdd, Int.reduceSub, Int.reduceMul, Int.reduceLT, Int.reduceLE, Int.reduceEq, Int.reduceToNat, Nat.reduceBEq, nat1, true_and]
  refine lp (fun i : Nat => [.sc (.int .i64 i), .sc (.int .i64 (ln + (sumBy (kidC n) (ps.take i) : Nat)))]) (fun i => i ≤ ps.length) (fun i => ps.length - i) 0 (by simp [gL, sumBy]) (Nat.zero_le _) ?_
  intro i hi
  simp only [u_spec_l4Cells_l0]
  have hs1 := sumBy_le (kidC n) ps i
  by_cases hlt : i < ps.length
  · have hs2 := sumBy_le (kidC n) ps (i + 1)
    have hm := getD_mem hlt
    rcases n with _ | m
    · exact absurd (allB_iff.1 hkid i hlt) (by show ¬ false = true; decide)
    · have hk : vcB m (ps.getD i default) = true := allB_iff.1 hkid i hlt
      have hc := ih m rfl _ (b6 _ hm) hk
      have hq : kidC (m + 1) (ps.getD i default) = ceN m (ps.getD i default) := rfl
      have hs3 := sumBy_succ (kidC (m + 1)) hlt
      have hix : eIdx 8 (some (.sl 42 8 (ps.map encV))) (some (.sc (.int .i64 (i : Int)))) = some (encV (ps.getD i default)) := by rw [ix_V (by omega) (by omega), Int.toNat_natCast]
      generalize ps.getD i default = x at hc hix hq hs3
      rw [hq] at hs3
      generalize ceN m x = y at hc hs3
      obtain ⟨x0, x1, x2, x3, x4, x5, x6, x7⟩ := x
      simp only [encV, encV_mk, encSs] at hc hix
      repeat' (first | (with_reducible first | refine jn_in ?_ | refine cl_ok (by assumption) rfl ?_ | refine cl_okP (by assumption) rfl ?_ | refine br_if (fun hbr => ?_) fun hbr => ?_ | refine br_ifn (fun hbr => ?_) fun hbr => ?_ | refine br_nb (fun hbr => ?_) fun hbr => ?_ | refine br_b (fun hbr => ?_) fun hbr => ?_) | simp (disch := first | omega | (simp only [length_take, length_drop, length_append, map_cons, map_nil, length_map, length_cons, length_nil, length_set, length_replicate]; omega) | (simp only [length_cons, length_nil, Nat.zero_add, Nat.reduceAdd])) only [go_sem, ↓reduceIte, Nat.reduceAdd, Int.reduceNeg, Int.reduceAdd, Int.reduceSub, Int.reduceMul, Int.reduceLT, Int.reduceLE, Int.reduceEq, Int.reduceToNat, Nat.reduceBEq, nat1, hix])
      all_goals first
        | omega
        | exact ⟨i + 1, by congr 4; omega, by omega, by omega⟩
        | skip
  · obtain rfl : i = ps.length := by omega
    rw [List.take_length] at *
    repeat' (first | (with_reducible first | refine jn_in ?_ | refine cl_ok (by assumption) rfl ?_ | refine cl_okP (by assumption) rfl ?_ | refine br_if (fun hbr => ?_) fun hbr => ?_ | refine br_ifn (fun hbr => ?_) fun hbr => ?_ | refine br_nb (fun hbr => ?_) fun hbr => ?_ | refine br_b (fun hbr => ?_) fun hbr => ?_) | simp (disch := first | omega | (simp only [length_take, length_drop, length_append, map_cons, map_nil, length_map, length_cons, length_nil, length_set, length_replicate]; omega) | (simp only [length_cons, length_nil, Nat.zero_add, Nat.reduceAdd])) only [go_sem, ↓reduceIte, Nat.reduceAdd, Int.reduceNeg, Int.reduceAdd, Int.reduceSub, Int.reduceMul, Int.reduceLT, Int.reduceLE, Int.reduceEq, Int.reduceToNat, Nat.reduceBEq, nat1, true_and])
    all_goals first | omega | exact ret_z (by omega) | skip
theorem sCel_m : ∀ n, n ≤ 3 → SCel n
  | 0, h => sCel_step 0 h fun m e => by omega
  | n + 1, h => sCel_step (n + 1) h fun m e => by obtain rfl : n = m := by omega
                                                  exact sCel_m n (by omega)
theorem sIsVec_m (v : Vec) (hw : wtV v ≤ 1048576) : Meets Try.prog 27 [(true, encV v)] [(false, [.sc (.bool (isVc v))], true)] := by
  have h1 := sIs_m 3 (by omega) v hw
  rw [show ((3 : Nat) : Int) = 3 from rfl] at h1
  have h2 := sCel_m 3 (by omega) v hw
  unfold isVc
  generalize ceN 3 v = y at *
  generalize vcB 3 v = b at *
  obtain ⟨k, its, ps, ns, cl, lv, c, e⟩ := v
  simp only [encV, encV_mk, encSs] at h1 h2 ⊢
  refine meets_upf Try.func27 u_spec_IsVector_g rfl ?_; simp only [u_spec_IsVector_u]
  cases b
  · repeat' (first | (with_reducible first | refine jn_in ?_ | refine cl_ok (by assumption) rfl ?_ | refine cl_okP (by assumption) rfl ?_ | refine br_if (fun hbr => ?_) fun hbr => ?_ | refine br_ifn (fun hbr => ?_) fun hbr => ?_ | refine br_nb (fun hbr => ?_) fun hbr => ?_ | refine br_b (fun hbr => ?_) fun hbr => ?_) | simp (disch := first | omega | (simp only [length_take, length_drop, length_append, map_cons, map_nil, length_map, length_cons, length_nil, length_set, length_replicate]; omega) | (simp only [length_cons, length_nil, Nat.zero_add, Nat.reduceAdd])) only [go_sem, ↓reduceIte, Nat.reduceAdd, Int.reduceNeg, Int.reduceAdd, Int.reduceSub, Int.reduceMul, Int.reduceLT, Int.reduceLE, Int.reduceEq, Int.reduceToNat, Nat.reduceBEq, nat1, true_and])
    all_goals exact ret_b rfl
  · have h3 := h2 rfl
    repeat' (first | (with_reducible first | refine jn_in ?_ | refine cl_ok (by assumption) rfl ?_ | refine cl_okP (by assumption) rfl ?_ | refine br_if (fun hbr => ?_) fun hbr => ?_ | refine br_ifn (fun hbr => ?_) fun hbr => ?_ | refine br_nb (fun hbr => ?_) fun hbr => ?_ | refine br_b (fun hbr => ?_) fun hbr => ?_) | simp (disch := first | omega | (simp only [length_take, length_drop, length_append, map_cons, map_nil, length_map, length_cons, length_nil, length_set, length_replicate]; omega) | (simp only [length_cons, length_nil, Nat.zero_add, Nat.reduceAdd])) only [go_sem, ↓reduceIte, Nat.reduceAdd, Int.reduceNeg, Int.reduceAdd, Int.reduceSub, Int.reduceMul, Int.reduceLT, Int.reduceLE, Int.reduceEq, Int.reduceToNat, Nat.reduceBEq, nat1, true_and])
    all_goals exact ret_b rfl
end Go.Proofs.Ytkhibgknpcgneaa

namespace Go.Proofs.Ytkhibgknpcgneaa
open Go.RowKit
set_option maxRecDepth 100000
def u_impl_IsVector_h : List Hint := []
def u_impl_IsVector_d : List (Nat × Nat × Bool × List Nat) := []
def u_impl_IsVector_u : UP := .po (.k (.bool false)) <| .po (.k (.int .i64 4)) <| .cl 67 [(true, [9, 8, 7, 6, 5, 4, 3, 2]), (false, [0])] [(false, [none], true)] <| .po (.k (.int .i64 3)) <| .po (.bin .leq false 1 0) <| .ite 0 (.sel [5, 6, 7, 8, 9, 10, 11, 12] <| .cl 68 [(true, [7, 6, 5, 4, 3, 2, 1, 0])] [(false, [none], true)] <| .ite 0 (.cl 69 [(true, [8, 7, 6, 5, 4, 3, 2, 1])] [(false, [none], true)] <| .po (.k (.int .i64 200)) <| .po (.bin .leq false 1 0) <| .po (.sc 0) <| .ret [(false, [0])]) <| .po (.k (.bool false)) <| .po (.sc 0) <| .ret [(false, [0])]) <| .po (.k (.bool false)) <| .po (.k (.bool false)) <| .po (.sc 0) <| .ret [(false, [0])]
theorem u_impl_IsVector_g : toUPf Try.prog 51 Try.f51 owA u_impl_IsVector_h u_impl_IsVector_d = some ([(true, 8)], u_impl_IsVector_u) := by kernel_rfl
def u_impl_cells_h : List Hint := [⟨3000003, 2, ⟨[(11, .p false [.d 12]), (10, .p false [.d 10]), (9, .p false [.d 2]), (3, .p false [.d 13]), (2, .p false [.d 8]), (1, .p false [.ptr 0 0 0]), (0, .p true [.d 0, .d 1, .d 2, .d 3, .d 4, .d 5, .d 6, .d 7])], [(0, .var 0 42 [.d 0, .d 1, .d 2, .d 3, .d 4, .d 5, .d 6, .d 7])], 1, 1, 14, []⟩, []⟩]
def u_impl_cells_d : List (Nat × Nat × Bool × List Nat) := []
def u_impl_cells_l0 : UP := .po (.bin .lss false 1 3) <| .ite 0 (.po (.isI 2) <| .po (.idx 8 6 2) <| .po (.k (.int .i64 0)) <| .po (.k (.int .i64 0)) <| .po (.k (.int .i64 0)) <| .sel [3, 4, 5, 6, 7, 8, 9, 10, 12, 13] <| .cl 69 [(true, [7, 6, 5, 4, 3, 2, 1, 0])] [(false, [none], true)] <| .po (.bin .add false 9 0) <| .po (.k (.int .i64 1)) <| .po (.bin .add false 12 0) <| .jump 0 [0, 2]) <| .po (.sc 1) <| .ret [(false, [1])]
def u_impl_cells_u : UP := .po (.k (.int .i64 0)) <| .cl 79 [(true, [8, 7, 6, 5, 4, 3, 2, 1])] [(false, [none], true)] <| .po (.lenL 7) <| .po (.k (.int .i64 0)) <| .sel [0, 1, 2, 9] <| .loop [0, 2] u_impl_cells_l0
theorem u_impl_cells_g : toUPf Try.prog 69 Try.f69 owA u_impl_cells_h u_impl_cells_d = some ([(true, 8)], u_impl_cells_u) := by kernel_rfl
def u_impl_isAtomic_h : List Hint := []
def u_impl_isAtomic_d : List (Nat × Nat × Bool × List Nat) := []
def u_impl_isAtomic_u : UP := .po (.k (.bool false)) <| .po (.k (.int .i64 1)) <| .po (.bin .eql false 9 0) <| .ite 0 (.po (.k (.bool true)) <| .po (.k (.bool true)) <| .po (.sc 0) <| .ret [(false, [0])]) <| .po (.k (.int .i64 2)) <| .po (.bin .eql false 11 0) <| .ite 0 (.po (.k (.bool true)) <| .po (.sc 0) <| .ret [(false, [0])]) <| .po (.k (.int .i64 3)) <| .po (.bin .eql false 13 0) <| .po (.sc 0) <| .ret [(false, [0])]
theorem u_impl_isAtomic_g : toUPf Try.prog 85 Try.f85 owA u_impl_isAtomic_h u_impl_isAtomic_d = some ([(true, 8)], u_impl_isAtomic_u) := by kernel_rfl
def u_impl_length_h : List Hint := []
def u_impl_length_d : List (Nat × Nat × Bool × List Nat) := []
def u_impl_length_u : UP := .po (.k (.int .i64 0)) <| .po (.k (.int .i64 5)) <| .po (.bin .eql false 9 0) <| .ite 0 (.po (.k (.int .i64 1)) <| .po (.sc 0) <| .ret [(false, [0])]) <| .po (.lenL 9) <| .po (.lenL 9) <| .po (.bin .add false 1 0) <| .po (.sc 0) <| .ret [(false, [0])]
theorem u_impl_length_g : toUPf Try.prog 79 Try.f79 owA u_impl_length_h u_impl_length_d = some ([(true, 8)], u_impl_length_u) := by kernel_rfl
def u_impl_nest_h : List Hint := [⟨3000005, 2, ⟨[(13, .p false [.d 15]), (12, .p false [.d 13]), (11, .p false [.d 2]), (9, .p false [.d 12]), (5, .p false [.d 16]), (4, .p false [.d 9]), (2, .p false [.ptr 0 0 0]), (0, .p true [.d 0, .d 1, .d 2, .d 3, .d 4, .d 5, .d 6, .d 7]), (1, .p false [.d 8])], [(0, .var 0 42 [.d 0, .d 1, .d 2, .d 3, .d 4, .d 5, .d 6, .d 7])], 1, 1, 17, [(12, false)]⟩, []⟩]
def u_impl_nest_d : List (Nat × Nat × Bool × List Nat) := []
def u_impl_nest_l0 : UP := .po (.bin .lss false 1 3) <| .ite 0 (.po (.isI 2) <| .po (.idx 8 7 2) <| .po (.k (.int .i64 0)) <| .po (.k (.int .i64 0)) <| .po (.k (.int .i64 0)) <| .po (.k (.int .i64 1)) <| .po (.bin .sub false 18 0) <| .sel [0, 5, 6, 7, 8, 9, 10, 11, 12, 14, 15] <| .cl 67 [(true, [8, 7, 6, 5, 4, 3, 2, 1]), (false, [0])] [(false, [none], true)] <| .po (.k (.int .i64 1)) <| .po (.bin .add false 0 1) <| .po (.mm true 12 0) <| .po (.k (.int .i64 1)) <| .po (.bin .add false 15 0) <| .jump 0 [0, 2]) <| .po (.sc 1) <| .ret [(false, [1])]
def u_impl_nest_u : UP := .po (.k (.int .i64 0)) <| .po (.k (.int .i64 0)) <| .po (.k (.int .i64 0)) <| .po (.bin .eql false 3 0) <| .ite 0 (.po (.k (.int .i64 1)) <| .po (.sc 0) <| .ret [(false, [0])]) <| .po (.lenL 10) <| .po (.k (.int .i64 0)) <| .sel [0, 1, 4, 6, 12] <| .loop [0, 2] u_impl_nest_l0
theorem u_impl_nest_g : toUPf Try.prog 67 Try.f67 owA u_impl_nest_h u_impl_nest_d = some ([(true, 8), (false, 1)], u_impl_nest_u) := by kernel_rfl
def u_impl_partsValid_h : List Hint := [⟨3000004, 1, ⟨[(11, .p false [.d 13]), (10, .p false [.d 11]), (9, .p false [.d 2]), (7, .p false [.d 10]), (2, .p false [.d 8]), (1, .p false [.ptr 0 0 0]), (0, .p true [.d 0, .d 1, .d 2, .d 3, .d 4, .d 5, .d 6, .d 7])], [(0, .var 0 42 [.d 0, .d 1, .d 2, .d 3, .d 4, .d 5, .d 6, .d 7])], 1, 1, 14, [(10, false), (8, false)]⟩, []⟩]
def u_impl_partsValid_d : List (Nat × Nat × Bool × List Nat) := []
def u_impl_partsValid_l0 : UP := .po (.bin .lss false 0 2) <| .ite 0 (.po (.isI 1) <| .po (.idx 8 4 1) <| .po (.k (.int .i64 0)) <| .po (.k (.int .i64 0)) <| .po (.k (.int .i64 0)) <| .sel [3, 4, 5, 6, 7, 8, 9, 10, 12] <| .cl 68 [(true, [7, 6, 5, 4, 3, 2, 1, 0])] [(false, [none], true)] <| .po (.un .not 0) <| .ite 0 (.po (.k (.bool false)) <| .po (.sc 0) <| .ret [(false, [0])]) <| .po (.k (.int .i64 1)) <| .po (.bin .add false 11 0) <| .jump 0 [0]) <| .po (.k (.bool true)) <| .po (.sc 0) <| .ret [(false, [0])]
def u_impl_partsValid_u : UP := .po (.k (.bool false)) <| .cl 78 [(true, [8, 7, 6, 5, 4, 3, 2, 1])] [(false, [none], true)] <| .po (.un .not 0) <| .ite 0 (.po (.k (.bool false)) <| .po (.sc 0) <| .ret [(false, [0])]) <| .po (.lenL 8) <| .po (.k (.int .i64 0)) <| .sel [0, 1, 10] <| .loop [0] u_impl_partsValid_l0
theorem u_impl_partsValid_g : toUPf Try.prog 68 Try.f68 owA u_impl_partsValid_h u_impl_partsValid_d = some ([(true, 8)], u_impl_partsValid_u) := by kernel_rfl
def u_impl_shapeValid_h : List Hint := [⟨2000003, 5, ⟨[(187, .p false [.d 35]), (160, .p false [.d 36]), (7, .p false [.ptr 1 1 0]), (148, .p false [.d 34]), (147, .p false [.d 33]), (146, .p false [.d 31]), (145, .p false [.d 1]), (143, .p false [.d 30]), (128, .p false [.d 29]), (93, .p false [.d 28]), (80, .p false [.d 27]), (54, .p false [.d 26]), (53, .p false [.d 25]), (52, .p false [.d 23]), (51, .p false [.d 3]), (49, .p false [.d 22]), (33, .p false [.d 21]), (3, .p false [.d 9]), (2, .p false [.d 8]), (1, .p false [.ptr 0 0 0]), (0, .p true [.d 0, .d 1, .d 2, .d 3, .d 4, .d 5, .d 6, .d 7])], [(0, .var 0 42 [.d 0, .d 1, .d 2, .d 3, .d 4, .d 5, .d 6, .d 7]), (1, .var 1 75 [.d 37, .d 38, .d 39])], 2, 2, 40, [(34, true), (30, false), (29, false), (28, false), (27, false), (26, false), (22, false), (21, false), (18, false), (15, false), (13, false), (11, false), (8, false)]⟩, []⟩, ⟨3000021, 1, ⟨[(147, .p false [.d 33]), (146, .p false [.d 31]), (145, .p false [.d 1]), (143, .p false [.d 30]), (128, .p false [.d 29]), (93, .p false [.d 28]), (80, .p false [.d 27]), (54, .p false [.d 26]), (53, .p false [.d 25]), (52, .p false [.d 23]), (51, .p false [.d 3]), (49, .p false [.d 22]), (33, .p false [.d 21]), (3, .p false [.d 9]), (2, .p false [.d 8]), (1, .p false [.ptr 0 0 0]), (0, .p true [.d 0, .d 1, .d 2, .d 3, .d 4, .d 5, .d 6, .d 7])], [(0, .var 0 42 [.d 0, .d 1, .d 2, .d 3, .d 4, .d 5, .d 6, .d 7])], 1, 1, 34, [(30, false), (29, false), (28, false), (27, false), (26, false), (22, false), (21, false), (18, false), (15, false), (13, false), (11, false), (8, false)]⟩, []⟩, ⟨18, 1, ⟨[(143, .p false [.d 30]), (128, .p false [.d 29]), (93, .p false [.d 28]), (80, .p false [.d 27]), (54, .p false [.d 26]), (53, .p false [.d 25]), (52, .p false [.d 23]), (51, .p false [.d 3]), (49, .p false [.d 22]), (33, .p false [.d 21]), (3, .p false [.d 9]), (2, .p false [.d 8]), (1, .p false [.ptr 0 0 0]), (0, .p true [.d 0, .d 1, .d 2, .d 3, .d 4, .d 5, .d 6, .d 7])], [(0, .var 0 42 [.d 0, .d 1, .d 2, .d 3, .d 4, .d 5, .d 6, .d 7])], 1, 1, 31, [(29, false), (28, false), (27, false), (26, false), (22, false), (21, false), (18, false), (15, false), (13, false), (11, false), (8, false)]⟩, []⟩, ⟨16, 1, ⟨[(128, .p false [.d 29]), (93, .p false [.d 28]), (80, .p false [.d 27]), (54, .p false [.d 26]), (53, .p false [.d 25]), (52, .p false [.d 23]), (51, .p false [.d 3]), (49, .p false [.d 22]), (33, .p false [.d 21]), (3, .p false [.d 9]), (2, .p false [.d 8]), (1, .p false [.ptr 0 0 0]), (0, .p true [.d 0, .d 1, .d 2, .d 3, .d 4, .d 5, .d 6, .d 7])], [(0, .var 0 42 [.d 0, .d 1, .d 2, .d 3, .d 4, .d 5, .d 6, .d 7])], 1, 1, 30, [(28, false), (27, false), (26, false), (22, false), (21, false), (18, false), (15, false), (13, false), (11, false), (8, false)]⟩, []⟩, ⟨14, 1, ⟨[(93, .p false [.d 28]), (80, .p false [.d 27]), (54, .p false [.d 26]), (53, .p false [.d 25]), (52, .p false [.d 23]), (51, .p false [.d 3]), (49, .p false [.d 22]), (33, .p false [.d 21]), (3, .p false [.d 9]), (2, .p false [.d 8]), (1, .p false [.ptr 0 0 0]), (0, .p true [.d 0, .d 1, .d 2, .d 3, .d 4, .d 5, .d 6, .d 7])], [(0, .var 0 42 [.d 0, .d 1, .d 2, .d 3, .d 4, .d 5, .d 6, .d 7])], 1, 1, 29, [(27, false), (26, false), (22, false), (21, false), (18, false), (15, false), (13, false), (11, false), (8, false)]⟩, []⟩, ⟨12, 1, ⟨[(80, .p false [.d 27]), (54, .p false [.d 26]), (53, .p false [.d 25]), (52, .p false [.d 23]), (51, .p false [.d 3]), (49, .p false [.d 22]), (33, .p false [.d 21]), (3, .p false [.d 9]), (2, .p false [.d 8]), (1, .p false [.ptr 0 0 0]), (0, .p true [.d 0, .d 1, .d 2, .d 3, .d 4, .d 5, .d 6, .d 7])], [(0, .var 0 42 [.d 0, .d 1, .d 2, .d 3, .d 4, .d 5, .d 6, .d 7])], 1, 1, 28, [(26, false), (22, false), (21, false), (18, false), (15, false), (13, false), (11, false), (8, false)]⟩, []⟩, ⟨3000007, 1, ⟨[(53, .p false [.d 25]), (52, .p false [.d 23]), (51, .p false [.d 3]), (49, .p false [.d 22]), (33, .p false [.d 21]), (3, .p false [.d 9]), (2, .p false [.d 8]), (1, .p false [.ptr 0 0 0]), (0, .p true [.d 0, .d 1, .d 2, .d 3, .d 4, .d 5, .d 6, .d 7])], [(0, .var 0 42 [.d 0, .d 1, .d 2, .d 3, .d 4, .d 5, .d 6, .d 7])], 1, 1, 26, [(22, false), (21, false), (18, false), (15, false), (13, false), (11, false), (8, false)]⟩, []⟩, ⟨4, 1, ⟨[(49, .p false [.d 22]), (33, .p false [.d 21]), (3, .p false [.d 9]), (2, .p false [.d 8]), (1, .p false [.ptr 0 0 0]), (0, .p true [.d 0, .d 1, .d 2, .d 3, .d 4, .d 5, .d 6, .d 7])], [(0, .var 0 42 [.d 0, .d 1, .d 2, .d 3, .d 4, .d 5, .d 6, .d 7])], 1, 1, 23, [(21, false), (18, false), (15, false), (13, false), (11, false), (8, false)]⟩, []⟩]
def u_impl_shapeValid_d : List (Nat × Nat × Bool × List Nat) := []
def u_impl_shapeValid_j0 : UP := .po (.k (.int .i64 1)) <| .po (.bin .add false 7 0) <| .jump 1 [0]
def u_impl_shapeValid_l1 : UP := .po (.bin .lss false 0 2) <| .ite 0 (.join 5 u_impl_shapeValid_j0 <| .po (.isI 1) <| .po (.idx 3 10 1) <| .po (.k (.int .i64 0)) <| .po (.k (.int .i64 0)) <| .po (.k (.string ⟨#[]⟩)) <| .sel [3, 4, 5, 10, 11, 12, 13, 14, 15, 16, 17] <| .cl 85 [(true, [10, 9, 8, 7, 6, 5, 4, 3])] [(false, [none], true)] <| .po (.un .not 0) <| .ite 0 (.po (.k (.bool true)) <| .po (.k (.bool false)) <| .po (.sc 0) <| .ret [(false, [0])]) <| .sel [2, 3, 4, 7, 12] <| .cl 86 [(false, [4]), (true, [2, 1, 0])] [(false, [none], true)] <| .po (.un .not 0) <| .ite 0 (.po (.k (.bool false)) <| .po (.sc 0) <| .ret [(false, [0])]) <| .po (.lenL 5) <| .po (.k (.int .i64 0)) <| .po (.bin .gtr false 1 0) <| .ite 0 (.sel [3, 5, 6, 7, 8] <| .cl 87 [(true, [3, 2, 1])] [(false, [none], true)] <| .po (.un .not 0) <| .ite 0 (.po (.k (.int .i64 1)) <| .po (.bin .neq false 5 0) <| .ite 0 (.po (.k (.bool true)) <| .po (.k (.bool true)) <| .po (.k (.bool false)) <| .po (.sc 0) <| .ret [(false, [0])]) <| .po (.k (.int .i64 1)) <| .po (.bin .lss false 8 0) <| .ite 0 (.po (.k (.bool true)) <| .po (.k (.bool false)) <| .po (.sc 0) <| .ret [(false, [0])]) <| .po (.lenL 10) <| .po (.bin .gtr false 10 0) <| .ite 0 (.po (.k (.bool false)) <| .po (.sc 0) <| .ret [(false, [0])]) <| .jump 2 [0, 8, 11, 10, 9]) <| .po (.k (.bool false)) <| .jump 2 [0, 3, 6, 5, 4]) <| .po (.k (.bool false)) <| .po (.k (.bool false)) <| .jump 2 [0, 5, 9, 8, 7]) <| .po (.k (.bool true)) <| .po (.sc 0) <| .ret [(false, [0])]
def u_impl_shapeValid_j2 : UP := .ite 0 (.po (.k (.bool false)) <| .po (.sc 0) <| .ret [(false, [0])]) <| .po (.lenL 10) <| .po (.k (.int .i64 0)) <| .sel [0, 1, 6, 7, 8, 9, 10, 11, 12, 13] <| .loop [0] u_impl_shapeValid_l1
def u_impl_shapeValid_j3 : UP := .ite 0 (.po (.k (.bool false)) <| .po (.sc 0) <| .ret [(false, [0])]) <| .join 1 u_impl_shapeValid_j2 <| .po (.k (.int .i64 0)) <| .po (.bin .eql false 11 0) <| .ite 0 (.po (.lenL 11) <| .po (.k (.int .i64 0)) <| .po (.bin .gtr false 1 0) <| .ite 0 (.po (.k (.bool true)) <| .jump 1 [0]) <| .po (.lenL 11) <| .po (.k (.int .i64 0)) <| .po (.bin .gtr false 1 0) <| .jump 1 [0]) <| .po (.k (.bool false)) <| .jump 1 [0]
def u_impl_shapeValid_j4 : UP := .ite 0 (.po (.k (.bool false)) <| .po (.sc 0) <| .ret [(false, [0])]) <| .join 1 u_impl_shapeValid_j3 <| .po (.k (.int .i64 5)) <| .po (.bin .eql false 10 0) <| .ite 0 (.po (.lenL 10) <| .po (.k (.int .i64 0)) <| .po (.bin .gtr false 1 0) <| .ite 0 (.po (.k (.bool true)) <| .po (.k (.bool true)) <| .po (.k (.bool true)) <| .po (.k (.bool true)) <| .po (.k (.bool true)) <| .jump 1 [0]) <| .po (.lenL 11) <| .po (.k (.int .i64 0)) <| .po (.bin .gtr false 1 0) <| .ite 0 (.po (.k (.bool true)) <| .po (.k (.bool true)) <| .po (.k (.bool true)) <| .po (.k (.bool true)) <| .jump 1 [0]) <| .po (.k (.int .i64 (-999))) <| .po (.bin .lss false 12 0) <| .ite 0 (.po (.k (.bool true)) <| .po (.k (.bool true)) <| .po (.k (.bool true)) <| .jump 1 [0]) <| .po (.k (.int .i64 99999)) <| .po (.bin .gtr false 14 0) <| .ite 0 (.po (.k (.bool true)) <| .po (.k (.bool true)) <| .jump 1 [0]) <| .po (.k (.int .i64 0)) <| .po (.bin .lss false 15 0) <| .ite 0 (.po (.k (.bool true)) <| .jump 1 [0]) <| .po (.k (.int .i64 99999)) <| .po (.bin .gtr false 17 0) <| .jump 1 [0]) <| .po (.k (.bool false)) <| .jump 1 [0]
def u_impl_shapeValid_j5 : UP := .ite 0 (.po (.k (.bool false)) <| .po (.sc 0) <| .ret [(false, [0])]) <| .join 1 u_impl_shapeValid_j4 <| .po (.k (.int .i64 5)) <| .po (.bin .neq false 9 0) <| .ite 0 (.po (.k (.int .i64 0)) <| .po (.bin .neq false 5 0) <| .ite 0 (.po (.k (.bool true)) <| .jump 1 [0]) <| .po (.k (.int .i64 0)) <| .po (.bin .neq false 6 0) <| .jump 1 [0]) <| .po (.k (.bool false)) <| .jump 1 [0]
def u_impl_shapeValid_l6 : UP := .po (.bin .lss false 0 2) <| .ite 0 (.po (.isI 1) <| .po (.idx 1 10 1) <| .po (.lenS 0) <| .po (.k (.int .i64 60)) <| .po (.bin .gtr false 1 0) <| .ite 0 (.po (.k (.bool false)) <| .po (.sc 0) <| .ret [(false, [0])]) <| .po (.k (.int .i64 1)) <| .po (.bin .add false 6 0) <| .jump 0 [0]) <| .sel [6, 7, 8, 9, 10, 11, 12, 13] <| .join 1 u_impl_shapeValid_j5 <| .po (.lenL 2) <| .po (.k (.int .i64 0)) <| .po (.bin .gtr false 1 0) <| .ite 0 (.po (.k (.int .i64 2)) <| .po (.bin .neq false 11 0) <| .ite 0 (.po (.k (.bool true)) <| .jump 1 [0]) <| .po (.lenL 10) <| .po (.k (.int .i64 0)) <| .po (.bin .gtr false 1 0) <| .ite 0 (.po (.k (.int .i64 4)) <| .po (.bin .neq false 16 0) <| .jump 1 [0]) <| .po (.k (.bool false)) <| .jump 1 [0]) <| .po (.k (.bool false)) <| .po (.lenL 9) <| .po (.k (.int .i64 0)) <| .po (.bin .gtr false 1 0) <| .ite 0 (.po (.k (.int .i64 4)) <| .po (.bin .neq false 15 0) <| .jump 1 [0]) <| .po (.k (.bool false)) <| .jump 1 [0]
def u_impl_shapeValid_j7 : UP := .ite 0 (.po (.k (.bool false)) <| .po (.sc 0) <| .ret [(false, [0])]) <| .po (.lenL 6) <| .po (.k (.int .i64 0)) <| .loop [0] u_impl_shapeValid_l6
def u_impl_shapeValid_u : UP := .po (.k (.bool false)) <| .cl 79 [(true, [8, 7, 6, 5, 4, 3, 2, 1])] [(false, [none], true)] <| .po (.k (.int .i64 0)) <| .po (.bin .lss false 10 0) <| .ite 0 (.po (.k (.bool true)) <| .po (.k (.bool true)) <| .po (.k (.bool true)) <| .po (.k (.bool true)) <| .po (.k (.bool false)) <| .po (.sc 0) <| .ret [(false, [0])]) <| .po (.k (.int .i64 5)) <| .po (.bin .gtr false 12 0) <| .ite 0 (.po (.k (.bool true)) <| .po (.k (.bool true)) <| .po (.k (.bool true)) <| .po (.k (.bool false)) <| .po (.sc 0) <| .ret [(false, [0])]) <| .po (.k (.int .i64 40)) <| .po (.bin .gtr false 5 0) <| .ite 0 (.po (.k (.bool true)) <| .po (.k (.bool true)) <| .po (.k (.bool false)) <| .po (.sc 0) <| .ret [(false, [0])]) <| .po (.k (.int .i64 3)) <| .sel [0, 7, 9, 10, 11, 12, 13, 14, 15, 16] <| .cl 83 [(false, [5]), (false, [0])] [(false, [none], true)] <| .po (.un .not 0) <| .ite 0 (.po (.k (.bool true)) <| .po (.k (.bool false)) <| .po (.sc 0) <| .ret [(false, [0])]) <| .po (.k (.int .i64 20)) <| .cl 83 [(false, [7]), (false, [0])] [(false, [none], true)] <| .po (.un .not 0) <| .ite 0 (.po (.k (.bool false)) <| .po (.sc 0) <| .ret [(false, [0])]) <| .sel [6, 7, 8, 9, 10, 11, 12, 13, 14] <| .join 1 u_impl_shapeValid_j7 <| .po (.lenL 5) <| .po (.k (.int .i64 0)) <| .po (.bin .gtr false 1 0) <| .ite 0 (.po (.lenL 8) <| .po (.bin .neq false 0 4) <| .ite 0 (.po (.k (.bool true)) <| .jump 0 [0]) <| .sel [10] <| .cl 84 [(false, [0])] [(false, [none], true)] <| .jump 0 [0]) <| .po (.k (.bool false)) <| .jump 0 [0]
theorem u_impl_shapeValid_g : toUPf Try.prog 78 Try.f78 owA u_impl_shapeValid_h u_impl_shapeValid_d = some ([(true, 8)], u_impl_shapeValid_u) := by kernel_rfl
end Go.Proofs.Ytkhibgknpcgneaa

namespace Go.Proofs.Ytkhibgknpcgneaa
open List (length_take length_drop length_append map_cons map_nil length_map length_cons length_nil length_set length_replicate)
open Go.RowKit
set_option maxRecDepth 100000
theorem iLen_m (k : Int) (its : List It) (ps : List Vec) (ns cl lv : List ByteArray) (c e : Int) (hb : BdV its ps ns cl lv) : Meets Try.prog 79 [(true, encV (.mk k its ps ns cl lv c e))] [(false, [.sc (.int .i64 (lnV k its.length ps.length))], true)] := by
  obtain ⟨b1, b2, -, -, -, -⟩ := hb
  simp only [encV, encV_mk, encSs]
  refine meets_upf Try.func79 u_impl_length_g rfl ?_; simp only [u_impl_length_u]
  unfold lnV
  repeat' (first | (with_reducible first | refine jn_in ?_ | refine cl_ok (by assumption) rfl ?_ | refine cl_okP (by assumption) rfl ?_ | refine br_if (fun hbr => ?_) fun hbr => ?_ | refine br_ifn (fun hbr => ?_) fun hbr => ?_ | refine br_nb (fun hbr => ?_) fun hbr => ?_ | refine br_b (fun hbr => ?_) fun hbr => ?_) | simp (disch := first | omega | (simp only [length_take, length_drop, length_append, map_cons, map_nil, length_map, length_cons, length_nil, length_set, length_replicate]; omega) | (simp only [length_cons, length_nil, Nat.zero_add, Nat.reduceAdd])) only [go_sem, ↓reduceIte, Nat.reduceAdd, Int.reduceNeg, Int.reduceAdd, Int.reduceSub, Int.reduceMul, Int.reduceLT, Int.reduceLE, Int.reduceEq, Int.reduceToNat, Nat.reduceBEq, nat1, true_and])
  · rw [if_pos ‹_›]; rfl
  · rw [if_neg ‹_›]; rfl
def atB (k : Int) : Bool := decide (k = 1) || (decide (k = 2) || decide (k = 3))
theorem iAtm_m (v : Vec) (k : Int) (hk : ∃ its ps ns cl lv c e, v = .mk k its ps ns cl lv c e) : Meets Try.prog 85 [(true, encV v)] [(false, [.sc (.bool (atB k))], true)] := by
  obtain ⟨its, ps, ns, cl, lv, c, e, rfl⟩ := hk
  simp only [encV, encV_mk, encSs]
  refine meets_upf Try.func85 u_impl_isAtomic_g rfl ?_; simp only [u_impl_isAtomic_u]
  unfold atB
  repeat' (first | (with_reducible first | refine jn_in ?_ | refine cl_ok (by assumption) rfl ?_ | refine cl_okP (by assumption) rfl ?_ | refine br_if (fun hbr => ?_) fun hbr => ?_ | refine br_ifn (fun hbr => ?_) fun hbr => ?_ | refine br_nb (fun hbr => ?_) fun hbr => ?_ | refine br_b (fun hbr => ?_) fun hbr => ?_) | simp (disch := first | omega | (simp only [length_take, length_drop, length_append, map_cons, map_nil, length_map, length_cons, length_nil, length_set, length_replicate]; omega) | (simp only [length_cons, length_nil, Nat.zero_add, Nat.reduceAdd])) only [go_sem, ↓reduceIte, Nat.reduceAdd, Int.reduceNeg, Int.reduceAdd, Int.reduceSub, Int.reduceMul, Int.reduceLT, Int.reduceLE, Int.reduceEq, Int.reduceToNat, Nat.reduceBEq, nat1, true_and])
  all_goals exact ret_b (by simp [*])
theorem dec1 (n : Nat) : decide (0 < (n : Int)) = !decide (n = 0) := by rw [Bool.eq_iff_iff]; simp; omega
def hA (k n : Int) (cl lv : List ByteArray) : Bool := decide (0 ≤ k ∧ k ≤ 5) && (decide (n ≤ 40) && (labB cl 3 && labB lv 20))
def hB (n : Int) (ns : List ByteArray) : Bool := decide (ns.length = 0) || (decide ((ns.length : Int) = n) && !allB (emP ns) ns.length)
def hC (k : Int) (np nl : Nat) : Bool := (decide (nl = 0) || decide (k = 2)) && (decide (np = 0) || decide (k = 4))
def hD (k c e : Int) : Bool := decide (k = 5) || (decide (c = 0) && decide (e = 0))
def hE (k c e : Int) (ni nn : Nat) : Bool := !decide (k = 5) || (decide (ni = 0) && (decide (nn = 0) && (decide (-999 ≤ c ∧ c ≤ 99999) && decide (0 ≤ e ∧ e ≤ 99999))))
def hF (k : Int) (ni nc : Nat) : Bool := !decide (k = 0) || (decide (ni = 0) && decide (nc = 0))
def iiB (k : Int) (m : Nat) (x : It) : Bool := atB k && (ivB k x && (decide (m = 0) || (decide (x = it0) || (decide (x.den = 1) && decide (1 ≤ x.num ∧ x.num ≤ (m : Int))))))
def hh (k n : Int) (its : List It) (np : Nat) (ns cl lv : List ByteArray) (c e : Int) : Bool :=
  hA k n cl lv && (hB n ns && (allB (nmP ns) ns.length && (hC k np lv.length && (hD k c e && (hE k c e its.length ns.length && (hF k its.length cl.length && allB (fun j => iiB k lv.length (its.getD j default)) its.length))))))
theorem iiB_eq (k : Int) (m : Nat) (x : It) : iiB k m x = (atB k && itlB k m x) := by
  unfold iiB itlB
  cases hv : ivB k x
  · rfl
  · have := ivB_den hv
    rw [show decide (x = it0) = decide (x.den = 0) from by rw [Bool.eq_iff_iff, decide_eq_true_eq, decide_eq_true_eq]; exact this]
theorem allB_and (b : Bool) (p : Nat → Bool) (n : Nat) : allB (fun j => b && p j) n = (decide (n = 0) || (b && allB p n)) := by
  cases n with
  | zero => rfl
  | succ n =>
    rw [decide_eq_false (by omega), Bool.false_or]
    cases b
    · rw [Bool.false_and]
      exact allB_no (i := 0) (by omega) rfl
    · simp only [Bool.true_and]
theorem hh_eq (k : Int) (its : List It) (np : Nat) (ns cl lv : List ByteArray) (c e : Int) : hh k (lnV k its.length np) its np ns cl lv c e = shB k its np ns cl lv c e := by
  unfold hh shB
  rw [show (fun j => iiB k lv.length (its.getD j default)) = (fun j => atB k && itlB k lv.length (its.getD j default)) from funext fun j => iiB_eq _ _ _, allB_and]
  unfold hA hB hC hD hE hF gA gB gC nmB atB
  have hl := lnV_nn k its.length np
  have hz : k = 0 → (lnV k its.length np = (its.length : Int) + np) := fun h => by unfold lnV; rw [if_neg (by omega)]
  have hx1 : its.length = 0 → allB (fun j => itlB k lv.length (its.getD j default)) its.length = true := fun h => by rw [h]; rfl
  generalize hln : lnV k its.length np = ln at *
  generalize allB (fun j => itlB k lv.length (its.getD j default)) its.length = x1 at hx1 ⊢
  generalize allB (nmP ns) ns.length = x2
  generalize allB (emP ns) ns.length = x3
  generalize labB cl 3 = x4
  generalize labB lv 20 = x5
  generalize ns.length = nn at *
  generalize cl.length = nc at *
  generalize lv.length = nl at *
  generalize its.length = ni at *
  cases x4
  · simp
  cases x5
  · simp
  cases x2
  · simp
  rw [Bool.eq_iff_iff]
  by_cases k5 : k = 5
  · subst k5
    cases x1 <;> cases x3 <;> grind
  by_cases k0 : k = 0
  · subst k0
    cases x1 <;> cases x3 <;> grind
  by_cases k4 : k = 4
  · subst k4
    cases x1 <;> cases x3 <;> grind
  rw [if_neg k5, if_neg k0, if_neg k4]
  cases x1 <;> cases x3 <;> grind
set_option maxHeartbeats 4000000 in
theorem iShp_m (v : Vec) (k : Int) (its : List It) (ps : List Vec) (ns cl lv : List ByteArray) (c e : Int) (hve : v = .mk k its ps ns cl lv c e) (hb : BdV its ps ns cl lv) : Meets Try.prog 78 [(true, encV v)] [(false, [.sc (.bool (shB k its ps.length ns cl lv c e))], true)] := by
  have h0 := iAtm_m v k ⟨_, _, _, _, _, _, _, hve⟩
  subst hve
  have h1 := iLen_m k its ps ns cl lv c e hb
  obtain ⟨b1, b2, b3, b4, b5, b6⟩ := hb
  have h2 := iEmp_m 9 ns b3
  have h3 := iLab_m 9 cl 3 b4
  have h4 := iLab_m 9 lv 20 b5
  have h8 := fun i => iItem_m k (its.getD i default)
  have h9 := fun i => iMiss_m (its.getD i default)
  simp only [encIt] at h8 h9
  rw [← hh_eq]
  have hlen := lnV_bd (k := k) b1 b2
  unfold hh
  generalize hln : lnV k its.length ps.length = ln at *
  simp only [encV, encV_mk, encSs] at h0 h1 ⊢
  refine meets_upf Try.func78 u_impl_shapeValid_g rfl ?_; simp only [u_impl_shapeValid_u]
  simp (disch := first | omega | (simp only [length_take, length_drop, length_append, map_cons, map_nil, length_map, length_cons, length_nil, length_set, length_replicate]; omega) | (simp only [length_cons, length_nil, Nat.zero_add, Nat.reduceAdd])) only [go_sem, ↓reduceIte, Nat.reduceAdd, Int.reduceNeg, Int.reduceAdd, Int.reduceSub, Int.reduceMul, Int.reduceLT, Int.reduceLE, Int.reduceEq, Int.reduceToNat, Nat.reduceBEq, nat1, true_and]
  refine cl_ok h1 rfl ?_
  have hA0 : hA k ln cl lv = false → ∀ b, (hA k ln cl lv && b) = false := fun h b => by rw [h]; rfl
  simp (disch := first | omega | (simp only [length_take, length_drop, length_append, map_cons, map_nil, length_map, length_cons, length_nil, length_set, length_replicate]; omega) | (simp only [length_cons, length_nil, Nat.zero_add, Nat.reduceAdd])) only [go_sem, ↓reduceIte, Nat.reduceAdd, Int.reduceNeg, Int.reduceAdd, Int.reduceSub, Int.reduceMul, Int.reduceLT, Int.reduceLE, Int.reduceEq, Int.reduceToNat, Nat.reduceBEq, nat1, true_and]
  refine br_if (fun hk1 => ?_) (fun hk1 => ?_)
  · repeat' (first | (with_reducible first | refine jn_in ?_ | refine cl_ok (by assumption) rfl ?_ | refine cl_okP (by assumption) rfl ?_ | refine br_if (fun hbr => ?_) fun hbr => ?_ | refine br_ifn (fun hbr => ?_) fun hbr => ?_ | refine br_nb (fun hbr => ?_) fun hbr => ?_ | refine br_b (fun hbr => ?_) fun hbr => ?_) | simp (disch := first | omega | (simp only [length_take, length_drop, length_append, map_cons, map_nil, length_map, length_cons, length_nil, length_set, length_replicate]; omega) | (simp only [length_cons, length_nil, Nat.zero_add, Nat.reduceAdd])) only [go_sem, ↓reduceIte, Nat.reduceAdd, Int.reduceNeg, Int.reduceAdd, Int.reduceSub, Int.reduceMul, Int.reduceLT, Int.reduceLE, Int.reduceEq, Int.reduceToNat, Nat.reduceBEq, nat1, true_and])
    exact ret_b (hA0 (by unfold hA; rw [decide_eq_false (by omega)]; rfl) _)
  simp (disch := first | omega | (simp only [length_take, length_drop, length_append, map_cons, map_nil, length_map, length_cons, length_nil, length_set, length_replicate]; omega) | (simp only [length_cons, length_nil, Nat.zero_add, Nat.reduceAdd])) only [go_sem, ↓reduceIte, Nat.reduceAdd, Int.reduceNeg, Int.reduceAdd, Int.reduceSub, Int.reduceMul, Int.reduceLT, Int.reduceLE, Int.reduceEq, Int.reduceToNat, Nat.reduceBEq, nat1, true_and]
  refine br_if (fun hk2 => ?_) (fun hk2 => ?_)
  · repeat' (first | (with_reducible first | refine jn_in ?_ | refine cl_ok (by assumption) rfl ?_ | refine cl_okP (by assumption) rfl ?_ | refine br_if (fun hbr => ?_) fun hbr => ?_ | refine br_ifn (fun hbr => ?_) fun hbr => ?_ | refine br_nb (fun hbr => ?_) fun hbr => ?_ | refine br_b (fun hbr => ?_) fun hbr => ?_) | simp (disch := first | omega | (simp only [length_take, length_drop, length_append, map_cons, map_nil, length_map, length_cons, length_nil, length_set, length_replicate]; omega) | (simp only [length_cons, length_nil, Nat.zero_add, Nat.reduceAdd])) only [go_sem, ↓reduceIte, Nat.reduceAdd, Int.reduceNeg, Int.reduceAdd, Int.reduceSub, Int.reduceMul, Int.reduceLT, Int.reduceLE, Int.reduceEq, Int.reduceToNat, Nat.reduceBEq, nat1, true_and])
    exact ret_b (hA0 (by unfold hA; rw [decide_eq_false (by omega)]; rfl) _)
  simp (disch := first | omega | (simp only [length_take, length_drop, length_append, map_cons, map_nil, length_map, length_cons, length_nil, length_set, length_replicate]; omega) | (simp only [length_cons, length_nil, Nat.zero_add, Nat.reduceAdd])) only [go_sem, ↓reduceIte, Nat.reduceAdd, Int.reduceNeg, Int.reduceAdd, Int.reduceSub, Int.reduceMul, Int.reduceLT, Int.reduceLE, Int.reduceEq, Int.reduceToNat, Nat.reduceBEq, nat1, true_and]
  refine br_if (fun hk3 => ?_) (fun hk3 => ?_)
  · repeat' (first | (with_reducible first | refine jn_in ?_ | refine cl_ok (by assumption) rfl ?_ | refine cl_okP (by assumption) rfl ?_ | refine br_if (fun hbr => ?_) fun hbr => ?_ | refine br_ifn (fun hbr => ?_) fun hbr => ?_ | refine br_nb (fun hbr => ?_) fun hbr => ?_ | refine br_b (fun hbr => ?_) fun hbr => ?_) | simp (disch := first | omega | (simp only [length_take, length_drop, length_append, map_cons, map_nil, length_map, length_cons, length_nil, length_set, length_replicate]; omega) | (simp only [length_cons, length_nil, Nat.zero_add, Nat.reduceAdd])) only [go_sem, ↓reduceIte, Nat.reduceAdd, Int.reduceNeg, Int.reduceAdd, Int.reduceSub, Int.reduceMul, Int.reduceLT, Int.reduceLE, Int.reduceEq, Int.reduceToNat, Nat.reduceBEq, nat1, true_and])
    exact ret_b (hA0 (by unfold hA; rw [decide_eq_false (show ¬ ln ≤ 40 by omega), Bool.false_and, Bool.and_false]) _)
  simp (disch := first | omega | (simp only [length_take, length_drop, length_append, map_cons, map_nil, length_map, length_cons, length_nil, length_set, length_replicate]; omega) | (simp only [length_cons, length_nil, Nat.zero_add, Nat.reduceAdd])) only [go_sem, ↓reduceIte, Nat.reduceAdd, Int.reduceNeg, Int.reduceAdd, Int.reduceSub, Int.reduceMul, Int.reduceLT, Int.reduceLE, Int.reduceEq, Int.reduceToNat, Nat.reduceBEq, nat1, true_and]
  refine cl_ok h3 rfl ?_
  cases hx3 : labB cl 3
  · repeat' (first | (with_reducible first | refine jn_in ?_ | refine cl_ok (by assumption) rfl ?_ | refine cl_okP (by assumption) rfl ?_ | refine br_if (fun hbr => ?_) fun hbr => ?_ | refine br_ifn (fun hbr => ?_) fun hbr => ?_ | refine br_nb (fun hbr => ?_) fun hbr => ?_ | refine br_b (fun hbr => ?_) fun hbr => ?_) | simp (disch := first | omega | (simp only [length_take, length_drop, length_append, map_cons, map_nil, length_map, length_cons, length_nil, length_set, length_replicate]; omega) | (simp only [length_cons, length_nil, Nat.zero_add, Nat.reduceAdd])) only [go_sem, ↓reduceIte, Nat.reduceAdd, Int.reduceNeg, Int.reduceAdd, Int.reduceSub, Int.reduceMul, Int.reduceLT, Int.reduceLE, Int.reduceEq, Int.reduceToNat, Nat.reduceBEq, nat1, true_and])
    exact ret_b (hA0 (by unfold hA; rw [hx3, Bool.false_and, Bool.and_false, Bool.and_false]) _)
  simp (disch := first | omega | (simp only [length_take, length_drop, length_append, map_cons, map_nil, length_map, length_cons, length_nil, length_set, length_replicate]; omega) | (simp only [length_cons, length_nil, Nat.zero_add, Nat.reduceAdd])) only [go_sem, ↓reduceIte, Nat.reduceAdd, Int.reduceNeg, Int.reduceAdd, Int.reduceSub, Int.reduceMul, Int.reduceLT, Int.reduceLE, Int.reduceEq, Int.reduceToNat, Nat.reduceBEq, nat1, true_and]
  refine cl_ok h4 rfl ?_
  cases hx4 : labB lv 20
  · repeat' (first | (with_reducible first | refine jn_in ?_ | refine cl_ok (by assumption) rfl ?_ | refine cl_okP (by assumption) rfl ?_ | refine br_if (fun hbr => ?_) fun hbr => ?_ | refine br_ifn (fun hbr => ?_) fun hbr => ?_ | refine br_nb (fun hbr => ?_) fun hbr => ?_ | refine br_b (fun hbr => ?_) fun hbr => ?_) | simp (disch := first | omega | (simp only [length_take, length_drop, length_append, map_cons, map_nil, length_map, length_cons, length_nil, length_set, length_replicate]; omega) | (simp only [length_cons, length_nil, Nat.zero_add, Nat.reduceAdd])) only [go_sem, ↓reduceIte, Nat.reduceAdd, Int.reduceNeg, Int.reduceAdd, Int.reduceSub, Int.reduceMul, Int.reduceLT, Int.reduceLE, Int.reduceEq, Int.reduceToNat, Nat.reduceBEq, nat1, true_and])
    exact ret_b (hA0 (by unfold hA; rw [hx4, Bool.and_false, Bool.and_false, Bool.and_false]) _)
  have hA1 : hA k ln cl lv = true := by unfold hA; rw [hx3, hx4, decide_eq_true (show 0 ≤ k ∧ k ≤ 5 by omega), decide_eq_true (show ln ≤ 40 by omega)]; rfl
  rw [hA1, Bool.true_and]
  clear hA0 hx3 hx4
  simp (disch := first | omega | (simp only [length_take, length_drop, length_append, map_cons, map_nil, length_map, length_cons, length_nil, length_set, length_replicate]; omega) | (simp only [length_cons, length_nil, Nat.zero_add, Nat.reduceAdd])) only [go_sem, ↓reduceIte, Nat.reduceAdd, Int.reduceNeg, Int.reduceAdd, Int.reduceSub, Int.reduceMul, Int.reduceLT, Int.reduceLE, Int.reduceEq, Int.reduceToNat, Nat.reduceBEq, nat1, true_and]
  refine jn_eq [.sc (.bool (!hB ln ns))] ?_ ?_
  · unfold hB
    repeat' (first | (with_reducible first | refine jn_in ?_ | refine cl_ok (by assumption) rfl ?_ | refine cl_okP (by assumption) rfl ?_ | refine br_if (fun hbr => ?_) fun hbr => ?_ | refine br_ifn (fun hbr => ?_) fun hbr => ?_ | refine br_nb (fun hbr => ?_) fun hbr => ?_ | refine br_b (fun hbr => ?_) fun hbr => ?_) | simp (disch := first | omega | (simp only [length_take, length_drop, length_append, map_cons, map_nil, length_map, length_cons, length_nil, length_set, length_replicate]; omega) | (simp only [length_cons, length_nil, Nat.zero_add, Nat.reduceAdd])) only [go_sem, ↓reduceIte, Nat.reduceAdd, Int.reduceNeg, Int.reduceAdd, Int.reduceSub, Int.reduceMul, Int.reduceLT, Int.reduceLE, Int.reduceEq, Int.reduceToNat, Nat.reduceBEq, nat1, true_and])
    all_goals first
      | (refine bb ?_; simp [*]; done)
      | (refine bb ?_; simp_all; done)
      | (refine bb ?_; grind)
      | skip
  simp only [u_impl_shapeValid_j7]
  cases hxB : hB ln ns
  · repeat' (first | (with_reducible first | refine jn_in ?_ | refine cl_ok (by assumption) rfl ?_ | refine cl_okP (by assumption) rfl ?_ | refine br_if (fun hbr => ?_) fun hbr => ?_ | refine br_ifn (fun hbr => ?_) fun hbr => ?_ | refine br_nb (fun hbr => ?_) fun hbr => ?_ | refine br_b (fun hbr => ?_) fun hbr => ?_) | simp (disch := first | omega | (simp only [length_take, length_drop, length_append, map_cons, map_nil, length_map, length_cons, length_nil, length_set, length_replicate]; omega) | (simp only [length_cons, length_nil, Nat.zero_add, Nat.reduceAdd])) only [go_sem, ↓reduceIte, Nat.reduceAdd, Int.reduceNeg, Int.reduceAdd, Int.reduceSub, Int.reduceMul, Int.reduceLT, Int.reduceLE, Int.reduceEq, Int.reduceToNat, Nat.reduceBEq, nat1, true_and])
    all_goals exact ret_b rfl
  rw [Bool.true_and]
  simp (disch := first | omega | (simp only [length_take, length_drop, length_append, map_cons, map_nil, length_map, length_cons, length_nil, length_set, length_replicate]; omega) | (simp only [length_cons, length_nil, Nat.zero_add, Nat.reduceAdd])) only [go_sem, ↓reduceIte, Nat.reduceAdd, Int.reduceNeg, Int.reduceAdd, Int.reduceSub, Int.reduceMul, Int.reduceLT, Int.reduceLE, Int.reduceEq, Int.reduceToNat, Nat.reduceBEq, nat1, true_and]
  refine lp (fun i : Nat => [.sc (.int .i64 i)]) (fun i => i ≤ ns.length ∧ allB (nmP ns) i = true) (fun i => ns.length - i) 0 rfl ⟨Nat.zero_le _, rfl⟩ ?_
  rintro i ⟨hi, ha⟩
  simp only [u_impl_shapeValid_l6]
  by_cases hlt : i < ns.length
  · simp (disch := first | omega | (simp only [length_take, length_drop, length_append, map_cons, map_nil, length_map, length_cons, length_nil, length_set, length_replicate]; omega) | (simp only [length_cons, length_nil, Nat.zero_add, Nat.reduceAdd])) only [go_sem, ↓reduceIte, Nat.reduceAdd, Int.reduceNeg, Int.reduceAdd, Int.reduceSub, Int.reduceMul, Int.reduceLT, Int.reduceLE, Int.reduceEq, Int.reduceToNat, Nat.reduceBEq, nat1, true_and]
    refine br_if (fun hx => ?_) (fun hx => absurd (by omega) hx)
    repeat' (first | (with_reducible first | refine jn_in ?_ | refine cl_ok (by assumption) rfl ?_ | refine cl_okP (by assumption) rfl ?_ | refine br_if (fun hbr => ?_) fun hbr => ?_ | refine br_ifn (fun hbr => ?_) fun hbr => ?_ | refine br_nb (fun hbr => ?_) fun hbr => ?_ | refine br_b (fun hbr => ?_) fun hbr => ?_) | simp (disch := first | omega | (simp only [length_take, length_drop, length_append, map_cons, map_nil, length_map, length_cons, length_nil, length_set, length_replicate]; omega) | (simp only [length_cons, length_nil, Nat.zero_add, Nat.reduceAdd])) only [go_sem, ↓reduceIte, Nat.reduceAdd, Int.reduceNeg, Int.reduceAdd, Int.reduceSub, Int.reduceMul, Int.reduceLT, Int.reduceLE, Int.reduceEq, Int.reduceToNat, Nat.reduceBEq, nat1, true_and])
    all_goals first
      | omega
      | exact ret_b (by rw [allB_no (p := nmP ns) hlt (by (first | (simp [-List.getD_eq_getElem?_getD, nmP, *]; done) | (simp_all [-List.getD_eq_getElem?_getD, nmP]; done) | (simp [-List.getD_eq_getElem?_getD, nmP, *]; omega) | (simp_all [-List.getD_eq_getElem?_getD, nmP]; omega) | omega)), Bool.false_and])
      | exact ⟨i + 1, rfl, ⟨by omega, allB_step ha (by (first | (simp [-List.getD_eq_getElem?_getD, nmP, *]; done) | (simp_all [-List.getD_eq_getElem?_getD, nmP]; done) | (simp [-List.getD_eq_getElem?_getD, nmP, *]; omega) | (simp_all [-List.getD_eq_getElem?_getD, nmP]; omega) | omega))⟩, by omega⟩
      | skip
  obtain rfl : i = ns.length := by omega
  rw [ha, Bool.true_and]
  simp (disch := first | omega | (simp only [length_take, length_drop, length_append, map_cons, map_nil, length_map, length_cons, length_nil, length_set, length_replicate]; omega) | (simp only [length_cons, length_nil, Nat.zero_add, Nat.reduceAdd])) only [go_sem, ↓reduceIte, Nat.reduceAdd, Int.reduceNeg, Int.reduceAdd, Int.reduceSub, Int.reduceMul, Int.reduceLT, Int.reduceLE, Int.reduceEq, Int.reduceToNat, Nat.reduceBEq, nat1, true_and]
  refine br_if (fun hx => absurd hx (by omega)) (fun _ => ?_)
  simp (disch := first | omega | (simp only [length_take, length_drop, length_append, map_cons, map_nil, length_map, length_cons, length_nil, length_set, length_replicate]; omega) | (simp only [length_cons, length_nil, Nat.zero_add, Nat.reduceAdd])) only [go_sem, ↓reduceIte, Nat.reduceAdd, Int.reduceNeg, Int.reduceAdd, Int.reduceSub, Int.reduceMul, Int.reduceLT, Int.reduceLE, Int.reduceEq, Int.reduceToNat, Nat.reduceBEq, nat1, true_and]
  refine jn_eq [.sc (.bool (!hC k ps.length lv.length))] ?_ ?_
  · unfold hC
    repeat' (first | (with_reducible first | refine jn_in ?_ | refine cl_ok (by assumption) rfl ?_ | refine cl_okP (by assumption) rfl ?_ | refine br_if (fun hbr => ?_) fun hbr => ?_ | refine br_ifn (fun hbr => ?_) fun hbr => ?_ | refine br_nb (fun hbr => ?_) fun hbr => ?_ | refine br_b (fun hbr => ?_) fun hbr => ?_) | simp (disch := first | omega | (simp only [length_take, length_drop, length_append, map_cons, map_nil, length_map, length_cons, length_nil, length_set, length_replicate]; omega) | (simp only [length_cons, length_nil, Nat.zero_add, Nat.reduceAdd])) only [go_sem, ↓reduceIte, Nat.reduceAdd, Int.reduceNeg, Int.reduceAdd, Int.reduceSub, Int.reduceMul, Int.reduceLT, Int.reduceLE, Int.reduceEq, Int.reduceToNat, Nat.reduceBEq, nat1, true_and])
    all_goals first
      | (refine bb ?_; simp [*]; done)
      | (refine bb ?_; simp_all; done)
      | (refine bb ?_; grind)
      | skip
  simp only [u_impl_shapeValid_j5]
  cases hxC : hC k ps.length lv.length
  · repeat' (first | (with_reducible first | refine jn_in ?_ | refine cl_ok (by assumption) rfl ?_ | refine cl_okP (by assumption) rfl ?_ | refine br_if (fun hbr => ?_) fun hbr => ?_ | refine br_ifn (fun hbr => ?_) fun hbr => ?_ | refine br_nb (fun hbr => ?_) fun hbr => ?_ | refine br_b (fun hbr => ?_) fun hbr => ?_) | simp (disch := first | omega | (simp only [length_take, length_drop, length_append, map_cons, map_nil, length_map, length_cons, length_nil, length_set, length_replicate]; omega) | (simp only [length_cons, length_nil, Nat.zero_add, Nat.reduceAdd])) only [go_sem, ↓reduceIte, Nat.reduceAdd, Int.reduceNeg, Int.reduceAdd, Int.reduceSub, Int.reduceMul, Int.reduceLT, Int.reduceLE, Int.reduceEq, Int.reduceToNat, Nat.reduceBEq, nat1, true_and])
    all_goals exact ret_b rfl
  rw [Bool.true_and]
  simp (disch := first | omega | (simp only [length_take, length_drop, length_append, map_cons, map_nil, length_map, length_cons, length_nil, length_set, length_replicate]; omega) | (simp only [length_cons, length_nil, Nat.zero_add, Nat.reduceAdd])) only [go_sem, ↓reduceIte, Nat.reduceAdd, Int.reduceNeg, Int.reduceAdd, Int.reduceSub, Int.reduceMul, Int.reduceLT, Int.reduceLE, Int.reduceEq, Int.reduceToNat, Nat.reduceBEq, nat1, true_and]
  refine jn_eq [.sc (.bool (!hD k c e))] ?_ ?_
  · unfold hD
    repeat' (first | (with_reducible first | refine jn_in ?_ | refine cl_ok (by assumption) rfl ?_ | refine cl_okP (by assumption) rfl ?_ | refine br_if (fun hbr => ?_) fun hbr => ?_ | refine br_ifn (fun hbr => ?_) fun hbr => ?_ | refine br_nb (fun hbr => ?_) fun hbr => ?_ | refine br_b (fun hbr => ?_) fun hbr => ?_) | simp (disch := first | omega | (simp only [length_take, length_drop, length_append, map_cons, map_nil, length_map, length_cons, length_nil, length_set, length_replicate]; omega) | (simp only [length_cons, length_nil, Nat.zero_add, Nat.reduceAdd])) only [go_sem, ↓reduceIte, Nat.reduceAdd, Int.reduceNeg, Int.reduceAdd, Int.reduceSub, Int.reduceMul, Int.reduceLT, Int.reduceLE, Int.reduceEq, Int.reduceToNat, Nat.reduceBEq, nat1, true_and])
    all_goals first
      | (refine bb ?_; simp [*]; done)
      | (refine bb ?_; simp_all; done)
      | (refine bb ?_; grind)
      | skip
  simp only [u_impl_shapeValid_j4]
  cases hxD : hD k c e
  · repeat' (first | (with_reducible first | refine jn_in ?_ | refine cl_ok (by assumption) rfl ?_ | refine cl_okP (by assumption) rfl ?_ | refine br_if (fun hbr => ?_) fun hbr => ?_ | refine br_ifn (fun hbr => ?_) fun hbr => ?_ | refine br_nb (fun hbr => ?_) fun hbr => ?_ | refine br_b (fun hbr => ?_) fun hbr => ?_) | simp (disch := first | omega | (simp only [length_take, length_drop, length_append, map_cons, map_nil, length_map, length_cons, length_nil, length_set, length_replicate]; omega) | (simp only [length_cons, length_nil, Nat.zero_add, Nat.reduceAdd])) only [go_sem, ↓reduceIte, Nat.reduceAdd, Int.reduceNeg, Int.reduceAdd, Int.reduceSub, Int.reduceMul, Int.reduceLT, Int.reduceLE, Int.reduceEq, Int.reduceToNat, Nat.reduceBEq, nat1, true_and])
    all_goals exact ret_b rfl
  rw [Bool.true_and]
  simp (disch := first | omega | (simp only [length_take, length_drop, length_append, map_cons, map_nil, length_map, length_cons, length_nil, length_set, length_replicate]; omega) | (simp only [length_cons, length_nil, Nat.zero_add, Nat.reduceAdd])) only [go_sem, ↓reduceIte, Nat.reduceAdd, Int.reduceNeg, Int.reduceAdd, Int.reduceSub, Int.reduceMul, Int.reduceLT, Int.reduceLE, Int.reduceEq, Int.reduceToNat, Nat.reduceBEq, nat1, true_and]
  refine jn_eq [.sc (.bool (!hE k c e its.length ns.length))] ?_ ?_
  · unfold hE
    repeat' (first | (with_reducible first | refine jn_in ?_ | refine cl_ok (by assumption) rfl ?_ | refine cl_okP (by assumption) rfl ?_ | refine br_if (fun hbr => ?_) fun hbr => ?_ | refine br_ifn (fun hbr => ?_) fun hbr => ?_ | refine br_nb (fun hbr => ?_) fun hbr => ?_ | refine br_b (fun hbr => ?_) fun hbr => ?_) | simp (disch := first | omega | (simp only [length_take, length_drop, length_append, map_cons, map_nil, length_map, length_cons, length_nil, length_set, length_replicate]; omega) | (simp only [length_cons, length_nil, Nat.zero_add, Nat.reduceAdd])) only [go_sem, ↓reduceIte, Nat.reduceAdd, Int.reduceNeg, Int.reduceAdd, Int.reduceSub, Int.reduceMul, Int.reduceLT, Int.reduceLE, Int.reduceEq, Int.reduceToNat, Nat.reduceBEq, nat1, true_and])
    all_goals first
      | (refine bb ?_; simp [*]; done)
      | (refine bb ?_; simp_all; done)
      | (refine bb ?_; grind)
      | (refine bb ?_
         rw [decide_eq_true (show k = 5 by assumption), decide_eq_true (show its.length = 0 by omega), decide_eq_true (show ns.length = 0 by omega), decide_eq_true (show -999 ≤ c ∧ c ≤ 99999 by omega), show decide (0 ≤ e ∧ e ≤ 99999) = !decide (99999 < e) from by rw [Bool.eq_iff_iff]; simp; omega]
         simp; done)
      | skip
  simp only [u_impl_shapeValid_j3]
  cases hxE : hE k c e its.length ns.length
  · repeat' (first | (with_reducible first | refine jn_in ?_ | refine cl_ok (by assumption) rfl ?_ | refine cl_okP (by assumption) rfl ?_ | refine br_if (fun hbr => ?_) fun hbr => ?_ | refine br_ifn (fun hbr => ?_) fun hbr => ?_ | refine br_nb (fun hbr => ?_) fun hbr => ?_ | refine br_b (fun hbr => ?_) fun hbr => ?_) | simp (disch := first | omega | (simp only [length_take, length_drop, length_append, map_cons, map_nil, length_map, length_cons, length_nil, length_set, length_replicate]; omega) | (simp only [length_cons, length_nil, Nat.zero_add, Nat.reduceAdd])) only [go_sem, ↓reduceIte, Nat.reduceAdd, Int.reduceNeg, Int.reduceAdd, Int.reduceSub, Int.reduceMul, Int.reduceLT, Int.reduceLE, Int.reduceEq, Int.reduceToNat, Nat.reduceBEq, nat1, true_and])
    all_goals exact ret_b rfl
  rw [Bool.true_and]
  simp (disch := first | omega | (simp only [length_take, length_drop, length_append, map_cons, map_nil, length_map, length_cons, length_nil, length_set, length_replicate]; omega) | (simp only [length_cons, length_nil, Nat.zero_add, Nat.reduceAdd])) only [go_sem, ↓reduceIte, Nat.reduceAdd, Int.reduceNeg, Int.reduceAdd, Int.reduceSub, Int.reduceMul, Int.reduceLT, Int.reduceLE, Int.reduceEq, Int.reduceToNat, Nat.reduceBEq, nat1, true_and]
  refine jn_eq [.sc (.bool (!hF k its.length cl.length))] ?_ ?_
  · unfold hF
    repeat' (first | (with_reducible first | refine jn_in ?_ | refine cl_ok (by assumption) rfl ?_ | refine cl_okP (by assumption) rfl ?_ | refine br_if (fun hbr => ?_) fun hbr => ?_ | refine br_ifn (fun hbr => ?_) fun hbr => ?_ | refine br_nb (fun hbr => ?_) fun hbr => ?_ | refine br_b (fun hbr => ?_) fun hbr => ?_) | simp (disch := first | omega | (simp only [length_take, length_drop, length_append, map_cons, map_nil, length_map, length_cons, length_nil, length_set, length_replicate]; omega) | (simp only [length_cons, length_nil, Nat.zero_add, Nat.reduceAdd])) only [go_sem, ↓reduceIte, Nat.reduceAdd, Int.reduceNeg, Int.reduceAdd, Int.reduceSub, Int.reduceMul, Int.reduceLT, Int.reduceLE, Int.reduceEq, Int.reduceToNat, Nat.reduceBEq, nat1, true_and])
    all_goals first
      | (refine bb ?_; simp [*]; done)
      | (refine bb ?_; simp_all; done)
      | (refine bb ?_; grind)
      | (refine bb ?_
         rw [decide_eq_true (show k = 0 by assumption), decide_eq_true (show its.length = 0 by omega), dec1]
         simp; done)
      | skip
  simp only [u_impl_shapeValid_j2]
  cases hxF : hF k its.length cl.length
  · repeat' (first | (with_reducible first | refine jn_in ?_ | refine cl_ok (by assumption) rfl ?_ | refine cl_okP (by assumption) rfl ?_ | refine br_if (fun hbr => ?_) fun hbr => ?_ | refine br_ifn (fun hbr => ?_) fun hbr => ?_ | refine br_nb (fun hbr => ?_) fun hbr => ?_ | refine br_b (fun hbr => ?_) fun hbr => ?_) | simp (disch := first | omega | (simp only [length_take, length_drop, length_append, map_cons, map_nil, length_map, length_cons, length_nil, length_set, length_replicate]; omega) | (simp only [length_cons, length_nil, Nat.zero_add, Nat.reduceAdd])) only [go_sem, ↓reduceIte, Nat.reduceAdd, Int.reduceNeg, Int.reduceAdd, Int.reduceSub, Int.reduceMul, Int.reduceLT, Int.reduceLE, Int.reduceEq, Int.reduceToNat, Nat.reduceBEq, nat1, true_and])
    all_goals exact ret_b rfl
  rw [Bool.true_and]
  simp (disch := first | omega | (simp only [length_take, length_drop, length_append, map_cons, map_nil, length_map, length_cons, length_nil, length_set, length_replicate]; omega) | (simp only [length_cons, length_nil, Nat.zero_add, Nat.reduceAdd])) only [go_sem, ↓reduceIte, Nat.reduceAdd, Int.reduceNeg, Int.reduceAdd, Int.reduceSub, Int.reduceMul, Int.reduceLT, Int.reduceLE, Int.reduceEq, Int.reduceToNat, Nat.reduceBEq, nat1, true_and]
  refine lp (fun i : Nat => [.sc (.int .i64 i)]) (fun i => i ≤ its.length ∧ allB (fun j => iiB k lv.length (its.getD j default)) i = true) (fun i => its.length - i) 0 rfl ⟨Nat.zero_le _, rfl⟩ ?_
  rintro i ⟨hi2, ha2⟩
  simp only [u_impl_shapeValid_l1]
  by_cases hlt2 : i < its.length
  · have h8i := h8 i
    have h9i := h9 i
    cases hat : atB k
    · rw [hat] at h0
      repeat' (first | (with_reducible first | refine jn_in ?_ | refine cl_ok (by assumption) rfl ?_ | refine cl_okP (by assumption) rfl ?_ | refine br_if (fun hbr => ?_) fun hbr => ?_ | refine br_ifn (fun hbr => ?_) fun hbr => ?_ | refine br_nb (fun hbr => ?_) fun hbr => ?_ | refine br_b (fun hbr => ?_) fun hbr => ?_) | simp (disch := first | omega | (simp only [length_take, length_drop, length_append, map_cons, map_nil, length_map, length_cons, length_nil, length_set, length_replicate]; omega) | (simp only [length_cons, length_nil, Nat.zero_add, Nat.reduceAdd])) only [go_sem, ↓reduceIte, Nat.reduceAdd, Int.reduceNeg, Int.reduceAdd, Int.reduceSub, Int.reduceMul, Int.reduceLT, Int.reduceLE, Int.reduceEq, Int.reduceToNat, Nat.reduceBEq, nat1, u_impl_shapeValid_j0, ix_it, encIt])
      all_goals first
        | omega
        | exact ret_b (by rw [allB_no (p := fun j => iiB k lv.length (its.getD j default)) hlt2 (by unfold iiB; rw [hat]; rfl)])
        | skip
    · rw [hat] at h0
      repeat' (first | (with_reducible first | refine jn_in ?_ | refine cl_ok (by assumption) rfl ?_ | refine cl_okP (by assumption) rfl ?_ | refine br_if (fun hbr => ?_) fun hbr => ?_ | refine br_ifn (fun hbr => ?_) fun hbr => ?_ | refine br_nb (fun hbr => ?_) fun hbr => ?_ | refine br_b (fun hbr => ?_) fun hbr => ?_) | simp (disch := first | omega | (simp only [length_take, length_drop, length_append, map_cons, map_nil, length_map, length_cons, length_nil, length_set, length_replicate]; omega) | (simp only [length_cons, length_nil, Nat.zero_add, Nat.reduceAdd])) only [go_sem, ↓reduceIte, Nat.reduceAdd, Int.reduceNeg, Int.reduceAdd, Int.reduceSub, Int.reduceMul, Int.reduceLT, Int.reduceLE, Int.reduceEq, Int.reduceToNat, Nat.reduceBEq, nat1, u_impl_shapeValid_j0, ix_it, encIt])
      all_goals first
        | omega
        | exact ret_b (by rw [allB_no (p := fun j => iiB k lv.length (its.getD j default)) hlt2 (by unfold iiB; rw [hat]; (first | (simp [-List.getD_eq_getElem?_getD, true_and, *]; done) | (simp_all [-List.getD_eq_getElem?_getD, true_and]; done) | (simp [-List.getD_eq_getElem?_getD, true_and, *]; omega) | (simp_all [-List.getD_eq_getElem?_getD, true_and]; omega) | omega))])
        | exact ret_b (by rw [allB_no (p := fun j => iiB k lv.length (its.getD j default)) hlt2 (by grind [iiB])])
        | exact ⟨i + 1, rfl, ⟨by omega, allB_step ha2 (by unfold iiB; rw [hat]; (first | (simp [-List.getD_eq_getElem?_getD, true_and, *]; done) | (simp_all [-List.getD_eq_getElem?_getD, true_and]; done) | (simp [-List.getD_eq_getElem?_getD, true_and, *]; omega) | (simp_all [-List.getD_eq_getElem?_getD, true_and]; omega) | omega))⟩, by omega⟩
        | exact ⟨i + 1, rfl, ⟨by omega, allB_step ha2 (by grind [iiB])⟩, by omega⟩
        | skip
  obtain rfl : i = its.length := by omega
  repeat' (first | (with_reducible first | refine jn_in ?_ | refine cl_ok (by assumption) rfl ?_ | refine cl_okP (by assumption) rfl ?_ | refine br_if (fun hbr => ?_) fun hbr => ?_ | refine br_ifn (fun hbr => ?_) fun hbr => ?_ | refine br_nb (fun hbr => ?_) fun hbr => ?_ | refine br_b (fun hbr => ?_) fun hbr => ?_) | simp (disch := first | omega | (simp only [length_take, length_drop, length_append, map_cons, map_nil, length_map, length_cons, length_nil, length_set, length_replicate]; omega) | (simp only [length_cons, length_nil, Nat.zero_add, Nat.reduceAdd])) only [go_sem, ↓reduceIte, Nat.reduceAdd, Int.reduceNeg, Int.reduceAdd, Int.reduceSub, Int.reduceMul, Int.reduceLT, Int.reduceLE, Int.reduceEq, Int.reduceToNat, Nat.reduceBEq, nat1, true_and])
  all_goals first | omega | exact ret_b ha2 | skip
def IPv (n : Nat) : Prop := ∀ v, wtV v ≤ 1048576 → dpB n v = true → Meets Try.prog 68 [(true, encV v)] [(false, [.sc (.bool (vcB n v))], true)]
theorem iPv_step (n : Nat) (ih : ∀ m, n = m + 1 → IPv m) : IPv n := by
  intro v hw hd
  have hv : ∃ k its ps ns cl lv c e, v = .mk k its ps ns cl lv c e := by
    obtain ⟨k, its, ps, ns, cl, lv, c, e⟩ := v
    exact ⟨_, _, _, _, _, _, _, _, rfl⟩
  obtain ⟨k, its, ps, ns, cl, lv, c, e, hve⟩ := hv
  subst hve
  have hb := bdV hw
  have h1 := iShp_m _ k its ps ns cl lv c e rfl hb
  obtain ⟨b1, b2, b3, b4, b5, b6⟩ := hb
  rw [vcB_mk]
  generalize shB k its ps.length ns cl lv c e = sb at *
  simp only [encV, encV_mk, encSs] at h1 ⊢
  refine meets_upf Try.func68 u_impl_partsValid_g rfl ?_; simp only [u_impl_partsValid_u]
  simp (disch := first | omega | (simp only [length_take, length_drop, length_append, map_cons, map_nil, length_map, length_cons, length_nil, length_set, length_replicate]; omega) | (simp only [length_cons, length_nil, Nat.zero_add, Nat.reduceAdd])) only [go_sem, ↓reduceIte, Nat.reduceAdd, Int.reduceNeg, Int.reduceAdd, Int.reduceSub, Int.reduceMul, Int.reduceLT, Int.reduceLE, Int.reduceEq, Int.reduceToNat, Nat.reduceBEq, nat1, true_and]
  refine cl_ok h1 rfl ?_
  cases sb
  · repeat' (first | (with_reducible first | refine jn_in ?_ | refine cl_ok (by assumption) rfl ?_ | refine cl_okP (by assumption) rfl ?_ | refine br_if (fun hbr => ?_) fun hbr => ?_ | refine br_ifn (fun hbr => ?_) fun hbr => ?_ | refine br_nb (fun hbr => ?_) fun hbr => ?_ | refine br_b (fun hbr => ?_) fun hbr => ?_) | simp (disch := first | omega | (simp only [length_take, length_drop, length_append, map_cons, map_nil, length_map, length_cons, length_nil, length_set, length_replicate]; omega) | (simp only [length_cons, length_nil, Nat.zero_add, Nat.reduceAdd])) only [go_sem, ↓reduceIte, Nat.reduceAdd, Int.reduceNeg, Int.reduceAdd, Int.reduceSub, Int.reduceMul, Int.reduceLT, Int.reduceLE, Int.reduceEq, Int.reduceToNat, Nat.reduceBEq, nat1, true_and])
    all_goals exact ret_b rfl
  rw [Bool.true_and]
  simp (disch := first | omega | (simp only [length_take, length_drop, length_append, map_cons, map_nil, length_map, length_cons, length_nil, length_set, length_replicate]; omega) | (simp only [length_cons, length_nil, Nat.zero_add, Nat.reduceAdd])) only [go_sem, ↓reduceIte, Nat.reduceAdd, Int.reduceNeg, Int.reduceAdd, Int.reduceSub, Int.reduceMul, Int.reduceLT, Int.reduceLE, Int.reduceEq, Int.reduceToNat, Nat.reduceBEq, nat1, true_and]
  refine lp (fun i : Nat => [.sc (.int .i64 i)]) (fun i => i ≤ ps.length ∧ allB (kidB n ps) i = true) (fun i => ps.length - i) 0 rfl ⟨Nat.zero_le _, rfl⟩ ?_
  rintro i ⟨hi2, ha2⟩
  simp only [u_impl_partsValid_l0]
  by_cases hlt2 : i < ps.length
  · rcases n with _ | m
    · rw [dpB] at hd
      exact absurd (allB_iff.1 hd i hlt2) (by decide)
    · have hm := getD_mem hlt2
      rw [dpB] at hd
      have hc := ih m rfl _ (b6 _ hm) (allB_iff.1 hd i hlt2)
      have hk : kidB (m + 1) ps i = vcB m (ps.getD i default) := rfl
      have hix : eIdx 8 (some (.sl 42 8 (ps.map encV))) (some (.sc (.int .i64 (i : Int)))) = some (encV (ps.getD i default)) := by rw [ix_V (by omega) (by omega), Int.toNat_natCast]
      generalize ps.getD i default = x at hc hix hk
      generalize vcB m x = b at hc hk
      obtain ⟨x0, x1, x2, x3, x4, x5, x6, x7⟩ := x
      simp only [encV, encV_mk, encSs] at hc hix
      cases b
      · repeat' (first | (with_reducible first | refine jn_in ?_ | refine cl_ok (by assumption) rfl ?_ | refine cl_okP (by assumption) rfl ?_ | refine br_if (fun hbr => ?_) fun hbr => ?_ | refine br_ifn (fun hbr => ?_) fun hbr => ?_ | refine br_nb (fun hbr => ?_) fun hbr => ?_ | refine br_b (fun hbr => ?_) fun hbr => ?_) | simp (disch := first | omega | (simp only [length_take, length_drop, length_append, map_cons, map_nil, length_map, length_cons, length_nil, length_set, length_replicate]; omega) | (simp only [length_cons, length_nil, Nat.zero_add, Nat.reduceAdd])) only [go_sem, ↓reduceIte, Nat.reduceAdd, Int.reduceNeg, Int.reduceAdd, Int.reduceSub, Int.reduceMul, Int.reduceLT, Int.reduceLE, Int.reduceEq, Int.reduceToNat, Nat.reduceBEq, nat1, hix])
        all_goals first
          | omega
          | exact ret_b (by rw [allB_no (p := kidB (m + 1) ps) hlt2 hk])
          | skip
      · repeat' (first | (with_reducible first | refine jn_in ?_ | refine cl_ok (by assumption) rfl ?_ | refine cl_okP (by assumption) rfl ?_ | refine br_if (fun hbr => ?_) fun hbr => ?_ | refine br_ifn (fun hbr => ?_) fun hbr => ?_ | refine br_nb (fun hbr => ?_) fun hbr => ?_ | refine br_b (fun hbr => ?_) fun hbr => ?_) | simp (disch := first | omega | (simp only [length_take, length_drop, length_append, map_cons, map_nil, length_map, length_cons, length_nil, length_set, length_replicate]; omega) | (simp only [length_cons, length_nil, Nat.zero_add, Nat.reduceAdd])) only [go_sem, ↓reduceIte, Nat.reduceAdd, Int.reduceNeg, Int.reduceAdd, Int.reduceSub, Int.reduceMul, Int.reduceLT, Int.reduceLE, Int.reduceEq, Int.reduceToNat, Nat.reduceBEq, nat1, hix])
        all_goals first
          | omega
          | exact ⟨i + 1, rfl, ⟨by omega, allB_step ha2 hk⟩, by omega⟩
          | skip
  · obtain rfl : i = ps.length := by omega
    repeat' (first | (with_reducible first | refine jn_in ?_ | refine cl_ok (by assumption) rfl ?_ | refine cl_okP (by assumption) rfl ?_ | refine br_if (fun hbr => ?_) fun hbr => ?_ | refine br_ifn (fun hbr => ?_) fun hbr => ?_ | refine br_nb (fun hbr => ?_) fun hbr => ?_ | refine br_b (fun hbr => ?_) fun hbr => ?_) | simp (disch := first | omega | (simp only [length_take, length_drop, length_append, map_cons, map_nil, length_map, length_cons, length_nil, length_set, length_replicate]; omega) | (simp only [length_cons, length_nil, Nat.zero_add, Nat.reduceAdd])) only [go_sem, ↓reduceIte, Nat.reduceAdd, Int.reduceNeg, Int.reduceAdd, Int.reduceSub, Int.reduceMul, Int.reduceLT, Int.reduceLE, Int.reduceEq, Int.reduceToNat, Nat.reduceBEq, nat1, true_and])
    all_goals first | omega | exact ret_b ha2 | skip
theorem iPv_m : ∀ n, IPv n
  | 0 => iPv_step 0 fun m e => by omega
  | n + 1 => iPv_step (n + 1) fun m e => by obtain rfl : n = m := by omega
                                            exact iPv_m n
def INe (n : Nat) : Prop := ∀ v, wtV v ≤ 1048576 → Meets Try.prog 67 [(true, encV v), (false, [.sc (.int .i64 n)])] [(false, [.sc (.int .i64 (neN n v))], true)]
theorem iNe_zero : INe 0 := by
  rintro ⟨k, its, ps, ns, cl, lv, c, e⟩ hw
  unfold neN
  simp only [encV, encV_mk, encSs]
  refine meets_upf Try.func67 u_impl_nest_g rfl ?_; simp only [u_impl_nest_u]
  repeat' (first | (with_reducible first | refine jn_in ?_ | refine cl_ok (by assumption) rfl ?_ | refine cl_okP (by assumption) rfl ?_ | refine br_if (fun hbr => ?_) fun hbr => ?_ | refine br_ifn (fun hbr => ?_) fun hbr => ?_ | refine br_nb (fun hbr => ?_) fun hbr => ?_ | refine br_b (fun hbr => ?_) fun hbr => ?_) | simp (disch := first | omega | (simp only [length_take, length_drop, length_append, map_cons, map_nil, length_map, length_cons, length_nil, length_set, length_replicate]; omega) | (simp only [length_cons, length_nil, Nat.zero_add, Nat.reduceAdd])) only [go_sem, ↓reduceIte, Nat.reduceAdd, Int.reduceNeg, Int.reduceAdd, Int.reduceSub, Int.reduceMul, Int.reduceLT, Int.reduceLE, Int.reduceEq, Int.reduceToNat, Nat.reduceBEq, nat1, true_and])
  all_goals first | rfl | omega
theorem neN_mk (n : Nat) (k : Int) (its : List It) (ps : List Vec) (ns cl lv : List ByteArray) (c e : Int) : neN (n + 1) (.mk k its ps ns cl lv c e) = (ps.map fun p => neN n p + 1).foldl max 0 := by rw [neN]
theorem iNe_step (n : Nat) (hn : n ≤ 1000) (ih : INe n) : INe (n + 1) := by
  rintro ⟨k, its, ps, ns, cl, lv, c, e⟩ hw
  obtain ⟨b1, b2, b3, b4, b5, b6⟩ := bdV hw
  rw [neN_mk]
  simp only [encV, encV_mk, encSs]
  have hs : ((n + 1 : Nat) : Int) - 1 = (n : Int) := by omega
  have h0 : ¬ ((n + 1 : Nat) : Int) = 0 := by omega
  generalize ((n + 1 : Nat) : Int) = n1 at *
  refine meets_upf Try.func67 u_impl_nest_g rfl ?_; simp only [u_impl_nest_u]
  simp (disch := first | omega | (simp only [length_take, length_drop, length_append, map_cons, map_nil, length_map, length_cons, length_nil, length_set, length_replicate]; omega) | (simp only [length_cons, length_nil, Nat.zero_add, Nat.reduceAdd])) only [go_sem, ↓reduceIte, Nat.reduceAdd, Int.reduceNeg, Int.reduceAdd, Int.reduceSub, Int.reduceMul, Int.reduceLT, Int.reduceLE, Int.reduceEq, Int.reduceToNat, Nat.reduceBEq, nat1, true_and]
  refine br_if (fun hx => absurd hx h0) (fun _ => ?_)
  simp (disch := first | omega | (simp only [length_take, length_drop, length_append, map_cons, map_nil, length_map, length_cons, length_nil, length_set, length_replicate]; omega) | (simp only [length_cons, length_nil, Nat.zero_add, Nat.reduceAdd])) only [go_sem, ↓reduceIte, Nat.reduceAdd, Int.reduceNeg, Int.reduceAdd, Int.reduceSub, Int.reduceMul, Int.reduceLT, Int.reduceLE, Int.reduceEq, Int.reduceToNat, Nat.reduceBEq, nat1, true_and]
  refine lp (fun i : Nat => [.sc (.int .i64 i), .sc (.int .i64 (((ps.take i).map fun p => neN n p + 1).foldl max 0 : Nat))]) (fun i => i ≤ ps.length) (fun i => ps.length - i) 0 rfl (Nat.zero_le _) ?_
  intro i hi
  simp only [u_impl_nest_l0]
  have hbd : ((ps.take i).map fun p => neN n p + 1).foldl max 0 ≤ n + 2 := by
    rw [foldl_max_le]
    refine ⟨by omega, fun x hx => ?_⟩
    obtain ⟨p, hp, rfl⟩ := List.mem_map.1 hx
    have := neN_bd n p
    omega
  by_cases hlt : i < ps.length
  · have hm := getD_mem hlt
    have hc := ih _ (b6 _ hm)
    have hstep : ((ps.take (i + 1)).map fun p => neN n p + 1).foldl max 0 = max (((ps.take i).map fun p => neN n p + 1).foldl max 0) (neN n (ps.getD i default) + 1) := by
      rw [take_succD hlt, List.map_append, List.foldl_append]; rfl
    have hnb := neN_bd n (ps.getD i default)
    have hix : eIdx 8 (some (.sl 42 8 (ps.map encV))) (some (.sc (.int .i64 (i : Int)))) = some (encV (ps.getD i default)) := by rw [ix_V (by omega) (by omega), Int.toNat_natCast]
    generalize ps.getD i default = x at hc hix hstep hnb
    generalize ((ps.take i).map fun p => neN n p + 1).foldl max 0 = cur at *
    generalize neN n x = y at *
    obtain ⟨x0, x1, x2, x3, x4, x5, x6, x7⟩ := x
    simp only [encV, encV_mk, encSs] at hc hix
    repeat' (first | (with_reducible first | refine jn_in ?_ | refine cl_ok (by assumption) rfl ?_ | refine cl_okP (by assumption) rfl ?_ | refine br_if (fun hbr => ?_) fun hbr => ?_ | refine br_ifn (fun hbr => ?_) fun hbr => ?_ | refine br_nb (fun hbr => ?_) fun hbr => ?_ | refine br_b (fun hbr => ?_) fun hbr => ?_) | simp (disch := first | omega | (simp only [length_take, length_drop, length_append, map_cons, map_nil, length_map, length_cons, length_nil, length_set, length_replicate]; omega) | (simp only [length_cons, length_nil, Nat.zero_add, Nat.reduceAdd])) only [go_sem, ↓reduceIte, Nat.reduceAdd, Int.reduceNeg, Int.reduceAdd, Int.reduceSub, Int.reduceMul, Int.reduceLT, Int.reduceLE, Int.reduceEq, Int.reduceToNat, Nat.reduceBEq, nat1, hix, hs])
    all_goals first
      | omega
      | exact ⟨i + 1, by rw [hstep]; congr 4; omega, by omega, by omega⟩
      | skip
  · obtain rfl : i = ps.length := by omega
    rw [List.take_length] at *
    repeat' (first | (with_reducible first | refine jn_in ?_ | refine cl_ok (by assumption) rfl ?_ | refine cl_okP (by assumption) rfl ?_ | refine br_if (fun hbr => ?_) fun hbr => ?_ | refine br_ifn (fun hbr => ?_) fun hbr => ?_ | refine br_nb (fun hbr => ?_) fun hbr => ?_ | refine br_b (fun hbr => ?_) fun hbr => ?_) | simp (disch := first | omega | (simp only [length_take, length_drop, length_append, map_cons, map_nil, length_map, length_cons, length_nil, length_set, length_replicate]; omega) | (simp only [length_cons, length_nil, Nat.zero_add, Nat.reduceAdd])) only [go_sem, ↓reduceIte, Nat.reduceAdd, Int.reduceNeg, Int.reduceAdd, Int.reduceSub, Int.reduceMul, Int.reduceLT, Int.reduceLE, Int.reduceEq, Int.reduceToNat, Nat.reduceBEq, nat1, true_and])
    all_goals first | omega | exact ret_z rfl | skip
theorem iNe_m : ∀ n, n ≤ 1000 → INe n
  | 0, _ => iNe_zero
  | n + 1, h => iNe_step n (by omega) (iNe_m n (by omega))
def ICel (n : Nat) : Prop := ∀ v, wtV v ≤ 1048576 → vcB n v = true → Meets Try.prog 69 [(true, encV v)] [(false, [.sc (.int .i64 (ceN n v))], true)]
theorem iCel_step (n : Nat) (hn : n ≤ 3) (ih : ∀ m, n = m + 1 → ICel m) : ICel n := by
  rintro ⟨k, its, ps, ns, cl, lv, c, e⟩ hw hv
  have hb := bdV hw
  have hbd : ((ceN n (.mk k its ps ns cl lv c e) : Nat) : Int) ≤ 3000000 := by have := ceN_bd n hn _ hv; omega
  have h1 := iLen_m k its ps ns cl lv c e hb
  obtain ⟨b1, b2, b3, b4, b5, b6⟩ := hb
  have hlen := lnV_bd (k := k) b1 b2
  rw [ceN_mk] at hbd ⊢
  rw [vcB_mk] at hv
  have hkid := (Bool.and_eq_true _ _ ▸ hv).2
  generalize hln : lnV k its.length ps.length = ln at *
  simp only [encV, encV_mk, encSs] at h1 ⊢
  refine meets_upf Try.func69 u_impl_cells_g rfl ?_; simp only [u_impl_cells_u]
  simp (disch := first | omega | (simp only [length_take, length_drop, length_append, map_cons, map_nil, length_map, length_cons, length_nil, length_set, length_replicate]; omega) | (simp only [length_cons, length_nil, Nat.zero_add, Nat.reduceAdd])) only [go_sem, ↓reduceIte, Nat.reduceAdd, Int.reduceNeg, Int.reduceAdd, Int.reduceSub, Int.reduceMul, Int.reduceLT, Int.reduceLE, Int.reduceEq, Int.reduceToNat, Nat.reduceBEq, nat1, true_and]
  refine cl_ok h1 rfl ?_
  simp (disch := first | omega | (simp only [length_take, length_drop, length_append, map_cons, map_nil, length_map, length_cons, length_nil, length_set, length_replicate]; omega) | (simp only [length_cons, length_nil, Nat.zero_add, Nat.reduceAdd])) only [go_sem, ↓reduceIte, Nat.reduceAdd, Int.reduceNeg, Int.reduceAdd, Int.reduceSub, Int.reduceMul, Int.reduceLT, Int.reduceLE, Int.reduceEq, Int.reduceToNat, Nat.reduceBEq, nat1, true_and]
  refine lp (fun i : Nat => [.sc (.int .i64 i), .sc (.int .i64 (ln + (sumBy (kidC n) (ps.take i) : Nat)))]) (fun i => i ≤ ps.length) (fun i => ps.length - i) 0 (by simp [gL, sumBy]) (Nat.zero_le _) ?_
  intro i hi
  simp only [u_impl_cells_l0]
  have hs1 := sumBy_le (kidC n) ps i
  by_cases hlt : i < ps.length
  · have hs2 := sumBy_le (kidC n) ps (i + 1)
    have hm := getD_mem hlt
    rcases n with _ | m
    · exact absurd (allB_iff.1 hkid i hlt) (by show ¬ false = true; decide)
    · have hk : vcB m (ps.getD i default) = true := allB_iff.1 hkid i hlt
      have hc := ih m rfl _ (b6 _ hm) hk
      have hq : kidC (m + 1) (ps.getD i default) = ceN m (ps.getD i default) := rfl
      have hs3 := sumBy_succ (kidC (m + 1)) hlt
      have hix : eIdx 8 (some (.sl 42 8 (ps.map encV))) (some (.sc (.int .i64 (i : Int)))) = some (encV (ps.getD i default)) := by rw [ix_V (by omega) (by omega), Int.toNat_natCast]
      generalize ps.getD i default = x at hc hix hq hs3
      rw [hq] at hs3
      generalize ceN m x = y at hc hs3
      obtain ⟨x0, x1, x2, x3, x4, x5, x6, x7⟩ := x
      simp only [encV, encV_mk, encSs] at hc hix
      repeat' (first | (with_reducible first | refine jn_in ?_ | refine cl_ok (by assumption) rfl ?_ | refine cl_okP (by assumption) rfl ?_ | refine br_if (fun hbr => ?_) fun hbr => ?_ | refine br_ifn (fun hbr => ?_) fun hbr => ?_ | refine br_nb (fun hbr => ?_) fun hbr => ?_ | refine br_b (fun hbr => ?_) fun hbr => ?_) | simp (disch := first | omega | (simp only [length_take, length_drop, length_append, map_cons, map_nil, length_map, length_cons, length_nil, length_set, length_replicate]; omega) | (simp only [length_cons, length_nil, Nat.zero_add, Nat.reduceAdd])) only [go_sem, ↓reduceIte, Nat.reduceAdd, Int.reduceNeg, Int.reduceAdd, Int.reduceSub, Int.reduceMul, Int.reduceLT, Int.reduceLE, Int.reduceEq, Int.reduceToNat, Nat.reduceBEq, nat1, hix])
      all_goals first
        | omega
        | exact ⟨i + 1, by congr 4; omega, by omega, by omega⟩
        | skip
  · obtain rfl : i = ps.length := by omega
    rw [List.take_length] at *
    repeat' (first | (with_reducible first | refine jn_in ?_ | refine cl_ok (by assumption) rfl ?_ | refine cl_okP (by assumption) rfl ?_ | refine br_if (fun hbr => ?_) fun hbr => ?_ | refine br_ifn (fun hbr => ?_) fun hbr => ?_ | refine br_nb (fun hbr => ?_) fun hbr => ?_ | refine br_b (fun hbr => ?_) fun hbr => ?_) | simp (disch := first | omega | (simp only [length_take, length_drop, length_append, map_cons, map_nil, length_map, length_cons, length_nil, length_set, length_replicate]; omega) | (simp only [length_cons, length_nil, Nat.zero_add, Nat.reduceAdd])) only [go_sem, ↓reduceIte, Nat.reduceAdd, Int.reduceNeg, Int.reduceAdd, Int.reduceSub, Int.reduceMul, Int.reduceLT, Int.reduceLE, Int.reduceEq, Int.reduceToNat, Nat.reduceBEq, nat1, true_and])
    all_goals first | omega | exact ret_z (by omega) | skip
theorem iCel_m : ∀ n, n ≤ 3 → ICel n
  | 0, h => iCel_step 0 h fun m e => by omega
  | n + 1, h => iCel_step (n + 1) h fun m e => by obtain rfl : n = m := by omega
                                                  exact iCel_m n (by omega)
theorem iIsVec_m (v : Vec) (hw : wtV v ≤ 1048576) : Meets Try.prog 51 [(true, encV v)] [(false, [.sc (.bool (isVc v))], true)] := by
  have h1 := iNe_m 4 (by omega) v hw
  have h2 := iPv_m 3 v hw
  have h3 := iCel_m 3 (by omega) v hw
  have h4 := vcB_dpB 3 v
  have h5 := neN_dp 3 v
  rw [show ((4 : Nat) : Int) = 4 from rfl] at h1
  unfold isVc
  generalize ceN 3 v = y at *
  generalize neN 4 v = z at *
  generalize dpB 3 v = d at *
  generalize vcB 3 v = b at *
  obtain ⟨k, its, ps, ns, cl, lv, c, e⟩ := v
  simp only [encV, encV_mk, encSs] at h1 h2 h3 ⊢
  refine meets_upf Try.func51 u_impl_IsVector_g rfl ?_; simp only [u_impl_IsVector_u]
  cases d
  · have hz : ¬ (z : Int) ≤ 3 := fun h => by have := h5.1 (by omega); cases this
    have hb : b = false := by cases b; rfl; exact absurd (h4 rfl) (by decide)
    subst hb
    repeat' (first | (with_reducible first | refine jn_in ?_ | refine cl_ok (by assumption) rfl ?_ | refine cl_okP (by assumption) rfl ?_ | refine br_if (fun hbr => ?_) fun hbr => ?_ | refine br_ifn (fun hbr => ?_) fun hbr => ?_ | refine br_nb (fun hbr => ?_) fun hbr => ?_ | refine br_b (fun hbr => ?_) fun hbr => ?_) | simp (disch := first | omega | (simp only [length_take, length_drop, length_append, map_cons, map_nil, length_map, length_cons, length_nil, length_set, length_replicate]; omega) | (simp only [length_cons, length_nil, Nat.zero_add, Nat.reduceAdd])) only [go_sem, ↓reduceIte, Nat.reduceAdd, Int.reduceNeg, Int.reduceAdd, Int.reduceSub, Int.reduceMul, Int.reduceLT, Int.reduceLE, Int.reduceEq, Int.reduceToNat, Nat.reduceBEq, nat1, true_and])
    all_goals first | omega | exact ret_b rfl
  · have hz : (z : Int) ≤ 3 := by have := h5.2 rfl; omega
    have h2' := h2 rfl
    cases b
    · repeat' (first | (with_reducible first | refine jn_in ?_ | refine cl_ok (by assumption) rfl ?_ | refine cl_okP (by assumption) rfl ?_ | refine br_if (fun hbr => ?_) fun hbr => ?_ | refine br_ifn (fun hbr => ?_) fun hbr => ?_ | refine br_nb (fun hbr => ?_) fun hbr => ?_ | refine br_b (fun hbr => ?_) fun hbr => ?_) | simp (disch := first | omega | (simp only [length_take, length_drop, length_append, map_cons, map_nil, length_map, length_cons, length_nil, length_set, length_replicate]; omega) | (simp only [length_cons, length_nil, Nat.zero_add, Nat.reduceAdd])) only [go_sem, ↓reduceIte, Nat.reduceAdd, Int.reduceNeg, Int.reduceAdd, Int.reduceSub, Int.reduceMul, Int.reduceLT, Int.reduceLE, Int.reduceEq, Int.reduceToNat, Nat.reduceBEq, nat1, true_and])
      all_goals first | omega | exact ret_b rfl
    · have h3' := h3 rfl
      repeat' (first | (with_reducible first | refine jn_in ?_ | refine cl_ok (by assumption) rfl ?_ | refine cl_okP (by assumption) rfl ?_ | refine br_if (fun hbr => ?_) fun hbr => ?_ | refine br_ifn (fun hbr => ?_) fun hbr => ?_ | refine br_nb (fun hbr => ?_) fun hbr => ?_ | refine br_b (fun hbr => ?_) fun hbr => ?_) | simp (disch := first | omega | (simp only [length_take, length_drop, length_append, map_cons, map_nil, length_map, length_cons, length_nil, length_set, length_replicate]; omega) | (simp only [length_cons, length_nil, Nat.zero_add, Nat.reduceAdd])) only [go_sem, ↓reduceIte, Nat.reduceAdd, Int.reduceNeg, Int.reduceAdd, Int.reduceSub, Int.reduceMul, Int.reduceLT, Int.reduceLE, Int.reduceEq, Int.reduceToNat, Nat.reduceBEq, nat1, true_and])
      all_goals first | omega | exact ret_b rfl
end Go.Proofs.Ytkhibgknpcgneaa

namespace Go.Proofs.Ytkhibgknpcgneaa
open List (length_take length_drop length_append map_cons map_nil length_map length_cons length_nil length_set length_replicate)
open Go.RowKit
set_option maxRecDepth 100000
abbrev encS2 (E : List Env) (P : List Pro) : List DV := [encEnvs E, encPros P]
def eU (E : List Env) (k : Int) : Bool := decide (0 ≤ k) && (decide (k < (E.length : Int)) && (E.getD k.toNat default).used)
def pU (P : List Pro) (k : Int) : Bool := decide (0 ≤ k) && (decide (k < (P.length : Int)) && (P.getD k.toNat default).used)
theorem envUsed_m (E : List Env) (P : List Pro) (k : Int) (hE : E.length ≤ 1048576) : Meets Try.prog 31 [(true, encS2 E P), (false, [.sc (.int .i64 k)])] [(false, [.sc (.bool (eU E k))], true)] := by
  simp only [encS2, encEnvs, encPros]
  refine meets_upf Try.func31 u_impl_envUsed_g rfl ?_; simp only [u_impl_envUsed_u]
  unfold eU
  repeat' (first | (with_reducible first | refine jn_in ?_ | refine cl_ok (by assumption) rfl ?_ | refine cl_okP (by assumption) rfl ?_ | refine br_if (fun hbr => ?_) fun hbr => ?_ | refine br_ifn (fun hbr => ?_) fun hbr => ?_ | refine br_nb (fun hbr => ?_) fun hbr => ?_ | refine br_b (fun hbr => ?_) fun hbr => ?_) | simp (disch := first | omega | (simp only [length_take, length_drop, length_append, map_cons, map_nil, length_map, length_cons, length_nil, length_set, length_replicate]; omega) | (simp only [length_cons, length_nil, Nat.zero_add, Nat.reduceAdd])) only [go_sem, ↓reduceIte, Nat.reduceAdd, Int.reduceNeg, Int.reduceAdd, Int.reduceSub, Int.reduceMul, Int.reduceLT, Int.reduceLE, Int.reduceEq, Int.reduceToNat, Nat.reduceBEq, nat1, ix_Env, encEnv, List.cons_append, List.nil_append])
  all_goals (refine ret_b ?_; simp [*])
theorem promiseUsed_m (E : List Env) (P : List Pro) (k : Int) (hP : P.length ≤ 1048576) : Meets Try.prog 49 [(true, encS2 E P), (false, [.sc (.int .i64 k)])] [(false, [.sc (.bool (pU P k))], true)] := by
  have hix : 0 ≤ k → k < (P.length : Int) → eIdx 12 (some (.sl 44 12 (P.map encPro))) (some (.sc (.int .i64 k))) = some (encPro (P.getD k.toNat default)) := fun h1 h2 => ix_Pro h1 h2
  simp only [encS2, encEnvs, encPros]
  refine meets_upf Try.func49 u_impl_promiseUsed_g rfl ?_; simp only [u_impl_promiseUsed_u]
  unfold pU
  by_cases h0 : 0 ≤ k
  · by_cases h1 : k < (P.length : Int)
    · have hi := hix h0 h1
      generalize P.getD k.toNat default = x at *
      obtain ⟨x0, x1, x2, x3, ⟨v0, v1, v2, v3, v4, v5, v6, v7⟩⟩ := x
      simp only [encPro, encV, encV_mk, encSs, List.cons_append, List.nil_append, List.append_nil] at hi
      repeat' (first | (with_reducible first | refine jn_in ?_ | refine cl_ok (by assumption) rfl ?_ | refine cl_okP (by assumption) rfl ?_ | refine br_if (fun hbr => ?_) fun hbr => ?_ | refine br_ifn (fun hbr => ?_) fun hbr => ?_ | refine br_nb (fun hbr => ?_) fun hbr => ?_ | refine br_b (fun hbr => ?_) fun hbr => ?_) | simp (disch := first | omega | (simp only [length_take, length_drop, length_append, map_cons, map_nil, length_map, length_cons, length_nil, length_set, length_replicate]; omega) | (simp only [length_cons, length_nil, Nat.zero_add, Nat.reduceAdd])) only [go_sem, ↓reduceIte, Nat.reduceAdd, Int.reduceNeg, Int.reduceAdd, Int.reduceSub, Int.reduceMul, Int.reduceLT, Int.reduceLE, Int.reduceEq, Int.reduceToNat, Nat.reduceBEq, nat1, hi])
      all_goals first | omega | (refine ret_b ?_; simp [*])
    · repeat' (first | (with_reducible first | refine jn_in ?_ | refine cl_ok (by assumption) rfl ?_ | refine cl_okP (by assumption) rfl ?_ | refine br_if (fun hbr => ?_) fun hbr => ?_ | refine br_ifn (fun hbr => ?_) fun hbr => ?_ | refine br_nb (fun hbr => ?_) fun hbr => ?_ | refine br_b (fun hbr => ?_) fun hbr => ?_) | simp (disch := first | omega | (simp only [length_take, length_drop, length_append, map_cons, map_nil, length_map, length_cons, length_nil, length_set, length_replicate]; omega) | (simp only [length_cons, length_nil, Nat.zero_add, Nat.reduceAdd])) only [go_sem, ↓reduceIte, Nat.reduceAdd, Int.reduceNeg, Int.reduceAdd, Int.reduceSub, Int.reduceMul, Int.reduceLT, Int.reduceLE, Int.reduceEq, Int.reduceToNat, Nat.reduceBEq, nat1, true_and])
      all_goals first | omega | (refine ret_b ?_; simp [*])
  · repeat' (first | (with_reducible first | refine jn_in ?_ | refine cl_ok (by assumption) rfl ?_ | refine cl_okP (by assumption) rfl ?_ | refine br_if (fun hbr => ?_) fun hbr => ?_ | refine br_ifn (fun hbr => ?_) fun hbr => ?_ | refine br_nb (fun hbr => ?_) fun hbr => ?_ | refine br_b (fun hbr => ?_) fun hbr => ?_) | simp (disch := first | omega | (simp only [length_take, length_drop, length_append, map_cons, map_nil, length_map, length_cons, length_nil, length_set, length_replicate]; omega) | (simp only [length_cons, length_nil, Nat.zero_add, Nat.reduceAdd])) only [go_sem, ↓reduceIte, Nat.reduceAdd, Int.reduceNeg, Int.reduceAdd, Int.reduceSub, Int.reduceMul, Int.reduceLT, Int.reduceLE, Int.reduceEq, Int.reduceToNat, Nat.reduceBEq, nat1, true_and])
    all_goals first | omega | (refine ret_b ?_; simp [*])
theorem l26Promise_m (E : List Env) (P : List Pro) (k : Int) (hP : P.length ≤ 1048576) : Meets Try.prog 42 [(true, encS2 E P), (false, [.sc (.int .i64 k)])] [(false, [.sc (.bool (pU P k))], true)] := by
  have hix : 0 ≤ k → k < (P.length : Int) → eIdx 12 (some (.sl 44 12 (P.map encPro))) (some (.sc (.int .i64 k))) = some (encPro (P.getD k.toNat default)) := fun h1 h2 => ix_Pro h1 h2
  have hin := mIn k 0 ((P.length : Int) - 1)
  simp only [encS2, encEnvs, encPros]
  refine meets_upf Try.func42 u_spec_l26Promise_g rfl ?_; simp only [u_spec_l26Promise_u]
  unfold pU
  by_cases h0 : 0 ≤ k ∧ k < (P.length : Int)
  · have hi := hix h0.1 h0.2
    rw [decide_eq_true (by omega)] at hin
    generalize P.getD k.toNat default = x at *
    obtain ⟨x0, x1, x2, x3, ⟨v0, v1, v2, v3, v4, v5, v6, v7⟩⟩ := x
    simp only [encPro, encV, encV_mk, encSs, List.cons_append, List.nil_append, List.append_nil] at hi
    repeat' (first | (with_reducible first | refine jn_in ?_ | refine cl_ok (by assumption) rfl ?_ | refine cl_okP (by assumption) rfl ?_ | refine br_if (fun hbr => ?_) fun hbr => ?_ | refine br_ifn (fun hbr => ?_) fun hbr => ?_ | refine br_nb (fun hbr => ?_) fun hbr => ?_ | refine br_b (fun hbr => ?_) fun hbr => ?_) | simp (disch := first | omega | (simp only [length_take, length_drop, length_append, map_cons, map_nil, length_map, length_cons, length_nil, length_set, length_replicate]; omega) | (simp only [length_cons, length_nil, Nat.zero_add, Nat.reduceAdd])) only [go_sem, ↓reduceIte, Nat.reduceAdd, Int.reduceNeg, Int.reduceAdd, Int.reduceSub, Int.reduceMul, Int.reduceLT, Int.reduceLE, Int.reduceEq, Int.reduceToNat, Nat.reduceBEq, nat1, hi])
    all_goals first | omega | (refine ret_b ?_; simp [h0.1, h0.2])
  · rw [decide_eq_false (by omega)] at hin
    repeat' (first | (with_reducible first | refine jn_in ?_ | refine cl_ok (by assumption) rfl ?_ | refine cl_okP (by assumption) rfl ?_ | refine br_if (fun hbr => ?_) fun hbr => ?_ | refine br_ifn (fun hbr => ?_) fun hbr => ?_ | refine br_nb (fun hbr => ?_) fun hbr => ?_ | refine br_b (fun hbr => ?_) fun hbr => ?_) | simp (disch := first | omega | (simp only [length_take, length_drop, length_append, map_cons, map_nil, length_map, length_cons, length_nil, length_set, length_replicate]; omega) | (simp only [length_cons, length_nil, Nat.zero_add, Nat.reduceAdd])) only [go_sem, ↓reduceIte, Nat.reduceAdd, Int.reduceNeg, Int.reduceAdd, Int.reduceSub, Int.reduceMul, Int.reduceLT, Int.reduceLE, Int.reduceEq, Int.reduceToNat, Nat.reduceBEq, nat1, true_and])
    all_goals first | omega | (refine ret_b ?_; rw [← Bool.and_assoc, ← Bool.decide_and, decide_eq_false h0]; rfl)
def fnN : Nat → List Env → Vec → Bool
  | 0, E, .mk k its ps ns cl lv c e => (!decide (k = 5) || eU E e) && allB (fun _ => false) ps.length
  | n + 1, E, .mk k its ps ns cl lv c e => (!decide (k = 5) || eU E e) && allB (fun j => fnN n E (ps.getD j default)) ps.length
def kidF (n : Nat) (E : List Env) (ps : List Vec) (j : Nat) : Bool := match n with | 0 => false | n + 1 => fnN n E (ps.getD j default)
theorem fnN_mk (n : Nat) (E : List Env) (k : Int) (its : List It) (ps : List Vec) (ns cl lv : List ByteArray) (c e : Int) : fnN n E (.mk k its ps ns cl lv c e) = ((!decide (k = 5) || eU E e) && allB (kidF n E ps) ps.length) := by
  cases n <;> rw [fnN] <;> rfl
def FFit (fn : FuncId) (E : List Env) (P : List Pro) (n : Nat) : Prop := ∀ v, wtV v ≤ 1048576 → vcB n v = true → Meets Try.prog fn [(true, encS2 E P), (true, encV v)] [(false, [.sc (.bool (fnN n E v))], true)]
theorem iFit_step (E : List Env) (P : List Pro) (hE : E.length ≤ 1048576) (n : Nat) (ih : ∀ m, n = m + 1 → FFit 52 E P m) : FFit 52 E P n := by
  rintro ⟨k, its, ps, ns, cl, lv, c, e⟩ hw hv
  obtain ⟨b1, b2, b3, b4, b5, b6⟩ := bdV hw
  have h1 := envUsed_m E P e hE
  rw [fnN_mk]
  rw [vcB_mk] at hv
  have hkid := (Bool.and_eq_true _ _ ▸ hv).2
  simp only [encS2, encEnvs, encPros, encV, encV_mk, encSs] at h1 ⊢
  refine meets_upf Try.func52 u_impl_functionsFit_g rfl ?_; simp only [u_impl_functionsFit_u]
  simp (disch := first | omega | (simp only [length_take, length_drop, length_append, map_cons, map_nil, length_map, length_cons, length_nil, length_set, length_replicate]; omega) | (simp only [length_cons, length_nil, Nat.zero_add, Nat.reduceAdd])) only [go_sem, ↓reduceIte, Nat.reduceAdd, Int.reduceNeg, Int.reduceAdd, Int.reduceSub, Int.reduceMul, Int.reduceLT, Int.reduceLE, Int.reduceEq, Int.reduceToNat, Nat.reduceBEq, nat1, true_and]
  refine jn_eq [.sc (.bool (!(!decide (k = 5) || eU E e)))] ?_ ?_
  · repeat' (first | (with_reducible first | refine jn_in ?_ | refine cl_ok (by assumption) rfl ?_ | refine cl_okP (by assumption) rfl ?_ | refine br_if (fun hbr => ?_) fun hbr => ?_ | refine br_ifn (fun hbr => ?_) fun hbr => ?_ | refine br_nb (fun hbr => ?_) fun hbr => ?_ | refine br_b (fun hbr => ?_) fun hbr => ?_) | simp (disch := first | omega | (simp only [length_take, length_drop, length_append, map_cons, map_nil, length_map, length_cons, length_nil, length_set, length_replicate]; omega) | (simp only [length_cons, length_nil, Nat.zero_add, Nat.reduceAdd])) only [go_sem, ↓reduceIte, Nat.reduceAdd, Int.reduceNeg, Int.reduceAdd, Int.reduceSub, Int.reduceMul, Int.reduceLT, Int.reduceLE, Int.reduceEq, Int.reduceToNat, Nat.reduceBEq, nat1, true_and])
    all_goals (refine bb ?_; simp [*])
  simp only [u_impl_functionsFit_j1]
  cases (!decide (k = 5) || eU E e)
  · repeat' (first | (with_reducible first | refine jn_in ?_ | refine cl_ok (by assumption) rfl ?_ | refine cl_okP (by assumption) rfl ?_ | refine br_if (fun hbr => ?_) fun hbr => ?_ | refine br_ifn (fun hbr => ?_) fun hbr => ?_ | refine br_nb (fun hbr => ?_) fun hbr => ?_ | refine br_b (fun hbr => ?_) fun hbr => ?_) | simp (disch := first | omega | (simp only [length_take, length_drop, length_append, map_cons, map_nil, length_map, length_cons, length_nil, length_set, length_replicate]; omega) | (simp only [length_cons, length_nil, Nat.zero_add, Nat.reduceAdd])) only [go_sem, ↓reduceIte, Nat.reduceAdd, Int.reduceNeg, Int.reduceAdd, Int.reduceSub, Int.reduceMul, Int.reduceLT, Int.reduceLE, Int.reduceEq, Int.reduceToNat, Nat.reduceBEq, nat1, true_and])
    all_goals exact ret_b rfl
  rw [Bool.true_and]
  simp (disch := first | omega | (simp only [length_take, length_drop, length_append, map_cons, map_nil, length_map, length_cons, length_nil, length_set, length_replicate]; omega) | (simp only [length_cons, length_nil, Nat.zero_add, Nat.reduceAdd])) only [go_sem, ↓reduceIte, Nat.reduceAdd, Int.reduceNeg, Int.reduceAdd, Int.reduceSub, Int.reduceMul, Int.reduceLT, Int.reduceLE, Int.reduceEq, Int.reduceToNat, Nat.reduceBEq, nat1, true_and]
  refine lp (fun i : Nat => [.sc (.int .i64 i)]) (fun i => i ≤ ps.length ∧ allB (kidF n E ps) i = true) (fun i => ps.length - i) 0 rfl ⟨Nat.zero_le _, rfl⟩ ?_
  rintro i ⟨hi2, ha2⟩
  simp only [u_impl_functionsFit_l0]
  by_cases hlt2 : i < ps.length
  · rcases n with _ | m
    · exact absurd (allB_iff.1 hkid i hlt2) (by show ¬ false = true; decide)
    · have hm := getD_mem hlt2
      have hc := ih m rfl _ (b6 _ hm) (allB_iff.1 hkid i hlt2)
      have hk : kidF (m + 1) E ps i = fnN m E (ps.getD i default) := rfl
      have hix : eIdx 8 (some (.sl 42 8 (ps.map encV))) (some (.sc (.int .i64 (i : Int)))) = some (encV (ps.getD i default)) := by rw [ix_V (by omega) (by omega), Int.toNat_natCast]
      generalize ps.getD i default = x at hc hix hk
      generalize fnN m E x = b at hc hk
      obtain ⟨x0, x1, x2, x3, x4, x5, x6, x7⟩ := x
      simp only [encS2, encEnvs, encPros, encV, encV_mk, encSs] at hc hix
      cases b
      · repeat' (first | (with_reducible first | refine jn_in ?_ | refine cl_ok (by assumption) rfl ?_ | refine cl_okP (by assumption) rfl ?_ | refine br_if (fun hbr => ?_) fun hbr => ?_ | refine br_ifn (fun hbr => ?_) fun hbr => ?_ | refine br_nb (fun hbr => ?_) fun hbr => ?_ | refine br_b (fun hbr => ?_) fun hbr => ?_) | simp (disch := first | omega | (simp only [length_take, length_drop, length_append, map_cons, map_nil, length_map, length_cons, length_nil, length_set, length_replicate]; omega) | (simp only [length_cons, length_nil, Nat.zero_add, Nat.reduceAdd])) only [go_sem, ↓reduceIte, Nat.reduceAdd, Int.reduceNeg, Int.reduceAdd, Int.reduceSub, Int.reduceMul, Int.reduceLT, Int.reduceLE, Int.reduceEq, Int.reduceToNat, Nat.reduceBEq, nat1, hix])
        all_goals first
          | omega
          | exact ret_b (by rw [allB_no (p := kidF (m + 1) E ps) hlt2 hk])
          | skip
      · repeat' (first | (with_reducible first | refine jn_in ?_ | refine cl_ok (by assumption) rfl ?_ | refine cl_okP (by assumption) rfl ?_ | refine br_if (fun hbr => ?_) fun hbr => ?_ | refine br_ifn (fun hbr => ?_) fun hbr => ?_ | refine br_nb (fun hbr => ?_) fun hbr => ?_ | refine br_b (fun hbr => ?_) fun hbr => ?_) | simp (disch := first | omega | (simp only [length_take, length_drop, length_append, map_cons, map_nil, length_map, length_cons, length_nil, length_set, length_replicate]; omega) | (simp only [length_cons, length_nil, Nat.zero_add, Nat.reduceAdd])) only [go_sem, ↓reduceIte, Nat.reduceAdd, Int.reduceNeg, Int.reduceAdd, Int.reduceSub, Int.reduceMul, Int.reduceLT, Int.reduceLE, Int.reduceEq, Int.reduceToNat, Nat.reduceBEq, nat1, hix])
        all_goals first
          | omega
          | exact ⟨i + 1, rfl, ⟨by omega, allB_step ha2 hk⟩, by omega⟩
          | skip
  · obtain rfl : i = ps.length := by omega
    repeat' (first | (with_reducible first | refine jn_in ?_ | refine cl_ok (by assumption) rfl ?_ | refine cl_okP (by assumption) rfl ?_ | refine br_if (fun hbr => ?_) fun hbr => ?_ | refine br_ifn (fun hbr => ?_) fun hbr => ?_ | refine br_nb (fun hbr => ?_) fun hbr => ?_ | refine br_b (fun hbr => ?_) fun hbr => ?_) | simp (disch := first | omega | (simp only [length_take, length_drop, length_append, map_cons, map_nil, length_map, length_cons, length_nil, length_set, length_replicate]; omega) | (simp only [length_cons, length_nil, Nat.zero_add, Nat.reduceAdd])) only [go_sem, ↓reduceIte, Nat.reduceAdd, Int.reduceNeg, Int.reduceAdd, Int.reduceSub, Int.reduceMul, Int.reduceLT, Int.reduceLE, Int.reduceEq, Int.reduceToNat, Nat.reduceBEq, nat1, true_and])
    all_goals first | omega | exact ret_b ha2 | skip
theorem iFit_m (E : List Env) (P : List Pro) (hE : E.length ≤ 1048576) : ∀ n, FFit 52 E P n
  | 0 => iFit_step E P hE 0 fun m e => by omega
  | n + 1 => iFit_step E P hE (n + 1) fun m e => by obtain rfl : n = m := by omega
                                                    exact iFit_m E P hE n
theorem sFit_step (E : List Env) (P : List Pro) (hE : E.length ≤ 1048576) (n : Nat) (ih : ∀ m, n = m + 1 → FFit 28 E P m) : FFit 28 E P n := by
  rintro ⟨k, its, ps, ns, cl, lv, c, e⟩ hw hv
  obtain ⟨b1, b2, b3, b4, b5, b6⟩ := bdV hw
  have hin := mIn e 0 ((E.length : Int) - 1)
  rw [fnN_mk]
  rw [vcB_mk, Bool.and_eq_true] at hv
  have hkid := hv.2
  have hp5 : k = 5 → ps.length = 0 := by
    intro h5
    have hs := hv.1
    unfold shB gB at hs
    simp only [Bool.and_eq_true, Bool.or_eq_true, decide_eq_true_eq] at hs
    have := hs.2.1.2.2
    omega
  simp only [encS2, encEnvs, encPros, encV, encV_mk, encSs] at ⊢
  refine meets_upf Try.func28 u_spec_l26Function_g rfl ?_; simp only [u_spec_l26Function_u]
  simp (disch := first | omega | (simp only [length_take, length_drop, length_append, map_cons, map_nil, length_map, length_cons, length_nil, length_set, length_replicate]; omega) | (simp only [length_cons, length_nil, Nat.zero_add, Nat.reduceAdd])) only [go_sem, ↓reduceIte, Nat.reduceAdd, Int.reduceNeg, Int.reduceAdd, Int.reduceSub, Int.reduceMul, Int.reduceLT, Int.reduceLE, Int.reduceEq, Int.reduceToNat, Nat.reduceBEq, nat1, true_and]
  refine br_if (fun h5 => ?_) (fun h5 => ?_)
  · rw [hp5 h5, decide_eq_true h5]
    show V _ (isRes [(false, [.sc (.bool ((!true || eU E e) && true))], true)]) _ _ _
    rw [Bool.not_true, Bool.false_or, Bool.and_true]
    unfold eU
    by_cases h0 : 0 ≤ e ∧ e < (E.length : Int)
    · rw [decide_eq_true (by omega)] at hin
      repeat' (first | (with_reducible first | refine jn_in ?_ | refine cl_ok (by assumption) rfl ?_ | refine cl_okP (by assumption) rfl ?_ | refine br_if (fun hbr => ?_) fun hbr => ?_ | refine br_ifn (fun hbr => ?_) fun hbr => ?_ | refine br_nb (fun hbr => ?_) fun hbr => ?_ | refine br_b (fun hbr => ?_) fun hbr => ?_) | simp (disch := first | omega | (simp only [length_take, length_drop, length_append, map_cons, map_nil, length_map, length_cons, length_nil, length_set, length_replicate]; omega) | (simp only [length_cons, length_nil, Nat.zero_add, Nat.reduceAdd])) only [go_sem, ↓reduceIte, Nat.reduceAdd, Int.reduceNeg, Int.reduceAdd, Int.reduceSub, Int.reduceMul, Int.reduceLT, Int.reduceLE, Int.reduceEq, Int.reduceToNat, Nat.reduceBEq, nat1, ix_Env, encEnv, List.cons_append, List.nil_append])
      all_goals first | omega | (refine ret_b ?_; simp [h0.1, h0.2])
    · rw [decide_eq_false (by omega)] at hin
      repeat' (first | (with_reducible first | refine jn_in ?_ | refine cl_ok (by assumption) rfl ?_ | refine cl_okP (by assumption) rfl ?_ | refine br_if (fun hbr => ?_) fun hbr => ?_ | refine br_ifn (fun hbr => ?_) fun hbr => ?_ | refine br_nb (fun hbr => ?_) fun hbr => ?_ | refine br_b (fun hbr => ?_) fun hbr => ?_) | simp (disch := first | omega | (simp only [length_take, length_drop, length_append, map_cons, map_nil, length_map, length_cons, length_nil, length_set, length_replicate]; omega) | (simp only [length_cons, length_nil, Nat.zero_add, Nat.reduceAdd])) only [go_sem, ↓reduceIte, Nat.reduceAdd, Int.reduceNeg, Int.reduceAdd, Int.reduceSub, Int.reduceMul, Int.reduceLT, Int.reduceLE, Int.reduceEq, Int.reduceToNat, Nat.reduceBEq, nat1, true_and])
      all_goals first | omega | (refine ret_b ?_; rw [← Bool.and_assoc, ← Bool.decide_and, decide_eq_false h0]; rfl)
  rw [decide_eq_false h5, Bool.not_false, Bool.true_or, Bool.true_and]
  simp (disch := first | omega | (simp only [length_take, length_drop, length_append, map_cons, map_nil, length_map, length_cons, length_nil, length_set, length_replicate]; omega) | (simp only [length_cons, length_nil, Nat.zero_add, Nat.reduceAdd])) only [go_sem, ↓reduceIte, Nat.reduceAdd, Int.reduceNeg, Int.reduceAdd, Int.reduceSub, Int.reduceMul, Int.reduceLT, Int.reduceLE, Int.reduceEq, Int.reduceToNat, Nat.reduceBEq, nat1, true_and]
  refine lp (fun i : Nat => [.sc (.int .i64 i)]) (fun i => i ≤ ps.length ∧ allB (kidF n E ps) i = true) (fun i => ps.length - i) 0 rfl ⟨Nat.zero_le _, rfl⟩ ?_
  rintro i ⟨hi2, ha2⟩
  simp only [u_spec_l26Function_l0]
  by_cases hlt2 : i < ps.length
  · rcases n with _ | m
    · exact absurd (allB_iff.1 hkid i hlt2) (by show ¬ false = true; decide)
    · have hm := getD_mem hlt2
      have hc := ih m rfl _ (b6 _ hm) (allB_iff.1 hkid i hlt2)
      have hk : kidF (m + 1) E ps i = fnN m E (ps.getD i default) := rfl
      have hix : eIdx 8 (some (.sl 42 8 (ps.map encV))) (some (.sc (.int .i64 (i : Int)))) = some (encV (ps.getD i default)) := by rw [ix_V (by omega) (by omega), Int.toNat_natCast]
      generalize ps.getD i default = x at hc hix hk
      generalize fnN m E x = b at hc hk
      obtain ⟨x0, x1, x2, x3, x4, x5, x6, x7⟩ := x
      simp only [encS2, encEnvs, encPros, encV, encV_mk, encSs] at hc hix
      cases b
      · repeat' (first | (with_reducible first | refine jn_in ?_ | refine cl_ok (by assumption) rfl ?_ | refine cl_okP (by assumption) rfl ?_ | refine br_if (fun hbr => ?_) fun hbr => ?_ | refine br_ifn (fun hbr => ?_) fun hbr => ?_ | refine br_nb (fun hbr => ?_) fun hbr => ?_ | refine br_b (fun hbr => ?_) fun hbr => ?_) | simp (disch := first | omega | (simp only [length_take, length_drop, length_append, map_cons, map_nil, length_map, length_cons, length_nil, length_set, length_replicate]; omega) | (simp only [length_cons, length_nil, Nat.zero_add, Nat.reduceAdd])) only [go_sem, ↓reduceIte, Nat.reduceAdd, Int.reduceNeg, Int.reduceAdd, Int.reduceSub, Int.reduceMul, Int.reduceLT, Int.reduceLE, Int.reduceEq, Int.reduceToNat, Nat.reduceBEq, nat1, hix])
        all_goals first
          | omega
          | exact ret_b (by rw [allB_no (p := kidF (m + 1) E ps) hlt2 hk])
          | skip
      · repeat' (first | (with_reducible first | refine jn_in ?_ | refine cl_ok (by assumption) rfl ?_ | refine cl_okP (by assumption) rfl ?_ | refine br_if (fun hbr => ?_) fun hbr => ?_ | refine br_ifn (fun hbr => ?_) fun hbr => ?_ | refine br_nb (fun hbr => ?_) fun hbr => ?_ | refine br_b (fun hbr => ?_) fun hbr => ?_) | simp (disch := first | omega | (simp only [length_take, length_drop, length_append, map_cons, map_nil, length_map, length_cons, length_nil, length_set, length_replicate]; omega) | (simp only [length_cons, length_nil, Nat.zero_add, Nat.reduceAdd])) only [go_sem, ↓reduceIte, Nat.reduceAdd, Int.reduceNeg, Int.reduceAdd, Int.reduceSub, Int.reduceMul, Int.reduceLT, Int.reduceLE, Int.reduceEq, Int.reduceToNat, Nat.reduceBEq, nat1, hix])
        all_goals first
          | omega
          | exact ⟨i + 1, rfl, ⟨by omega, allB_step ha2 hk⟩, by omega⟩
          | skip
  · obtain rfl : i = ps.length := by omega
    repeat' (first | (with_reducible first | refine jn_in ?_ | refine cl_ok (by assumption) rfl ?_ | refine cl_okP (by assumption) rfl ?_ | refine br_if (fun hbr => ?_) fun hbr => ?_ | refine br_ifn (fun hbr => ?_) fun hbr => ?_ | refine br_nb (fun hbr => ?_) fun hbr => ?_ | refine br_b (fun hbr => ?_) fun hbr => ?_) | simp (disch := first | omega | (simp only [length_take, length_drop, length_append, map_cons, map_nil, length_map, length_cons, length_nil, length_set, length_replicate]; omega) | (simp only [length_cons, length_nil, Nat.zero_add, Nat.reduceAdd])) only [go_sem, ↓reduceIte, Nat.reduceAdd, Int.reduceNeg, Int.reduceAdd, Int.reduceSub, Int.reduceMul, Int.reduceLT, Int.reduceLE, Int.reduceEq, Int.reduceToNat, Nat.reduceBEq, nat1, true_and])
    all_goals first | omega | exact ret_b ha2 | skip
theorem sFit_m (E : List Env) (P : List Pro) (hE : E.length ≤ 1048576) : ∀ n, FFit 28 E P n
  | 0 => sFit_step E P hE 0 fun m e => by omega
  | n + 1 => sFit_step E P hE (n + 1) fun m e => by obtain rfl : n = m := by omega
                                                    exact sFit_m E P hE n
def vfB (E : List Env) (v : Vec) : Bool := isVc v && fnN 3 E v
theorem isVc_vcB {v : Vec} (h : isVc v = true) : vcB 3 v = true := by unfold isVc at h; exact (Bool.and_eq_true _ _ ▸ h).1
theorem iVal_m (E : List Env) (P : List Pro) (hE : E.length ≤ 1048576) (v : Vec) (hw : wtV v ≤ 1048576) : Meets Try.prog 36 [(true, encS2 E P), (true, encV v)] [(false, [.sc (.bool (vfB E v))], true)] := by
  have h1 := iIsVec_m v hw
  have h2 := fun h => iFit_m E P hE 3 v hw (isVc_vcB h)
  unfold vfB
  generalize fnN 3 E v = y at *
  generalize isVc v = b at *
  obtain ⟨k, its, ps, ns, cl, lv, c, e⟩ := v
  simp only [encS2, encEnvs, encPros, encV, encV_mk, encSs] at h1 h2 ⊢
  refine meets_upf Try.func36 u_impl_valueFits_g rfl ?_; simp only [u_impl_valueFits_u]
  cases b
  · repeat' (first | (with_reducible first | refine jn_in ?_ | refine cl_ok (by assumption) rfl ?_ | refine cl_okP (by assumption) rfl ?_ | refine br_if (fun hbr => ?_) fun hbr => ?_ | refine br_ifn (fun hbr => ?_) fun hbr => ?_ | refine br_nb (fun hbr => ?_) fun hbr => ?_ | refine br_b (fun hbr => ?_) fun hbr => ?_) | simp (disch := first | omega | (simp only [length_take, length_drop, length_append, map_cons, map_nil, length_map, length_cons, length_nil, length_set, length_replicate]; omega) | (simp only [length_cons, length_nil, Nat.zero_add, Nat.reduceAdd])) only [go_sem, ↓reduceIte, Nat.reduceAdd, Int.reduceNeg, Int.reduceAdd, Int.reduceSub, Int.reduceMul, Int.reduceLT, Int.reduceLE, Int.reduceEq, Int.reduceToNat, Nat.reduceBEq, nat1, true_and])
    all_goals exact ret_b rfl
  · have h3 := h2 rfl
    repeat' (first | (with_reducible first | refine jn_in ?_ | refine cl_ok (by assumption) rfl ?_ | refine cl_okP (by assumption) rfl ?_ | refine br_if (fun hbr => ?_) fun hbr => ?_ | refine br_ifn (fun hbr => ?_) fun hbr => ?_ | refine br_nb (fun hbr => ?_) fun hbr => ?_ | refine br_b (fun hbr => ?_) fun hbr => ?_) | simp (disch := first | omega | (simp only [length_take, length_drop, length_append, map_cons, map_nil, length_map, length_cons, length_nil, length_set, length_replicate]; omega) | (simp only [length_cons, length_nil, Nat.zero_add, Nat.reduceAdd])) only [go_sem, ↓reduceIte, Nat.reduceAdd, Int.reduceNeg, Int.reduceAdd, Int.reduceSub, Int.reduceMul, Int.reduceLT, Int.reduceLE, Int.reduceEq, Int.reduceToNat, Nat.reduceBEq, nat1, true_and])
    all_goals exact ret_b (by simp)
theorem sVal_m (E : List Env) (P : List Pro) (hE : E.length ≤ 1048576) (v : Vec) (hw : wtV v ≤ 1048576) : Meets Try.prog 14 [(true, encS2 E P), (true, encV v)] [(false, [.sc (.bool (vfB E v))], true)] := by
  have h1 := sIsVec_m v hw
  have h2 := fun h => sFit_m E P hE 3 v hw (isVc_vcB h)
  unfold vfB
  generalize fnN 3 E v = y at *
  generalize isVc v = b at *
  obtain ⟨k, its, ps, ns, cl, lv, c, e⟩ := v
  simp only [encS2, encEnvs, encPros, encV, encV_mk, encSs] at h1 h2 ⊢
  refine meets_upf Try.func14 u_spec_l26Value_g rfl ?_; simp only [u_spec_l26Value_u]
  cases b
  · repeat' (first | (with_reducible first | refine jn_in ?_ | refine cl_ok (by assumption) rfl ?_ | refine cl_okP (by assumption) rfl ?_ | refine br_if (fun hbr => ?_) fun hbr => ?_ | refine br_ifn (fun hbr => ?_) fun hbr => ?_ | refine br_nb (fun hbr => ?_) fun hbr => ?_ | refine br_b (fun hbr => ?_) fun hbr => ?_) | simp (disch := first | omega | (simp only [length_take, length_drop, length_append, map_cons, map_nil, length_map, length_cons, length_nil, length_set, length_replicate]; omega) | (simp only [length_cons, length_nil, Nat.zero_add, Nat.reduceAdd])) only [go_sem, ↓reduceIte, Nat.reduceAdd, Int.reduceNeg, Int.reduceAdd, Int.reduceSub, Int.reduceMul, Int.reduceLT, Int.reduceLE, Int.reduceEq, Int.reduceToNat, Nat.reduceBEq, nat1, true_and])
    all_goals exact ret_b rfl
  · have h3 := h2 rfl
    repeat' (first | (with_reducible first | refine jn_in ?_ | refine cl_ok (by assumption) rfl ?_ | refine cl_okP (by assumption) rfl ?_ | refine br_if (fun hbr => ?_) fun hbr => ?_ | refine br_ifn (fun hbr => ?_) fun hbr => ?_ | refine br_nb (fun hbr => ?_) fun hbr => ?_ | refine br_b (fun hbr => ?_) fun hbr => ?_) | simp (disch := first | omega | (simp only [length_take, length_drop, length_append, map_cons, map_nil, length_map, length_cons, length_nil, length_set, length_replicate]; omega) | (simp only [length_cons, length_nil, Nat.zero_add, Nat.reduceAdd])) only [go_sem, ↓reduceIte, Nat.reduceAdd, Int.reduceNeg, Int.reduceAdd, Int.reduceSub, Int.reduceMul, Int.reduceLT, Int.reduceLE, Int.reduceEq, Int.reduceToNat, Nat.reduceBEq, nat1, true_and])
    all_goals exact ret_b (by simp)
def zB : Vec → Bool
  | .mk k its ps ns cl lv c e => decide (k = 0 ∧ c = 0 ∧ e = 0 ∧ ns.length = 0 ∧ cl.length = 0 ∧ lv.length = 0 ∧ its.length = 0 ∧ ps.length = 0)
def z0V : List DV := [.sc (.int .i64 0), .sl 75 3 [], .sl 42 8 [], .sl 9 1 [], .sl 9 1 [], .sl 9 1 [], .sc (.int .i64 0), .sc (.int .i64 0)]
theorem same0_m (t t2 : Nat) (l : List ByteArray) (hl : l.length ≤ 1048576) : Meets Try.prog 66 [(false, [.sl t 1 (l.map encS)]), (false, [.sl t2 1 []])] [(false, [.sc (.bool (decide (l.length = 0)))], true)] := by
  refine meets_upf Try.func66 u_impl_sameTexts_g rfl ?_; simp only [u_impl_sameTexts_u]
  simp (disch := first | omega | (simp only [length_take, length_drop, length_append, map_cons, map_nil, length_map, length_cons, length_nil, length_set, length_replicate]; omega) | (simp only [length_cons, length_nil, Nat.zero_add, Nat.reduceAdd])) only [go_sem, ↓reduceIte, Nat.reduceAdd, Int.reduceNeg, Int.reduceAdd, Int.reduceSub, Int.reduceMul, Int.reduceLT, Int.reduceLE, Int.reduceEq, Int.reduceToNat, Nat.reduceBEq, nat1, true_and]
  by_cases h : l.length = 0
  · rw [decide_eq_true h]
    repeat' (first | (with_reducible first | refine jn_in ?_ | refine cl_ok (by assumption) rfl ?_ | refine cl_okP (by assumption) rfl ?_ | refine br_if (fun hbr => ?_) fun hbr => ?_ | refine br_ifn (fun hbr => ?_) fun hbr => ?_ | refine br_nb (fun hbr => ?_) fun hbr => ?_ | refine br_b (fun hbr => ?_) fun hbr => ?_) | simp (disch := first | omega | (simp only [length_take, length_drop, length_append, map_cons, map_nil, length_map, length_cons, length_nil, length_set, length_replicate]; omega) | (simp only [length_cons, length_nil, Nat.zero_add, Nat.reduceAdd])) only [go_sem, ↓reduceIte, Nat.reduceAdd, Int.reduceNeg, Int.reduceAdd, Int.reduceSub, Int.reduceMul, Int.reduceLT, Int.reduceLE, Int.reduceEq, Int.reduceToNat, Nat.reduceBEq, nat1, true_and])
    all_goals first | omega | skip
    refine lp_n 0 (fun _ => [.sc (.int .i64 0)]) rfl fun i hi => ?_
    simp only [u_impl_sameTexts_l0]
    repeat' (first | (with_reducible first | refine jn_in ?_ | refine cl_ok (by assumption) rfl ?_ | refine cl_okP (by assumption) rfl ?_ | refine br_if (fun hbr => ?_) fun hbr => ?_ | refine br_ifn (fun hbr => ?_) fun hbr => ?_ | refine br_nb (fun hbr => ?_) fun hbr => ?_ | refine br_b (fun hbr => ?_) fun hbr => ?_) | simp (disch := first | omega | (simp only [length_take, length_drop, length_append, map_cons, map_nil, length_map, length_cons, length_nil, length_set, length_replicate]; omega) | (simp only [length_cons, length_nil, Nat.zero_add, Nat.reduceAdd])) only [go_sem, ↓reduceIte, Nat.reduceAdd, Int.reduceNeg, Int.reduceAdd, Int.reduceSub, Int.reduceMul, Int.reduceLT, Int.reduceLE, Int.reduceEq, Int.reduceToNat, Nat.reduceBEq, nat1, true_and])
    all_goals first | omega | exact ret_b rfl
  · rw [decide_eq_false h]
    repeat' (first | (with_reducible first | refine jn_in ?_ | refine cl_ok (by assumption) rfl ?_ | refine cl_okP (by assumption) rfl ?_ | refine br_if (fun hbr => ?_) fun hbr => ?_ | refine br_ifn (fun hbr => ?_) fun hbr => ?_ | refine br_nb (fun hbr => ?_) fun hbr => ?_ | refine br_b (fun hbr => ?_) fun hbr => ?_) | simp (disch := first | omega | (simp only [length_take, length_drop, length_append, map_cons, map_nil, length_map, length_cons, length_nil, length_set, length_replicate]; omega) | (simp only [length_cons, length_nil, Nat.zero_add, Nat.reduceAdd])) only [go_sem, ↓reduceIte, Nat.reduceAdd, Int.reduceNeg, Int.reduceAdd, Int.reduceSub, Int.reduceMul, Int.reduceLT, Int.reduceLE, Int.reduceEq, Int.reduceToNat, Nat.reduceBEq, nat1, true_and])
    all_goals first | with_reducible exact ret_b rfl | omega
theorem sstr0_m (t t2 : Nat) (l : List ByteArray) (hl : l.length ≤ 1048576) : Meets Try.prog 26 [(false, [.sl t 1 (l.map encS)]), (false, [.sl t2 1 []])] [(false, [.sc (.bool (decide (l.length = 0)))], true)] := by
  refine meets_upf Try.func26 u_spec_l4Strings_g rfl ?_; simp only [u_spec_l4Strings_u]
  simp (disch := first | omega | (simp only [length_take, length_drop, length_append, map_cons, map_nil, length_map, length_cons, length_nil, length_set, length_replicate]; omega) | (simp only [length_cons, length_nil, Nat.zero_add, Nat.reduceAdd])) only [go_sem, ↓reduceIte, Nat.reduceAdd, Int.reduceNeg, Int.reduceAdd, Int.reduceSub, Int.reduceMul, Int.reduceLT, Int.reduceLE, Int.reduceEq, Int.reduceToNat, Nat.reduceBEq, nat1, true_and]
  by_cases h : l.length = 0
  · rw [decide_eq_true h]
    repeat' (first | (with_reducible first | refine jn_in ?_ | refine cl_ok (by assumption) rfl ?_ | refine cl_okP (by assumption) rfl ?_ | refine br_if (fun hbr => ?_) fun hbr => ?_ | refine br_ifn (fun hbr => ?_) fun hbr => ?_ | refine br_nb (fun hbr => ?_) fun hbr => ?_ | refine br_b (fun hbr => ?_) fun hbr => ?_) | simp (disch := first | omega | (simp only [length_take, length_drop, length_append, map_cons, map_nil, length_map, length_cons, length_nil, length_set, length_replicate]; omega) | (simp only [length_cons, length_nil, Nat.zero_add, Nat.reduceAdd])) only [go_sem, ↓reduceIte, Nat.reduceAdd, Int.reduceNeg, Int.reduceAdd, Int.reduceSub, Int.reduceMul, Int.reduceLT, Int.reduceLE, Int.reduceEq, Int.reduceToNat, Nat.reduceBEq, nat1, true_and])
    all_goals first | omega | skip
    refine lp_n 0 (fun _ => [.sc (.int .i64 0)]) rfl fun i hi => ?_
    simp only [u_spec_l4Strings_l0]
    repeat' (first | (with_reducible first | refine jn_in ?_ | refine cl_ok (by assumption) rfl ?_ | refine cl_okP (by assumption) rfl ?_ | refine br_if (fun hbr => ?_) fun hbr => ?_ | refine br_ifn (fun hbr => ?_) fun hbr => ?_ | refine br_nb (fun hbr => ?_) fun hbr => ?_ | refine br_b (fun hbr => ?_) fun hbr => ?_) | simp (disch := first | omega | (simp only [length_take, length_drop, length_append, map_cons, map_nil, length_map, length_cons, length_nil, length_set, length_replicate]; omega) | (simp only [length_cons, length_nil, Nat.zero_add, Nat.reduceAdd])) only [go_sem, ↓reduceIte, Nat.reduceAdd, Int.reduceNeg, Int.reduceAdd, Int.reduceSub, Int.reduceMul, Int.reduceLT, Int.reduceLE, Int.reduceEq, Int.reduceToNat, Nat.reduceBEq, nat1, true_and])
    all_goals first | omega | exact ret_b rfl
  · rw [decide_eq_false h]
    repeat' (first | (with_reducible first | refine jn_in ?_ | refine cl_ok (by assumption) rfl ?_ | refine cl_okP (by assumption) rfl ?_ | refine br_if (fun hbr => ?_) fun hbr => ?_ | refine br_ifn (fun hbr => ?_) fun hbr => ?_ | refine br_nb (fun hbr => ?_) fun hbr => ?_ | refine br_b (fun hbr => ?_) fun hbr => ?_) | simp (disch := first | omega | (simp only [length_take, length_drop, length_append, map_cons, map_nil, length_map, length_cons, length_nil, length_set, length_replicate]; omega) | (simp only [length_cons, length_nil, Nat.zero_add, Nat.reduceAdd])) only [go_sem, ↓reduceIte, Nat.reduceAdd, Int.reduceNeg, Int.reduceAdd, Int.reduceSub, Int.reduceMul, Int.reduceLT, Int.reduceLE, Int.reduceEq, Int.reduceToNat, Nat.reduceBEq, nat1, true_and])
    all_goals first | with_reducible exact ret_b rfl | omega
theorem zB_mk (k : Int) (its : List It) (ps : List Vec) (ns cl lv : List ByteArray) (c e : Int) : zB (.mk k its ps ns cl lv c e) = decide (k = 0 ∧ c = 0 ∧ e = 0 ∧ ns.length = 0 ∧ cl.length = 0 ∧ lv.length = 0 ∧ its.length = 0 ∧ ps.length = 0) := rfl
theorem equal0_m (v : Vec) (hw : wtV v ≤ 1048576) : Meets Try.prog 50 [(true, encV v), (true, z0V)] [(false, [.sc (.bool (zB v))], true)] := by
  obtain ⟨k, its, ps, ns, cl, lv, c, e⟩ := v
  obtain ⟨b1, b2, b3, b4, b5, b6⟩ := bdV hw
  have h1 := same0_m 9 9 ns b3
  have h2 := same0_m 9 9 cl b4
  have h3 := same0_m 9 9 lv b5
  rw [zB_mk]
  simp only [z0V, encV, encV_mk, encSs] at ⊢
  refine meets_upf Try.func50 u_impl_equal_g rfl ?_; simp only [u_impl_equal_u]
  by_cases hz : (k = 0 ∧ c = 0 ∧ e = 0 ∧ ns.length = 0 ∧ cl.length = 0 ∧ lv.length = 0 ∧ its.length = 0 ∧ ps.length = 0)
  · rw [decide_eq_true hz]
    obtain ⟨z1, z2, z3, z4, z5, z6, z7, z8⟩ := hz
    rw [decide_eq_true z4] at h1
    rw [decide_eq_true z5] at h2
    rw [decide_eq_true z6] at h3
    repeat' (first | (with_reducible first | refine jn_in ?_ | refine cl_ok (by assumption) rfl ?_ | refine cl_okP (by assumption) rfl ?_ | refine br_if (fun hbr => ?_) fun hbr => ?_ | refine br_ifn (fun hbr => ?_) fun hbr => ?_ | refine br_nb (fun hbr => ?_) fun hbr => ?_ | refine br_b (fun hbr => ?_) fun hbr => ?_) | simp (disch := first | omega | (simp only [length_take, length_drop, length_append, map_cons, map_nil, length_map, length_cons, length_nil, length_set, length_replicate]; omega) | (simp only [length_cons, length_nil, Nat.zero_add, Nat.reduceAdd])) only [go_sem, ↓reduceIte, Nat.reduceAdd, Int.reduceNeg, Int.reduceAdd, Int.reduceSub, Int.reduceMul, Int.reduceLT, Int.reduceLE, Int.reduceEq, Int.reduceToNat, Nat.reduceBEq, nat1, true_and])
    all_goals first | omega | skip
    refine lp_n 0 (fun _ => [.sc (.int .i64 0)]) rfl fun i hi => ?_
    simp only [u_impl_equal_l1]
    repeat' (first | (with_reducible first | refine jn_in ?_ | refine cl_ok (by assumption) rfl ?_ | refine cl_okP (by assumption) rfl ?_ | refine br_if (fun hbr => ?_) fun hbr => ?_ | refine br_ifn (fun hbr => ?_) fun hbr => ?_ | refine br_nb (fun hbr => ?_) fun hbr => ?_ | refine br_b (fun hbr => ?_) fun hbr => ?_) | simp (disch := first | omega | (simp only [length_take, length_drop, length_append, map_cons, map_nil, length_map, length_cons, length_nil, length_set, length_replicate]; omega) | (simp only [length_cons, length_nil, Nat.zero_add, Nat.reduceAdd])) only [go_sem, ↓reduceIte, Nat.reduceAdd, Int.reduceNeg, Int.reduceAdd, Int.reduceSub, Int.reduceMul, Int.reduceLT, Int.reduceLE, Int.reduceEq, Int.reduceToNat, Nat.reduceBEq, nat1, true_and])
    all_goals first | omega | skip
    refine lp_n 0 (fun _ => [.sc (.int .i64 0)]) rfl fun i hi => ?_
    simp only [u_impl_equal_l0]
    repeat' (first | (with_reducible first | refine jn_in ?_ | refine cl_ok (by assumption) rfl ?_ | refine cl_okP (by assumption) rfl ?_ | refine br_if (fun hbr => ?_) fun hbr => ?_ | refine br_ifn (fun hbr => ?_) fun hbr => ?_ | refine br_nb (fun hbr => ?_) fun hbr => ?_ | refine br_b (fun hbr => ?_) fun hbr => ?_) | simp (disch := first | omega | (simp only [length_take, length_drop, length_append, map_cons, map_nil, length_map, length_cons, length_nil, length_set, length_replicate]; omega) | (simp only [length_cons, length_nil, Nat.zero_add, Nat.reduceAdd])) only [go_sem, ↓reduceIte, Nat.reduceAdd, Int.reduceNeg, Int.reduceAdd, Int.reduceSub, Int.reduceMul, Int.reduceLT, Int.reduceLE, Int.reduceEq, Int.reduceToNat, Nat.reduceBEq, nat1, true_and])
    all_goals first | omega | exact ret_b rfl
  · rw [decide_eq_false hz]
    repeat' (first | (with_reducible first | refine jn_in ?_ | refine cl_ok (by assumption) rfl ?_ | refine cl_okP (by assumption) rfl ?_ | refine br_if (fun hbr => ?_) fun hbr => ?_ | refine br_ifn (fun hbr => ?_) fun hbr => ?_ | refine br_nb (fun hbr => ?_) fun hbr => ?_ | refine br_b (fun hbr => ?_) fun hbr => ?_) | simp (disch := first | omega | (simp only [length_take, length_drop, length_append, map_cons, map_nil, length_map, length_cons, length_nil, length_set, length_replicate]; omega) | (simp only [length_cons, length_nil, Nat.zero_add, Nat.reduceAdd])) only [go_sem, ↓reduceIte, Nat.reduceAdd, Int.reduceNeg, Int.reduceAdd, Int.reduceSub, Int.reduceMul, Int.reduceLT, Int.reduceLE, Int.reduceEq, Int.reduceToNat, Nat.reduceBEq, nat1, true_and])
    all_goals first | with_reducible exact ret_b rfl | omega
theorem l4same0_m (v : Vec) (hw : wtV v ≤ 1048576) : Meets Try.prog 13 [(true, encV v), (true, z0V)] [(false, [.sc (.bool (zB v))], true)] := by
  obtain ⟨k, its, ps, ns, cl, lv, c, e⟩ := v
  obtain ⟨b1, b2, b3, b4, b5, b6⟩ := bdV hw
  have h1 := sstr0_m 9 9 ns b3
  have h2 := sstr0_m 9 9 cl b4
  have h3 := sstr0_m 9 9 lv b5
  rw [zB_mk]
  simp only [z0V, encV, encV_mk, encSs] at ⊢
  refine meets_upf Try.func13 u_spec_l4Same_g rfl ?_; simp only [u_spec_l4Same_u]
  by_cases hz : (k = 0 ∧ c = 0 ∧ e = 0 ∧ ns.length = 0 ∧ cl.length = 0 ∧ lv.length = 0 ∧ its.length = 0 ∧ ps.length = 0)
  · rw [decide_eq_true hz]
    obtain ⟨z1, z2, z3, z4, z5, z6, z7, z8⟩ := hz
    rw [decide_eq_true z4] at h1
    rw [decide_eq_true z5] at h2
    rw [decide_eq_true z6] at h3
    repeat' (first | (with_reducible first | refine jn_in ?_ | refine cl_ok (by assumption) rfl ?_ | refine cl_okP (by assumption) rfl ?_ | refine br_if (fun hbr => ?_) fun hbr => ?_ | refine br_ifn (fun hbr => ?_) fun hbr => ?_ | refine br_nb (fun hbr => ?_) fun hbr => ?_ | refine br_b (fun hbr => ?_) fun hbr => ?_) | simp (disch := first | omega | (simp only [length_take, length_drop, length_append, map_cons, map_nil, length_map, length_cons, length_nil, length_set, length_replicate]; omega) | (simp only [length_cons, length_nil, Nat.zero_add, Nat.reduceAdd])) only [go_sem, ↓reduceIte, Nat.reduceAdd, Int.reduceNeg, Int.reduceAdd, Int.reduceSub, Int.reduceMul, Int.reduceLT, Int.reduceLE, Int.reduceEq, Int.reduceToNat, Nat.reduceBEq, nat1, true_and])
    all_goals first | omega | skip
    refine lp_n 0 (fun _ => [.sc (.int .i64 0)]) rfl fun i hi => ?_
    simp only [u_spec_l4Same_l1]
    repeat' (first | (with_reducible first | refine jn_in ?_ | refine cl_ok (by assumption) rfl ?_ | refine cl_okP (by assumption) rfl ?_ | refine br_if (fun hbr => ?_) fun hbr => ?_ | refine br_ifn (fun hbr => ?_) fun hbr => ?_ | refine br_nb (fun hbr => ?_) fun hbr => ?_ | refine br_b (fun hbr => ?_) fun hbr => ?_) | simp (disch := first | omega | (simp only [length_take, length_drop, length_append, map_cons, map_nil, length_map, length_cons, length_nil, length_set, length_replicate]; omega) | (simp only [length_cons, length_nil, Nat.zero_add, Nat.reduceAdd])) only [go_sem, ↓reduceIte, Nat.reduceAdd, Int.reduceNeg, Int.reduceAdd, Int.reduceSub, Int.reduceMul, Int.reduceLT, Int.reduceLE, Int.reduceEq, Int.reduceToNat, Nat.reduceBEq, nat1, true_and])
    all_goals first | omega | skip
    refine lp_n 0 (fun _ => [.sc (.int .i64 0)]) rfl fun i hi => ?_
    simp only [u_spec_l4Same_l0]
    repeat' (first | (with_reducible first | refine jn_in ?_ | refine cl_ok (by assumption) rfl ?_ | refine cl_okP (by assumption) rfl ?_ | refine br_if (fun hbr => ?_) fun hbr => ?_ | refine br_ifn (fun hbr => ?_) fun hbr => ?_ | refine br_nb (fun hbr => ?_) fun hbr => ?_ | refine br_b (fun hbr => ?_) fun hbr => ?_) | simp (disch := first | omega | (simp only [length_take, length_drop, length_append, map_cons, map_nil, length_map, length_cons, length_nil, length_set, length_replicate]; omega) | (simp only [length_cons, length_nil, Nat.zero_add, Nat.reduceAdd])) only [go_sem, ↓reduceIte, Nat.reduceAdd, Int.reduceNeg, Int.reduceAdd, Int.reduceSub, Int.reduceMul, Int.reduceLT, Int.reduceLE, Int.reduceEq, Int.reduceToNat, Nat.reduceBEq, nat1, true_and])
    all_goals first | omega | exact ret_b rfl
  · rw [decide_eq_false hz]
    repeat' (first | (with_reducible first | refine jn_in ?_ | refine cl_ok (by assumption) rfl ?_ | refine cl_okP (by assumption) rfl ?_ | refine br_if (fun hbr => ?_) fun hbr => ?_ | refine br_ifn (fun hbr => ?_) fun hbr => ?_ | refine br_nb (fun hbr => ?_) fun hbr => ?_ | refine br_b (fun hbr => ?_) fun hbr => ?_) | simp (disch := first | omega | (simp only [length_take, length_drop, length_append, map_cons, map_nil, length_map, length_cons, length_nil, length_set, length_replicate]; omega) | (simp only [length_cons, length_nil, Nat.zero_add, Nat.reduceAdd])) only [go_sem, ↓reduceIte, Nat.reduceAdd, Int.reduceNeg, Int.reduceAdd, Int.reduceSub, Int.reduceMul, Int.reduceLT, Int.reduceLE, Int.reduceEq, Int.reduceToNat, Nat.reduceBEq, nat1, true_and])
    all_goals first | with_reducible exact ret_b rfl | omega
theorem iZero_m (v : Vec) (hw : wtV v ≤ 1048576) : Meets Try.prog 35 [(true, encV v)] [(false, [.sc (.bool (zB v))], true)] := by
  have h1 := equal0_m v hw
  generalize zB v = b at *
  obtain ⟨k, its, ps, ns, cl, lv, c, e⟩ := v
  simp only [z0V, encV, encV_mk, encSs] at h1 ⊢
  refine meets_upf Try.func35 u_impl_isZeroVector_g rfl ?_; simp only [u_impl_isZeroVector_u]
  repeat' (first | (with_reducible first | refine jn_in ?_ | refine cl_ok (by assumption) rfl ?_ | refine cl_okP (by assumption) rfl ?_ | refine br_if (fun hbr => ?_) fun hbr => ?_ | refine br_ifn (fun hbr => ?_) fun hbr => ?_ | refine br_nb (fun hbr => ?_) fun hbr => ?_ | refine br_b (fun hbr => ?_) fun hbr => ?_) | simp (disch := first | omega | (simp only [length_take, length_drop, length_append, map_cons, map_nil, length_map, length_cons, length_nil, length_set, length_replicate]; omega) | (simp only [length_cons, length_nil, Nat.zero_add, Nat.reduceAdd])) only [go_sem, ↓reduceIte, Nat.reduceAdd, Int.reduceNeg, Int.reduceAdd, Int.reduceSub, Int.reduceMul, Int.reduceLT, Int.reduceLE, Int.reduceEq, Int.reduceToNat, Nat.reduceBEq, nat1, true_and])
  all_goals exact ret_b rfl
theorem zB_val {v : Vec} (E : List Env) (h : zB v = true) : vfB E v = true := by
  obtain ⟨k, its, ps, ns, cl, lv, c, e⟩ := v
  rw [zB_mk, decide_eq_true_eq] at h
  obtain ⟨rfl, rfl, rfl, h1, h2, h3, h4, h5⟩ := h
  obtain rfl := List.length_eq_zero_iff.1 h1
  obtain rfl := List.length_eq_zero_iff.1 h2
  obtain rfl := List.length_eq_zero_iff.1 h3
  obtain rfl := List.length_eq_zero_iff.1 h4
  obtain rfl := List.length_eq_zero_iff.1 h5
  rfl
end Go.Proofs.Ytkhibgknpcgneaa

namespace Go.Proofs.Ytkhibgknpcgneaa
open List (length_take length_drop length_append map_cons map_nil length_map length_cons length_nil length_set length_replicate)
open Go.RowKit
set_option maxRecDepth 100000
def itP (P : List Pro) (zs : List Int) (ls : List ByteArray) (j : Nat) : Bool := pU P (zs.getD j default) && decide (((ls.getD j default).size : Int) ≤ 60)
def sA (E : List Env) (k : Int) (v : Vec) : Bool := decide (0 ≤ k ∧ k ≤ 3) && (vfB E v && (decide (k = 1) || zB v))
def sB (P : List Pro) (k p : Int) : Bool := (!decide (k = 2) || pU P p) && (decide (k = 2) || decide (p = 0))
def sC (k : Int) (a b : Nat) : Bool := (decide (k = 3) || (decide (a = 0) && decide (b = 0))) && decide (a = b)
def slB (E : List Env) (P : List Pro) : Slo → Bool
  | ⟨k, v, p, zs, ls⟩ => sA E k v && (sB P k p && (sC k zs.length ls.length && allB (itP P zs ls) zs.length))
theorem slB_mk (E : List Env) (P : List Pro) (k : Int) (v : Vec) (p : Int) (zs : List Int) (ls : List ByteArray) : slB E P ⟨k, v, p, zs, ls⟩ = (sA E k v && (sB P k p && (sC k zs.length ls.length && allB (itP P zs ls) zs.length))) := rfl
set_option maxHeartbeats 4000000 in
theorem iSlot_m (E : List Env) (P : List Pro) (hE : E.length ≤ 1048576) (hP : P.length ≤ 1048576) (x : Slo) (hw : wtSlo x ≤ 1048576) : Meets Try.prog 34 [(true, encS2 E P), (true, encSlo x)] [(false, [.sc (.bool (slB E P x))], true)] := by
  obtain ⟨k, v, p, zs, ls⟩ := x
  have hwt : wtSlo ⟨k, v, p, zs, ls⟩ = wtV v + zs.length + wtSs ls := rfl
  rw [hwt] at hw; clear hwt
  have hl : ls.length ≤ 1048576 := wtSs_len (n := 1048576) (by omega)
  have h1 := iVal_m E P hE v (by omega)
  have h2 := iZero_m v (by omega)
  have h3 := promiseUsed_m E P p hP
  have h4 := fun i => promiseUsed_m E P (zs.getD i default) hP
  rw [slB_mk]
  unfold sA
  generalize vfB E v = b1 at *
  generalize zB v = b2 at *
  obtain ⟨v0, v1, v2, v3, v4, v5, v6, v7⟩ := v
  simp only [encSlo, encS2, encEnvs, encPros, encV, encV_mk, encSs, encZs, List.cons_append, List.nil_append] at h1 h2 h3 h4 ⊢
  refine meets_upf Try.func34 u_impl_slotRight_g rfl ?_; simp only [u_impl_slotRight_u]
  simp (disch := first | omega | (simp only [length_take, length_drop, length_append, map_cons, map_nil, length_map, length_cons, length_nil, length_set, length_replicate]; omega) | (simp only [length_cons, length_nil, Nat.zero_add, Nat.reduceAdd])) only [go_sem, ↓reduceIte, Nat.reduceAdd, Int.reduceNeg, Int.reduceAdd, Int.reduceSub, Int.reduceMul, Int.reduceLT, Int.reduceLE, Int.reduceEq, Int.reduceToNat, Nat.reduceBEq, nat1, true_and]
  refine jn_eq [.sc (.bool (!(decide (0 ≤ k ∧ k ≤ 3) && (b1 && (decide (k = 1) || b2)))))] ?_ ?_
  · repeat' (first | (with_reducible first | refine jn_in ?_ | refine cl_ok (by assumption) rfl ?_ | refine cl_okP (by assumption) rfl ?_ | refine br_if (fun hbr => ?_) fun hbr => ?_ | refine br_ifn (fun hbr => ?_) fun hbr => ?_ | refine br_nb (fun hbr => ?_) fun hbr => ?_ | refine br_b (fun hbr => ?_) fun hbr => ?_) | simp (disch := first | omega | (simp only [length_take, length_drop, length_append, map_cons, map_nil, length_map, length_cons, length_nil, length_set, length_replicate]; omega) | (simp only [length_cons, length_nil, Nat.zero_add, Nat.reduceAdd])) only [go_sem, ↓reduceIte, Nat.reduceAdd, Int.reduceNeg, Int.reduceAdd, Int.reduceSub, Int.reduceMul, Int.reduceLT, Int.reduceLE, Int.reduceEq, Int.reduceToNat, Nat.reduceBEq, nat1, true_and])
    all_goals first
      | (refine bb ?_; simp [*]; done)
      | (refine bb ?_; simp_all; done)
      | (refine bb ?_; grind)
      | skip
  simp only [u_impl_slotRight_j3]
  cases hA : (decide (0 ≤ k ∧ k ≤ 3) && (b1 && (decide (k = 1) || b2)))
  · repeat' (first | (with_reducible first | refine jn_in ?_ | refine cl_ok (by assumption) rfl ?_ | refine cl_okP (by assumption) rfl ?_ | refine br_if (fun hbr => ?_) fun hbr => ?_ | refine br_ifn (fun hbr => ?_) fun hbr => ?_ | refine br_nb (fun hbr => ?_) fun hbr => ?_ | refine br_b (fun hbr => ?_) fun hbr => ?_) | simp (disch := first | omega | (simp only [length_take, length_drop, length_append, map_cons, map_nil, length_map, length_cons, length_nil, length_set, length_replicate]; omega) | (simp only [length_cons, length_nil, Nat.zero_add, Nat.reduceAdd])) only [go_sem, ↓reduceIte, Nat.reduceAdd, Int.reduceNeg, Int.reduceAdd, Int.reduceSub, Int.reduceMul, Int.reduceLT, Int.reduceLE, Int.reduceEq, Int.reduceToNat, Nat.reduceBEq, nat1, true_and])
    all_goals exact ret_b rfl
  rw [Bool.true_and]
  simp (disch := first | omega | (simp only [length_take, length_drop, length_append, map_cons, map_nil, length_map, length_cons, length_nil, length_set, length_replicate]; omega) | (simp only [length_cons, length_nil, Nat.zero_add, Nat.reduceAdd])) only [go_sem, ↓reduceIte, Nat.reduceAdd, Int.reduceNeg, Int.reduceAdd, Int.reduceSub, Int.reduceMul, Int.reduceLT, Int.reduceLE, Int.reduceEq, Int.reduceToNat, Nat.reduceBEq, nat1, true_and]
  refine jn_eq [.sc (.bool (!sB P k p))] ?_ ?_
  · unfold sB
    repeat' (first | (with_reducible first | refine jn_in ?_ | refine cl_ok (by assumption) rfl ?_ | refine cl_okP (by assumption) rfl ?_ | refine br_if (fun hbr => ?_) fun hbr => ?_ | refine br_ifn (fun hbr => ?_) fun hbr => ?_ | refine br_nb (fun hbr => ?_) fun hbr => ?_ | refine br_b (fun hbr => ?_) fun hbr => ?_) | simp (disch := first | omega | (simp only [length_take, length_drop, length_append, map_cons, map_nil, length_map, length_cons, length_nil, length_set, length_replicate]; omega) | (simp only [length_cons, length_nil, Nat.zero_add, Nat.reduceAdd])) only [go_sem, ↓reduceIte, Nat.reduceAdd, Int.reduceNeg, Int.reduceAdd, Int.reduceSub, Int.reduceMul, Int.reduceLT, Int.reduceLE, Int.reduceEq, Int.reduceToNat, Nat.reduceBEq, nat1, true_and])
    all_goals first
      | (refine bb ?_; simp [*]; done)
      | (refine bb ?_; simp_all; done)
      | (refine bb ?_; grind)
      | skip
  simp only [u_impl_slotRight_j2]
  cases hB : sB P k p
  · repeat' (first | (with_reducible first | refine jn_in ?_ | refine cl_ok (by assumption) rfl ?_ | refine cl_okP (by assumption) rfl ?_ | refine br_if (fun hbr => ?_) fun hbr => ?_ | refine br_ifn (fun hbr => ?_) fun hbr => ?_ | refine br_nb (fun hbr => ?_) fun hbr => ?_ | refine br_b (fun hbr => ?_) fun hbr => ?_) | simp (disch := first | omega | (simp only [length_take, length_drop, length_append, map_cons, map_nil, length_map, length_cons, length_nil, length_set, length_replicate]; omega) | (simp only [length_cons, length_nil, Nat.zero_add, Nat.reduceAdd])) only [go_sem, ↓reduceIte, Nat.reduceAdd, Int.reduceNeg, Int.reduceAdd, Int.reduceSub, Int.reduceMul, Int.reduceLT, Int.reduceLE, Int.reduceEq, Int.reduceToNat, Nat.reduceBEq, nat1, true_and])
    all_goals exact ret_b rfl
  rw [Bool.true_and]
  simp (disch := first | omega | (simp only [length_take, length_drop, length_append, map_cons, map_nil, length_map, length_cons, length_nil, length_set, length_replicate]; omega) | (simp only [length_cons, length_nil, Nat.zero_add, Nat.reduceAdd])) only [go_sem, ↓reduceIte, Nat.reduceAdd, Int.reduceNeg, Int.reduceAdd, Int.reduceSub, Int.reduceMul, Int.reduceLT, Int.reduceLE, Int.reduceEq, Int.reduceToNat, Nat.reduceBEq, nat1, true_and]
  refine jn_eq [.sc (.bool (!sC k zs.length ls.length))] ?_ ?_
  · unfold sC
    repeat' (first | (with_reducible first | refine jn_in ?_ | refine cl_ok (by assumption) rfl ?_ | refine cl_okP (by assumption) rfl ?_ | refine br_if (fun hbr => ?_) fun hbr => ?_ | refine br_ifn (fun hbr => ?_) fun hbr => ?_ | refine br_nb (fun hbr => ?_) fun hbr => ?_ | refine br_b (fun hbr => ?_) fun hbr => ?_) | simp (disch := first | omega | (simp only [length_take, length_drop, length_append, map_cons, map_nil, length_map, length_cons, length_nil, length_set, length_replicate]; omega) | (simp only [length_cons, length_nil, Nat.zero_add, Nat.reduceAdd])) only [go_sem, ↓reduceIte, Nat.reduceAdd, Int.reduceNeg, Int.reduceAdd, Int.reduceSub, Int.reduceMul, Int.reduceLT, Int.reduceLE, Int.reduceEq, Int.reduceToNat, Nat.reduceBEq, nat1, true_and])
    all_goals first
      | (refine bb ?_; simp [*]; done)
      | (refine bb ?_; simp_all; done)
      | (refine bb ?_; grind)
      | skip
  simp only [u_impl_slotRight_j1]
  cases hC : sC k zs.length ls.length
  · repeat' (first | (with_reducible first | refine jn_in ?_ | refine cl_ok (by assumption) rfl ?_ | refine cl_okP (by assumption) rfl ?_ | refine br_if (fun hbr => ?_) fun hbr => ?_ | refine br_ifn (fun hbr => ?_) fun hbr => ?_ | refine br_nb (fun hbr => ?_) fun hbr => ?_ | refine br_b (fun hbr => ?_) fun hbr => ?_) | simp (disch := first | omega | (simp only [length_take, length_drop, length_append, map_cons, map_nil, length_map, length_cons, length_nil, length_set, length_replicate]; omega) | (simp only [length_cons, length_nil, Nat.zero_add, Nat.reduceAdd])) only [go_sem, ↓reduceIte, Nat.reduceAdd, Int.reduceNeg, Int.reduceAdd, Int.reduceSub, Int.reduceMul, Int.reduceLT, Int.reduceLE, Int.reduceEq, Int.reduceToNat, Nat.reduceBEq, nat1, true_and])
    all_goals exact ret_b rfl
  rw [Bool.true_and]
  have hle : zs.length = ls.length := by
    unfold sC at hC
    simp only [Bool.and_eq_true, decide_eq_true_eq] at hC
    exact hC.2
  simp (disch := first | omega | (simp only [length_take, length_drop, length_append, map_cons, map_nil, length_map, length_cons, length_nil, length_set, length_replicate]; omega) | (simp only [length_cons, length_nil, Nat.zero_add, Nat.reduceAdd])) only [go_sem, ↓reduceIte, Nat.reduceAdd, Int.reduceNeg, Int.reduceAdd, Int.reduceSub, Int.reduceMul, Int.reduceLT, Int.reduceLE, Int.reduceEq, Int.reduceToNat, Nat.reduceBEq, nat1, true_and]
  refine lp (fun i : Nat => [.sc (.int .i64 i)]) (fun i => i ≤ zs.length ∧ allB (itP P zs ls) i = true) (fun i => zs.length - i) 0 rfl ⟨Nat.zero_le _, rfl⟩ ?_
  rintro i ⟨hi, ha⟩
  simp only [u_impl_slotRight_l0]
  by_cases hlt : i < zs.length
  · have h4i := h4 i
    repeat' (first | (with_reducible first | refine jn_in ?_ | refine cl_ok (by assumption) rfl ?_ | refine cl_okP (by assumption) rfl ?_ | refine br_if (fun hbr => ?_) fun hbr => ?_ | refine br_ifn (fun hbr => ?_) fun hbr => ?_ | refine br_nb (fun hbr => ?_) fun hbr => ?_ | refine br_b (fun hbr => ?_) fun hbr => ?_) | simp (disch := first | omega | (simp only [length_take, length_drop, length_append, map_cons, map_nil, length_map, length_cons, length_nil, length_set, length_replicate]; omega) | (simp only [length_cons, length_nil, Nat.zero_add, Nat.reduceAdd])) only [go_sem, ↓reduceIte, Nat.reduceAdd, Int.reduceNeg, Int.reduceAdd, Int.reduceSub, Int.reduceMul, Int.reduceLT, Int.reduceLE, Int.reduceEq, Int.reduceToNat, Nat.reduceBEq, nat1, true_and])
    all_goals first
      | omega
      | exact ret_b (by rw [allB_no (p := itP P zs ls) hlt (by (first | (simp [-List.getD_eq_getElem?_getD, itP, *]; done) | (simp_all [-List.getD_eq_getElem?_getD, itP]; done) | (simp [-List.getD_eq_getElem?_getD, itP, *]; omega) | (simp_all [-List.getD_eq_getElem?_getD, itP]; omega) | omega))])
      | exact ⟨i + 1, rfl, ⟨by omega, allB_step ha (by (first | (simp [-List.getD_eq_getElem?_getD, itP, *]; done) | (simp_all [-List.getD_eq_getElem?_getD, itP]; done) | (simp [-List.getD_eq_getElem?_getD, itP, *]; omega) | (simp_all [-List.getD_eq_getElem?_getD, itP]; omega) | omega))⟩, by omega⟩
      | skip
  · obtain rfl : i = zs.length := by omega
    repeat' (first | (with_reducible first | refine jn_in ?_ | refine cl_ok (by assumption) rfl ?_ | refine cl_okP (by assumption) rfl ?_ | refine br_if (fun hbr => ?_) fun hbr => ?_ | refine br_ifn (fun hbr => ?_) fun hbr => ?_ | refine br_nb (fun hbr => ?_) fun hbr => ?_ | refine br_b (fun hbr => ?_) fun hbr => ?_) | simp (disch := first | omega | (simp only [length_take, length_drop, length_append, map_cons, map_nil, length_map, length_cons, length_nil, length_set, length_replicate]; omega) | (simp only [length_cons, length_nil, Nat.zero_add, Nat.reduceAdd])) only [go_sem, ↓reduceIte, Nat.reduceAdd, Int.reduceNeg, Int.reduceAdd, Int.reduceSub, Int.reduceMul, Int.reduceLT, Int.reduceLE, Int.reduceEq, Int.reduceToNat, Nat.reduceBEq, nat1, true_and])
    all_goals first | omega | exact ret_b ha | skip
def tA (k p : Int) (v : Vec) (a b : Nat) : Bool := (decide (k = 1) || zB v) && ((decide (k = 2) || decide (p = 0)) && (decide (k = 3) || decide ((a : Int) + (b : Int) ≤ 0)))
theorem slB_tA {E : List Env} {P : List Pro} {k p : Int} {v : Vec} {zs : List Int} {ls : List ByteArray} (h : tA k p v zs.length ls.length = false) : slB E P ⟨k, v, p, zs, ls⟩ = false := by
  rw [slB_mk]
  cases hs : (sA E k v && (sB P k p && (sC k zs.length ls.length && allB (itP P zs ls) zs.length)))
  · rfl
  · exfalso
    unfold sA sB sC at hs
    unfold tA at h
    simp only [Bool.and_eq_true, Bool.or_eq_true, decide_eq_true_eq] at hs
    obtain ⟨⟨-, -, a⟩, ⟨-, b⟩, ⟨c, -⟩, -⟩ := hs
    have h1 : (decide (k = 1) || zB v) = true := by simpa using a
    have h2 : (decide (k = 2) || decide (p = 0)) = true := by simpa using b
    have h3 : (decide (k = 3) || decide ((zs.length : Int) + (ls.length : Int) ≤ 0)) = true := by
      rw [Bool.or_eq_true, decide_eq_true_eq, decide_eq_true_eq]
      rcases c with c | c
      · exact .inl c
      · exact .inr (by omega)
    rw [h1, h2, h3] at h
    cases h
theorem slB_val {E : List Env} {P : List Pro} {k p : Int} {v : Vec} {zs : List Int} {ls : List ByteArray} (h : tA k p v zs.length ls.length = true) :
    slB E P ⟨k, v, p, zs, ls⟩ = if k = 3 then decide (zs.length = ls.length) && allB (itP P zs ls) zs.length else if k = 0 then true else if k = 1 then vfB E v else if k = 2 then pU P p else false := by
  unfold tA at h
  simp only [Bool.and_eq_true, Bool.or_eq_true, decide_eq_true_eq] at h
  obtain ⟨a, b, c⟩ := h
  have hz : k ≠ 3 → zs.length = 0 ∧ ls.length = 0 := fun h => by rcases c with c | c <;> omega
  have hv : k ≠ 1 → zB v = true ∧ vfB E v = true := fun h => by
    rcases a with a | a
    · exact absurd a h
    · exact ⟨a, zB_val E a⟩
  have hp : k ≠ 2 → p = 0 := fun h => by rcases b with b | b <;> omega
  rw [slB_mk]
  unfold sA sB sC
  by_cases h3 : k = 3
  · rw [if_pos h3, (hv (by omega)).1, (hv (by omega)).2, hp (by omega)]
    subst h3; simp
  rw [if_neg h3, (hz h3).1, (hz h3).2]
  have ha : allB (itP P zs ls) 0 = true := rfl
  rw [ha]
  by_cases h0 : k = 0
  · rw [if_pos h0, (hv (by omega)).1, (hv (by omega)).2, hp (by omega)]
    subst h0; simp
  rw [if_neg h0]
  by_cases h1 : k = 1
  · rw [if_pos h1, hp (by omega)]
    subst h1; simp
  rw [if_neg h1, (hv h1).1, (hv h1).2]
  by_cases h2 : k = 2
  · rw [if_pos h2]
    subst h2; simp
  rw [if_neg h2, decide_eq_false (show ¬ (0 ≤ k ∧ k ≤ 3) by omega)]
  rfl
set_option maxHeartbeats 4000000 in
theorem sSlot_m (E : List Env) (P : List Pro) (hE : E.length ≤ 1048576) (hP : P.length ≤ 1048576) (x : Slo) (hw : wtSlo x ≤ 1048576) : Meets Try.prog 25 [(true, encS2 E P), (true, encSlo x)] [(false, [.sc (.bool (slB E P x))], true)] := by
  obtain ⟨k, v, p, zs, ls⟩ := x
  have hwt : wtSlo ⟨k, v, p, zs, ls⟩ = wtV v + zs.length + wtSs ls := rfl
  rw [hwt] at hw; clear hwt
  have hl : ls.length ≤ 1048576 := wtSs_len (n := 1048576) (by omega)
  have h1 := sVal_m E P hE v (by omega)
  have h2 := l4same0_m v (by omega)
  have h3 := l26Promise_m E P p hP
  have h4 := fun i => l26Promise_m E P (zs.getD i default) hP
  have hf := slB_tA (E := E) (P := P) (k := k) (p := p) (v := v) (zs := zs) (ls := ls)
  have hv := slB_val (E := E) (P := P) (k := k) (p := p) (v := v) (zs := zs) (ls := ls)
  generalize slB E P ⟨k, v, p, zs, ls⟩ = R at *
  have htA : tA k p v zs.length ls.length = ((decide (k = 1) || zB v) && ((decide (k = 2) || decide (p = 0)) && (decide (k = 3) || decide ((zs.length : Int) + (ls.length : Int) ≤ 0)))) := rfl
  generalize tA k p v zs.length ls.length = T at *
  generalize vfB E v = b1 at *
  generalize zB v = b2 at *
  obtain ⟨v0, v1, v2, v3, v4, v5, v6, v7⟩ := v
  simp only [encSlo, encS2, encEnvs, encPros, z0V, encV, encV_mk, encSs, encZs, List.cons_append, List.nil_append] at h1 h2 h3 h4 ⊢
  refine meets_upf Try.func25 u_spec_l26Slot_g rfl ?_; simp only [u_spec_l26Slot_u]
  simp (disch := first | omega | (simp only [length_take, length_drop, length_append, map_cons, map_nil, length_map, length_cons, length_nil, length_set, length_replicate]; omega) | (simp only [length_cons, length_nil, Nat.zero_add, Nat.reduceAdd])) only [go_sem, ↓reduceIte, Nat.reduceAdd, Int.reduceNeg, Int.reduceAdd, Int.reduceSub, Int.reduceMul, Int.reduceLT, Int.reduceLE, Int.reduceEq, Int.reduceToNat, Nat.reduceBEq, nat1, true_and]
  refine jn_eq [.sc (.bool (!T))] ?_ ?_
  · rw [htA]
    repeat' (first | (with_reducible first | refine jn_in ?_ | refine cl_ok (by assumption) rfl ?_ | refine cl_okP (by assumption) rfl ?_ | refine br_if (fun hbr => ?_) fun hbr => ?_ | refine br_ifn (fun hbr => ?_) fun hbr => ?_ | refine br_nb (fun hbr => ?_) fun hbr => ?_ | refine br_b (fun hbr => ?_) fun hbr => ?_) | simp (disch := first | omega | (simp only [length_take, length_drop, length_append, map_cons, map_nil, length_map, length_cons, length_nil, length_set, length_replicate]; omega) | (simp only [length_cons, length_nil, Nat.zero_add, Nat.reduceAdd])) only [go_sem, ↓reduceIte, Nat.reduceAdd, Int.reduceNeg, Int.reduceAdd, Int.reduceSub, Int.reduceMul, Int.reduceLT, Int.reduceLE, Int.reduceEq, Int.reduceToNat, Nat.reduceBEq, nat1, true_and])
    all_goals first
      | (refine bb ?_; simp [*]; done)
      | (refine bb ?_; simp_all; done)
      | (refine bb ?_; grind)
      | skip
  simp only [u_spec_l26Slot_j2]
  cases T
  · rw [hf rfl]
    repeat' (first | (with_reducible first | refine jn_in ?_ | refine cl_ok (by assumption) rfl ?_ | refine cl_okP (by assumption) rfl ?_ | refine br_if (fun hbr => ?_) fun hbr => ?_ | refine br_ifn (fun hbr => ?_) fun hbr => ?_ | refine br_nb (fun hbr => ?_) fun hbr => ?_ | refine br_b (fun hbr => ?_) fun hbr => ?_) | simp (disch := first | omega | (simp only [length_take, length_drop, length_append, map_cons, map_nil, length_map, length_cons, length_nil, length_set, length_replicate]; omega) | (simp only [length_cons, length_nil, Nat.zero_add, Nat.reduceAdd])) only [go_sem, ↓reduceIte, Nat.reduceAdd, Int.reduceNeg, Int.reduceAdd, Int.reduceSub, Int.reduceMul, Int.reduceLT, Int.reduceLE, Int.reduceEq, Int.reduceToNat, Nat.reduceBEq, nat1, true_and])
    all_goals exact ret_b rfl
  rw [hv rfl]
  clear hf hv htA
  by_cases hk3 : k = 3
  · rw [if_pos hk3]
    repeat' (first | (with_reducible first | refine jn_in ?_ | refine cl_ok (by assumption) rfl ?_ | refine cl_okP (by assumption) rfl ?_ | refine br_if (fun hbr => ?_) fun hbr => ?_ | refine br_ifn (fun hbr => ?_) fun hbr => ?_ | refine br_nb (fun hbr => ?_) fun hbr => ?_ | refine br_b (fun hbr => ?_) fun hbr => ?_) | simp (disch := first | omega | (simp only [length_take, length_drop, length_append, map_cons, map_nil, length_map, length_cons, length_nil, length_set, length_replicate]; omega) | (simp only [length_cons, length_nil, Nat.zero_add, Nat.reduceAdd])) only [go_sem, ↓reduceIte, Nat.reduceAdd, Int.reduceNeg, Int.reduceAdd, Int.reduceSub, Int.reduceMul, Int.reduceLT, Int.reduceLE, Int.reduceEq, Int.reduceToNat, Nat.reduceBEq, nat1, true_and])
    all_goals first | omega | skip
    refine lp (fun i : Nat => [.sc (.int .i64 i)]) (fun i => i ≤ zs.length ∧ i ≤ ls.length ∧ allB (itP P zs ls) i = true) (fun i => zs.length - i) 0 rfl ⟨Nat.zero_le _, Nat.zero_le _, rfl⟩ ?_
    rintro i ⟨hi, hi2, ha⟩
    simp only [u_spec_l26Slot_l1]
    by_cases hlt : i < zs.length ∧ i < ls.length
    · have h4i := h4 i
      have hlt1 := hlt.1
      repeat' (first | (with_reducible first | refine jn_in ?_ | refine cl_ok (by assumption) rfl ?_ | refine cl_okP (by assumption) rfl ?_ | refine br_if (fun hbr => ?_) fun hbr => ?_ | refine br_ifn (fun hbr => ?_) fun hbr => ?_ | refine br_nb (fun hbr => ?_) fun hbr => ?_ | refine br_b (fun hbr => ?_) fun hbr => ?_) | simp (disch := first | omega | (simp only [length_take, length_drop, length_append, map_cons, map_nil, length_map, length_cons, length_nil, length_set, length_replicate]; omega) | (simp only [length_cons, length_nil, Nat.zero_add, Nat.reduceAdd])) only [go_sem, ↓reduceIte, Nat.reduceAdd, Int.reduceNeg, Int.reduceAdd, Int.reduceSub, Int.reduceMul, Int.reduceLT, Int.reduceLE, Int.reduceEq, Int.reduceToNat, Nat.reduceBEq, nat1, u_spec_l26Slot_j0])
      all_goals first
        | omega
        | exact ret_b (by rw [allB_no (p := itP P zs ls) hlt1 (by (first | (simp [-List.getD_eq_getElem?_getD, itP, *]; done) | (simp_all [-List.getD_eq_getElem?_getD, itP]; done) | (simp [-List.getD_eq_getElem?_getD, itP, *]; omega) | (simp_all [-List.getD_eq_getElem?_getD, itP]; omega) | omega)), Bool.and_false])
        | exact ⟨i + 1, rfl, ⟨by omega, by omega, allB_step ha (by (first | (simp [-List.getD_eq_getElem?_getD, itP, *]; done) | (simp_all [-List.getD_eq_getElem?_getD, itP]; done) | (simp [-List.getD_eq_getElem?_getD, itP, *]; omega) | (simp_all [-List.getD_eq_getElem?_getD, itP]; omega) | omega))⟩, by omega⟩
        | skip
    · by_cases he : zs.length = ls.length
      · obtain rfl : i = zs.length := by omega
        rw [ha, Bool.and_true]
        repeat' (first | (with_reducible first | refine jn_in ?_ | refine cl_ok (by assumption) rfl ?_ | refine cl_okP (by assumption) rfl ?_ | refine br_if (fun hbr => ?_) fun hbr => ?_ | refine br_ifn (fun hbr => ?_) fun hbr => ?_ | refine br_nb (fun hbr => ?_) fun hbr => ?_ | refine br_b (fun hbr => ?_) fun hbr => ?_) | simp (disch := first | omega | (simp only [length_take, length_drop, length_append, map_cons, map_nil, length_map, length_cons, length_nil, length_set, length_replicate]; omega) | (simp only [length_cons, length_nil, Nat.zero_add, Nat.reduceAdd])) only [go_sem, ↓reduceIte, Nat.reduceAdd, Int.reduceNeg, Int.reduceAdd, Int.reduceSub, Int.reduceMul, Int.reduceLT, Int.reduceLE, Int.reduceEq, Int.reduceToNat, Nat.reduceBEq, nat1, true_and])
        all_goals first | omega | (refine ret_b ?_; rw [Bool.eq_iff_iff]; simp; omega)
      · rw [decide_eq_false he, Bool.false_and]
        repeat' (first | (with_reducible first | refine jn_in ?_ | refine cl_ok (by assumption) rfl ?_ | refine cl_okP (by assumption) rfl ?_ | refine br_if (fun hbr => ?_) fun hbr => ?_ | refine br_ifn (fun hbr => ?_) fun hbr => ?_ | refine br_nb (fun hbr => ?_) fun hbr => ?_ | refine br_b (fun hbr => ?_) fun hbr => ?_) | simp (disch := first | omega | (simp only [length_take, length_drop, length_append, map_cons, map_nil, length_map, length_cons, length_nil, length_set, length_replicate]; omega) | (simp only [length_cons, length_nil, Nat.zero_add, Nat.reduceAdd])) only [go_sem, ↓reduceIte, Nat.reduceAdd, Int.reduceNeg, Int.reduceAdd, Int.reduceSub, Int.reduceMul, Int.reduceLT, Int.reduceLE, Int.reduceEq, Int.reduceToNat, Nat.reduceBEq, nat1, true_and])
        all_goals first | omega | (refine ret_b ?_; rw [eq_comm, decide_eq_false_iff_not]; omega)
  rw [if_neg hk3]
  by_cases hk0 : k = 0
  · rw [if_pos hk0]
    repeat' (first | (with_reducible first | refine jn_in ?_ | refine cl_ok (by assumption) rfl ?_ | refine cl_okP (by assumption) rfl ?_ | refine br_if (fun hbr => ?_) fun hbr => ?_ | refine br_ifn (fun hbr => ?_) fun hbr => ?_ | refine br_nb (fun hbr => ?_) fun hbr => ?_ | refine br_b (fun hbr => ?_) fun hbr => ?_) | simp (disch := first | omega | (simp only [length_take, length_drop, length_append, map_cons, map_nil, length_map, length_cons, length_nil, length_set, length_replicate]; omega) | (simp only [length_cons, length_nil, Nat.zero_add, Nat.reduceAdd])) only [go_sem, ↓reduceIte, Nat.reduceAdd, Int.reduceNeg, Int.reduceAdd, Int.reduceSub, Int.reduceMul, Int.reduceLT, Int.reduceLE, Int.reduceEq, Int.reduceToNat, Nat.reduceBEq, nat1, true_and])
    all_goals first | omega | exact ret_b rfl
  rw [if_neg hk0]
  by_cases hk1 : k = 1
  · rw [if_pos hk1]
    cases b1
    · repeat' (first | (with_reducible first | refine jn_in ?_ | refine cl_ok (by assumption) rfl ?_ | refine cl_okP (by assumption) rfl ?_ | refine br_if (fun hbr => ?_) fun hbr => ?_ | refine br_ifn (fun hbr => ?_) fun hbr => ?_ | refine br_nb (fun hbr => ?_) fun hbr => ?_ | refine br_b (fun hbr => ?_) fun hbr => ?_) | simp (disch := first | omega | (simp only [length_take, length_drop, length_append, map_cons, map_nil, length_map, length_cons, length_nil, length_set, length_replicate]; omega) | (simp only [length_cons, length_nil, Nat.zero_add, Nat.reduceAdd])) only [go_sem, ↓reduceIte, Nat.reduceAdd, Int.reduceNeg, Int.reduceAdd, Int.reduceSub, Int.reduceMul, Int.reduceLT, Int.reduceLE, Int.reduceEq, Int.reduceToNat, Nat.reduceBEq, nat1, true_and])
      all_goals first | omega | exact ret_b rfl
    · repeat' (first | (with_reducible first | refine jn_in ?_ | refine cl_ok (by assumption) rfl ?_ | refine cl_okP (by assumption) rfl ?_ | refine br_if (fun hbr => ?_) fun hbr => ?_ | refine br_ifn (fun hbr => ?_) fun hbr => ?_ | refine br_nb (fun hbr => ?_) fun hbr => ?_ | refine br_b (fun hbr => ?_) fun hbr => ?_) | simp (disch := first | omega | (simp only [length_take, length_drop, length_append, map_cons, map_nil, length_map, length_cons, length_nil, length_set, length_replicate]; omega) | (simp only [length_cons, length_nil, Nat.zero_add, Nat.reduceAdd])) only [go_sem, ↓reduceIte, Nat.reduceAdd, Int.reduceNeg, Int.reduceAdd, Int.reduceSub, Int.reduceMul, Int.reduceLT, Int.reduceLE, Int.reduceEq, Int.reduceToNat, Nat.reduceBEq, nat1, true_and])
      all_goals first | omega | exact ret_b rfl
  rw [if_neg hk1]
  by_cases hk2 : k = 2
  · rw [if_pos hk2]
    repeat' (first | (with_reducible first | refine jn_in ?_ | refine cl_ok (by assumption) rfl ?_ | refine cl_okP (by assumption) rfl ?_ | refine br_if (fun hbr => ?_) fun hbr => ?_ | refine br_ifn (fun hbr => ?_) fun hbr => ?_ | refine br_nb (fun hbr => ?_) fun hbr => ?_ | refine br_b (fun hbr => ?_) fun hbr => ?_) | simp (disch := first | omega | (simp only [length_take, length_drop, length_append, map_cons, map_nil, length_map, length_cons, length_nil, length_set, length_replicate]; omega) | (simp only [length_cons, length_nil, Nat.zero_add, Nat.reduceAdd])) only [go_sem, ↓reduceIte, Nat.reduceAdd, Int.reduceNeg, Int.reduceAdd, Int.reduceSub, Int.reduceMul, Int.reduceLT, Int.reduceLE, Int.reduceEq, Int.reduceToNat, Nat.reduceBEq, nat1, true_and])
    all_goals first | omega | exact ret_b rfl
  rw [if_neg hk2]
  repeat' (first | (with_reducible first | refine jn_in ?_ | refine cl_ok (by assumption) rfl ?_ | refine cl_okP (by assumption) rfl ?_ | refine br_if (fun hbr => ?_) fun hbr => ?_ | refine br_ifn (fun hbr => ?_) fun hbr => ?_ | refine br_nb (fun hbr => ?_) fun hbr => ?_ | refine br_b (fun hbr => ?_) fun hbr => ?_) | simp (disch := first | omega | (simp only [length_take, length_drop, length_append, map_cons, map_nil, length_map, length_cons, length_nil, length_set, length_replicate]; omega) | (simp only [length_cons, length_nil, Nat.zero_add, Nat.reduceAdd])) only [go_sem, ↓reduceIte, Nat.reduceAdd, Int.reduceNeg, Int.reduceAdd, Int.reduceSub, Int.reduceMul, Int.reduceLT, Int.reduceLE, Int.reduceEq, Int.reduceToNat, Nat.reduceBEq, nat1, true_and])
  all_goals first | omega | exact ret_b rfl
end Go.Proofs.Ytkhibgknpcgneaa

namespace Go.Proofs.Ytkhibgknpcgneaa
open List (length_take length_drop length_append map_cons map_nil length_map length_cons length_nil length_set length_replicate)
open Go.RowKit
set_option maxRecDepth 100000
def nsP (E : List Env) (P : List Pro) (x : Env) (j : Nat) : Bool := nameB (x.names.getD j default) && (!decide (find1 x.names (x.names.getD j default) < (j : Int)) && slB E P (x.slots.getD j default))
def paB (E : List Env) (i : Nat) (p : Int) : Bool := if i = 0 then decide (p = -1) else decide (p < (i : Int)) && eU E p
def enB (E : List Env) (P : List Pro) (i : Nat) : Bool :=
  if (E.getD i default).used = true then (paB E i (E.getD i default).parent && decide ((E.getD i default).names.length = (E.getD i default).slots.length)) && allB (nsP E P (E.getD i default)) (E.getD i default).names.length
  else decide ((E.getD i default).parent = 0) && (decide ((E.getD i default).names.length = 0) && decide ((E.getD i default).slots.length = 0))
structure BdS (E : List Env) (P : List Pro) : Prop where
  e : E.length ≤ 1048576
  p : P.length ≤ 1048576
  we : ∀ x ∈ E, wtEnv x ≤ 1048576
  wp : ∀ x ∈ P, wtPro x ≤ 1048576
set_option maxHeartbeats 4000000 in
theorem iEnv_m (E : List Env) (P : List Pro) (hb : BdS E P) (i : Nat) (hi : i < E.length) : Meets Try.prog 17 [(true, encS2 E P), (false, [.sc (.int .i64 i)])] [(false, [.sc (.bool (enB E P i))], true)] := by
  obtain ⟨hE, hP, hwe, hwp⟩ := hb
  have hwx := hwe _ (getD_mem hi)
  have hix : eIdx 4 (some (.sl 50 4 (E.map encEnv))) (some (.sc (.int .i64 (i : Int)))) = some (encEnv (E.getD i default)) := by rw [ix_Env (by omega) (by omega), Int.toNat_natCast]
  unfold enB
  generalize E.getD i default = x at *
  obtain ⟨us, pa, ns, sl⟩ := x
  have hwt : wtEnv ⟨us, pa, ns, sl⟩ = wtSs ns + wtSlos sl := rfl
  rw [hwt] at hwx; clear hwt
  have hn : ns.length ≤ 1048576 := wtSs_len (n := 1048576) (by omega)
  have hns := wtSs_size (l := ns) (n := 1048576) (by omega)
  have hsl : sl.length ≤ 1048576 := by unfold wtSlos at hwx; omega
  have hss : ∀ x ∈ sl, wtSlo x ≤ 1048576 := fun x hx => by have := sumBy_mem wtSlo hx; unfold wtSlos at hwx; omega
  have h1 := envUsed_m E P pa hE
  simp only
  simp only [encEnv, encS2, encEnvs, encPros, encSs, encSlos, List.cons_append, List.nil_append] at hix h1 ⊢
  refine meets_upf Try.func17 u_impl_envRight_g rfl ?_; simp only [u_impl_envRight_u]
  cases us
  · rw [if_neg (by decide)]
    repeat' (first | (with_reducible first | refine jn_in ?_ | refine cl_ok (by assumption) rfl ?_ | refine cl_okP (by assumption) rfl ?_ | refine br_if (fun hbr => ?_) fun hbr => ?_ | refine br_ifn (fun hbr => ?_) fun hbr => ?_ | refine br_nb (fun hbr => ?_) fun hbr => ?_ | refine br_b (fun hbr => ?_) fun hbr => ?_) | simp (disch := first | omega | (simp only [length_take, length_drop, length_append, map_cons, map_nil, length_map, length_cons, length_nil, length_set, length_replicate]; omega) | (simp only [length_cons, length_nil, Nat.zero_add, Nat.reduceAdd])) only [go_sem, ↓reduceIte, Nat.reduceAdd, Int.reduceNeg, Int.reduceAdd, Int.reduceSub, Int.reduceMul, Int.reduceLT, Int.reduceLE, Int.reduceEq, Int.reduceToNat, Nat.reduceBEq, nat1, hix])
    all_goals first | (refine ret_b ?_; simp [-List.length_eq_zero_iff, *]; done) | (refine ret_b ?_; rw [Bool.eq_iff_iff]; simp [-List.length_eq_zero_iff]; omega)
  rw [if_pos rfl]
  simp (disch := first | omega | (simp only [length_take, length_drop, length_append, map_cons, map_nil, length_map, length_cons, length_nil, length_set, length_replicate]; omega) | (simp only [length_cons, length_nil, Nat.zero_add, Nat.reduceAdd])) only [go_sem, ↓reduceIte, Nat.reduceAdd, Int.reduceNeg, Int.reduceAdd, Int.reduceSub, Int.reduceMul, Int.reduceLT, Int.reduceLE, Int.reduceEq, Int.reduceToNat, Nat.reduceBEq, nat1, hix]
  refine jn_eq [.sc (.bool (!(paB E i pa && decide (ns.length = sl.length))))] ?_ ?_
  · unfold paB
    by_cases h0 : i = 0
    · rw [if_pos h0]
      repeat' (first | (with_reducible first | refine jn_in ?_ | refine cl_ok (by assumption) rfl ?_ | refine cl_okP (by assumption) rfl ?_ | refine br_if (fun hbr => ?_) fun hbr => ?_ | refine br_ifn (fun hbr => ?_) fun hbr => ?_ | refine br_nb (fun hbr => ?_) fun hbr => ?_ | refine br_b (fun hbr => ?_) fun hbr => ?_) | simp (disch := first | omega | (simp only [length_take, length_drop, length_append, map_cons, map_nil, length_map, length_cons, length_nil, length_set, length_replicate]; omega) | (simp only [length_cons, length_nil, Nat.zero_add, Nat.reduceAdd])) only [go_sem, ↓reduceIte, Nat.reduceAdd, Int.reduceNeg, Int.reduceAdd, Int.reduceSub, Int.reduceMul, Int.reduceLT, Int.reduceLE, Int.reduceEq, Int.reduceToNat, Nat.reduceBEq, nat1, true_and])
      all_goals first
        | omega
        | (refine bb ?_; simp [*]; done)
        | (refine bb ?_; simp_all; done)
        | (refine bb ?_; grind)
        | skip
    · rw [if_neg h0]
      repeat' (first | (with_reducible first | refine jn_in ?_ | refine cl_ok (by assumption) rfl ?_ | refine cl_okP (by assumption) rfl ?_ | refine br_if (fun hbr => ?_) fun hbr => ?_ | refine br_ifn (fun hbr => ?_) fun hbr => ?_ | refine br_nb (fun hbr => ?_) fun hbr => ?_ | refine br_b (fun hbr => ?_) fun hbr => ?_) | simp (disch := first | omega | (simp only [length_take, length_drop, length_append, map_cons, map_nil, length_map, length_cons, length_nil, length_set, length_replicate]; omega) | (simp only [length_cons, length_nil, Nat.zero_add, Nat.reduceAdd])) only [go_sem, ↓reduceIte, Nat.reduceAdd, Int.reduceNeg, Int.reduceAdd, Int.reduceSub, Int.reduceMul, Int.reduceLT, Int.reduceLE, Int.reduceEq, Int.reduceToNat, Nat.reduceBEq, nat1, true_and])
      all_goals first
        | omega
        | (refine bb ?_; simp [*]; done)
        | (refine bb ?_; simp_all; done)
        | (refine bb ?_; grind)
        | skip
  simp only [u_impl_envRight_j2]
  cases hA : (paB E i pa && decide (ns.length = sl.length))
  · repeat' (first | (with_reducible first | refine jn_in ?_ | refine cl_ok (by assumption) rfl ?_ | refine cl_okP (by assumption) rfl ?_ | refine br_if (fun hbr => ?_) fun hbr => ?_ | refine br_ifn (fun hbr => ?_) fun hbr => ?_ | refine br_nb (fun hbr => ?_) fun hbr => ?_ | refine br_b (fun hbr => ?_) fun hbr => ?_) | simp (disch := first | omega | (simp only [length_take, length_drop, length_append, map_cons, map_nil, length_map, length_cons, length_nil, length_set, length_replicate]; omega) | (simp only [length_cons, length_nil, Nat.zero_add, Nat.reduceAdd])) only [go_sem, ↓reduceIte, Nat.reduceAdd, Int.reduceNeg, Int.reduceAdd, Int.reduceSub, Int.reduceMul, Int.reduceLT, Int.reduceLE, Int.reduceEq, Int.reduceToNat, Nat.reduceBEq, nat1, true_and])
    all_goals exact ret_b rfl
  rw [Bool.true_and]
  have hle : ns.length = sl.length := by
    simp only [Bool.and_eq_true, decide_eq_true_eq] at hA
    exact hA.2
  simp (disch := first | omega | (simp only [length_take, length_drop, length_append, map_cons, map_nil, length_map, length_cons, length_nil, length_set, length_replicate]; omega) | (simp only [length_cons, length_nil, Nat.zero_add, Nat.reduceAdd])) only [go_sem, ↓reduceIte, Nat.reduceAdd, Int.reduceNeg, Int.reduceAdd, Int.reduceSub, Int.reduceMul, Int.reduceLT, Int.reduceLE, Int.reduceEq, Int.reduceToNat, Nat.reduceBEq, nat1, true_and]
  refine lp (fun j : Nat => [.sc (.int .i64 j)]) (fun j => j ≤ ns.length ∧ allB (nsP E P ⟨true, pa, ns, sl⟩) j = true) (fun j => ns.length - j) 0 rfl ⟨Nat.zero_le _, rfl⟩ ?_
  rintro j ⟨hj, ha⟩
  simp only [u_impl_envRight_l1]
  by_cases hlt : j < ns.length
  · have hk : nsP E P ⟨true, pa, ns, sl⟩ j = (nameB (ns.getD j default) && (!decide (find1 ns (ns.getD j default) < (j : Int)) && slB E P (sl.getD j default))) := rfl
    have g1 := implName_m (ns.getD j default) (by have := hns _ (getD_mem hlt); omega)
    have g2 := hasText_m 9 (ns.take j) (ns.getD j default) (by rw [List.length_take]; omega)
    rw [hasB_take hlt] at g2
    have hjs : j < sl.length := by omega
    have g3 := iSlot_m E P hE hP _ (hss _ (getD_mem hjs))
    have hix2 : eIdx 12 (some (.sl 72 12 (sl.map encSlo))) (some (.sc (.int .i64 (j : Int)))) = some (encSlo (sl.getD j default)) := by rw [ix_Slo (by omega) (by omega), Int.toNat_natCast]
    generalize sl.getD j default = y at *
    generalize slB E P y = sb at *
    obtain ⟨y0, ⟨v0, v1, v2, v3, v4, v5, v6, v7⟩, y2, y3, y4⟩ := y
    simp only [encSlo, encS2, encEnvs, encPros, encV, encV_mk, encSs, encZs, List.cons_append, List.nil_append] at g3 hix2
    repeat' (first | (with_reducible first | refine jn_in ?_ | refine cl_ok (by assumption) rfl ?_ | refine cl_okP (by assumption) rfl ?_ | refine br_if (fun hbr => ?_) fun hbr => ?_ | refine br_ifn (fun hbr => ?_) fun hbr => ?_ | refine br_nb (fun hbr => ?_) fun hbr => ?_ | refine br_b (fun hbr => ?_) fun hbr => ?_) | simp (disch := first | omega | (simp only [length_take, length_drop, length_append, map_cons, map_nil, length_map, length_cons, length_nil, length_set, length_replicate]; omega) | (simp only [length_cons, length_nil, Nat.zero_add, Nat.reduceAdd])) only [go_sem, ↓reduceIte, Nat.reduceAdd, Int.reduceNeg, Int.reduceAdd, Int.reduceSub, Int.reduceMul, Int.reduceLT, Int.reduceLE, Int.reduceEq, Int.reduceToNat, Nat.reduceBEq, nat1, hix2, u_impl_envRight_j0])
    all_goals first
      | omega
      | exact ret_b (by rw [allB_no (p := nsP E P ⟨true, pa, ns, sl⟩) hlt (by rw [hk]; (first | (simp [-List.getD_eq_getElem?_getD, true_and, *]; done) | (simp_all [-List.getD_eq_getElem?_getD, true_and]; done) | (simp [-List.getD_eq_getElem?_getD, true_and, *]; omega) | (simp_all [-List.getD_eq_getElem?_getD, true_and]; omega) | omega))])
      | exact ⟨j + 1, rfl, ⟨by omega, allB_step ha (by rw [hk]; (first | (simp [-List.getD_eq_getElem?_getD, true_and, *]; done) | (simp_all [-List.getD_eq_getElem?_getD, true_and]; done) | (simp [-List.getD_eq_getElem?_getD, true_and, *]; omega) | (simp_all [-List.getD_eq_getElem?_getD, true_and]; omega) | omega))⟩, by omega⟩
      | skip
  · obtain rfl : j = ns.length := by omega
    repeat' (first | (with_reducible first | refine jn_in ?_ | refine cl_ok (by assumption) rfl ?_ | refine cl_okP (by assumption) rfl ?_ | refine br_if (fun hbr => ?_) fun hbr => ?_ | refine br_ifn (fun hbr => ?_) fun hbr => ?_ | refine br_nb (fun hbr => ?_) fun hbr => ?_ | refine br_b (fun hbr => ?_) fun hbr => ?_) | simp (disch := first | omega | (simp only [length_take, length_drop, length_append, map_cons, map_nil, length_map, length_cons, length_nil, length_set, length_replicate]; omega) | (simp only [length_cons, length_nil, Nat.zero_add, Nat.reduceAdd])) only [go_sem, ↓reduceIte, Nat.reduceAdd, Int.reduceNeg, Int.reduceAdd, Int.reduceSub, Int.reduceMul, Int.reduceLT, Int.reduceLE, Int.reduceEq, Int.reduceToNat, Nat.reduceBEq, nat1, true_and])
    all_goals first | omega | exact ret_b ha | skip
set_option maxHeartbeats 4000000 in
theorem sEnv_m (E : List Env) (P : List Pro) (hb : BdS E P) (i : Nat) (hi : i < E.length) : Meets Try.prog 11 [(true, encS2 E P), (false, [.sc (.int .i64 i)])] [(false, [.sc (.bool (enB E P i && ((E.getD i default).used || decide (0 < i))))], true)] := by
  obtain ⟨hE, hP, hwe, hwp⟩ := hb
  have hwx := hwe _ (getD_mem hi)
  have hix : eIdx 4 (some (.sl 50 4 (E.map encEnv))) (some (.sc (.int .i64 (i : Int)))) = some (encEnv (E.getD i default)) := by rw [ix_Env (by omega) (by omega), Int.toNat_natCast]
  unfold enB
  generalize E.getD i default = x at *
  obtain ⟨us, pa, ns, sl⟩ := x
  have hwt : wtEnv ⟨us, pa, ns, sl⟩ = wtSs ns + wtSlos sl := rfl
  rw [hwt] at hwx; clear hwt
  have hn : ns.length ≤ 1048576 := wtSs_len (n := 1048576) (by omega)
  have hns := wtSs_size (l := ns) (n := 1048576) (by omega)
  have hsl : sl.length ≤ 1048576 := by unfold wtSlos at hwx; omega
  have hss : ∀ x ∈ sl, wtSlo x ≤ 1048576 := fun x hx => by have := sumBy_mem wtSlo hx; unfold wtSlos at hwx; omega
  have h1 := mIn pa 0 ((i : Int) - 1)
  have hixp : 0 ≤ pa → pa < (E.length : Int) → eIdx 4 (some (.sl 50 4 (E.map encEnv))) (some (.sc (.int .i64 pa))) = some (encEnv (E.getD pa.toNat default)) := fun h1 h2 => ix_Env h1 h2
  have hpe : paB E i pa = if i = 0 then decide (pa = -1) else decide (pa < (i : Int)) && (decide (0 ≤ pa) && (decide (pa < (E.length : Int)) && (E.getD pa.toNat default).used)) := rfl
  generalize E.getD pa.toNat default = xp at *
  obtain ⟨usp, pap, nsp, slp⟩ := xp
  simp only at hpe ⊢
  simp only [encEnv, encS2, encEnvs, encPros, encSs, encSlos, List.cons_append, List.nil_append] at hix hixp ⊢
  refine meets_upf Try.func11 u_spec_l26Env_g rfl ?_; simp only [u_spec_l26Env_u]
  cases us
  · rw [if_neg (by decide), Bool.false_or]
    by_cases h0 : 0 < i
    · rw [decide_eq_true h0, Bool.and_true]
      repeat' (first | (with_reducible first | refine jn_in ?_ | refine cl_ok (by assumption) rfl ?_ | refine cl_okP (by assumption) rfl ?_ | refine br_if (fun hbr => ?_) fun hbr => ?_ | refine br_ifn (fun hbr => ?_) fun hbr => ?_ | refine br_nb (fun hbr => ?_) fun hbr => ?_ | refine br_b (fun hbr => ?_) fun hbr => ?_) | simp (disch := first | omega | (simp only [length_take, length_drop, length_append, map_cons, map_nil, length_map, length_cons, length_nil, length_set, length_replicate]; omega) | (simp only [length_cons, length_nil, Nat.zero_add, Nat.reduceAdd])) only [go_sem, ↓reduceIte, Nat.reduceAdd, Int.reduceNeg, Int.reduceAdd, Int.reduceSub, Int.reduceMul, Int.reduceLT, Int.reduceLE, Int.reduceEq, Int.reduceToNat, Nat.reduceBEq, nat1, hix])
      all_goals first
        | omega
        | (refine ret_b ?_; simp [*]; done)
        | (refine ret_b ?_; rw [Bool.eq_iff_iff]; simp [-List.length_eq_zero_iff]; omega)
    · rw [decide_eq_false h0, Bool.and_false]
      repeat' (first | (with_reducible first | refine jn_in ?_ | refine cl_ok (by assumption) rfl ?_ | refine cl_okP (by assumption) rfl ?_ | refine br_if (fun hbr => ?_) fun hbr => ?_ | refine br_ifn (fun hbr => ?_) fun hbr => ?_ | refine br_nb (fun hbr => ?_) fun hbr => ?_ | refine br_b (fun hbr => ?_) fun hbr => ?_) | simp (disch := first | omega | (simp only [length_take, length_drop, length_append, map_cons, map_nil, length_map, length_cons, length_nil, length_set, length_replicate]; omega) | (simp only [length_cons, length_nil, Nat.zero_add, Nat.reduceAdd])) only [go_sem, ↓reduceIte, Nat.reduceAdd, Int.reduceNeg, Int.reduceAdd, Int.reduceSub, Int.reduceMul, Int.reduceLT, Int.reduceLE, Int.reduceEq, Int.reduceToNat, Nat.reduceBEq, nat1, hix])
      all_goals first | omega | exact ret_b rfl
  rw [if_pos rfl, Bool.true_or, Bool.and_true]
  simp (disch := first | omega | (simp only [length_take, length_drop, length_append, map_cons, map_nil, length_map, length_cons, length_nil, length_set, length_replicate]; omega) | (simp only [length_cons, length_nil, Nat.zero_add, Nat.reduceAdd])) only [go_sem, ↓reduceIte, Nat.reduceAdd, Int.reduceNeg, Int.reduceAdd, Int.reduceSub, Int.reduceMul, Int.reduceLT, Int.reduceLE, Int.reduceEq, Int.reduceToNat, Nat.reduceBEq, nat1, hix]
  refine jn_eq [.sc (.bool (!(paB E i pa && decide (ns.length = sl.length))))] ?_ ?_
  · rw [hpe]
    by_cases hlen : ns.length = sl.length
    · rw [decide_eq_true hlen, Bool.and_true]
      by_cases h0 : i = 0
      · rw [if_pos h0]
        repeat' (first | (with_reducible first | refine jn_in ?_ | refine cl_ok (by assumption) rfl ?_ | refine cl_okP (by assumption) rfl ?_ | refine br_if (fun hbr => ?_) fun hbr => ?_ | refine br_ifn (fun hbr => ?_) fun hbr => ?_ | refine br_nb (fun hbr => ?_) fun hbr => ?_ | refine br_b (fun hbr => ?_) fun hbr => ?_) | simp (disch := first | omega | (simp only [length_take, length_drop, length_append, map_cons, map_nil, length_map, length_cons, length_nil, length_set, length_replicate]; omega) | (simp only [length_cons, length_nil, Nat.zero_add, Nat.reduceAdd])) only [go_sem, ↓reduceIte, Nat.reduceAdd, Int.reduceNeg, Int.reduceAdd, Int.reduceSub, Int.reduceMul, Int.reduceLT, Int.reduceLE, Int.reduceEq, Int.reduceToNat, Nat.reduceBEq, nat1, true_and])
        all_goals first
          | omega
          | (refine bb ?_; simp [*]; done)
          | (refine bb ?_; simp_all; done)
          | skip
      · rw [if_neg h0]
        by_cases hp : 0 ≤ pa ∧ pa ≤ (i : Int) - 1
        · rw [decide_eq_true hp] at h1
          have hq := hixp hp.1 (by omega)
          rw [decide_eq_true (show pa < (i : Int) by omega), decide_eq_true hp.1, decide_eq_true (show pa < (E.length : Int) by omega)]
          repeat' (first | (with_reducible first | refine jn_in ?_ | refine cl_ok (by assumption) rfl ?_ | refine cl_okP (by assumption) rfl ?_ | refine br_if (fun hbr => ?_) fun hbr => ?_ | refine br_ifn (fun hbr => ?_) fun hbr => ?_ | refine br_nb (fun hbr => ?_) fun hbr => ?_ | refine br_b (fun hbr => ?_) fun hbr => ?_) | simp (disch := first | omega | (simp only [length_take, length_drop, length_append, map_cons, map_nil, length_map, length_cons, length_nil, length_set, length_replicate]; omega) | (simp only [length_cons, length_nil, Nat.zero_add, Nat.reduceAdd])) only [go_sem, ↓reduceIte, Nat.reduceAdd, Int.reduceNeg, Int.reduceAdd, Int.reduceSub, Int.reduceMul, Int.reduceLT, Int.reduceLE, Int.reduceEq, Int.reduceToNat, Nat.reduceBEq, nat1, hq])
          all_goals first
            | omega
            | exact bb rfl
            | skip
        · rw [decide_eq_false hp] at h1
          rw [← Bool.and_assoc, ← Bool.decide_and, decide_eq_false (show ¬ (pa < (i : Int) ∧ 0 ≤ pa) by omega)]
          repeat' (first | (with_reducible first | refine jn_in ?_ | refine cl_ok (by assumption) rfl ?_ | refine cl_okP (by assumption) rfl ?_ | refine br_if (fun hbr => ?_) fun hbr => ?_ | refine br_ifn (fun hbr => ?_) fun hbr => ?_ | refine br_nb (fun hbr => ?_) fun hbr => ?_ | refine br_b (fun hbr => ?_) fun hbr => ?_) | simp (disch := first | omega | (simp only [length_take, length_drop, length_append, map_cons, map_nil, length_map, length_cons, length_nil, length_set, length_replicate]; omega) | (simp only [length_cons, length_nil, Nat.zero_add, Nat.reduceAdd])) only [go_sem, ↓reduceIte, Nat.reduceAdd, Int.reduceNeg, Int.reduceAdd, Int.reduceSub, Int.reduceMul, Int.reduceLT, Int.reduceLE, Int.reduceEq, Int.reduceToNat, Nat.reduceBEq, nat1, true_and])
          all_goals first
            | omega
            | exact bb rfl
            | skip
    · rw [decide_eq_false hlen, Bool.and_false]
      repeat' (first | (with_reducible first | refine jn_in ?_ | refine cl_ok (by assumption) rfl ?_ | refine cl_okP (by assumption) rfl ?_ | refine br_if (fun hbr => ?_) fun hbr => ?_ | refine br_ifn (fun hbr => ?_) fun hbr => ?_ | refine br_nb (fun hbr => ?_) fun hbr => ?_ | refine br_b (fun hbr => ?_) fun hbr => ?_) | simp (disch := first | omega | (simp only [length_take, length_drop, length_append, map_cons, map_nil, length_map, length_cons, length_nil, length_set, length_replicate]; omega) | (simp only [length_cons, length_nil, Nat.zero_add, Nat.reduceAdd])) only [go_sem, ↓reduceIte, Nat.reduceAdd, Int.reduceNeg, Int.reduceAdd, Int.reduceSub, Int.reduceMul, Int.reduceLT, Int.reduceLE, Int.reduceEq, Int.reduceToNat, Nat.reduceBEq, nat1, true_and])
      all_goals first | omega | exact bb rfl | skip
  simp only [u_spec_l26Env_j2]
  cases hA : (paB E i pa && decide (ns.length = sl.length))
  · repeat' (first | (with_reducible first | refine jn_in ?_ | refine cl_ok (by assumption) rfl ?_ | refine cl_okP (by assumption) rfl ?_ | refine br_if (fun hbr => ?_) fun hbr => ?_ | refine br_ifn (fun hbr => ?_) fun hbr => ?_ | refine br_nb (fun hbr => ?_) fun hbr => ?_ | refine br_b (fun hbr => ?_) fun hbr => ?_) | simp (disch := first | omega | (simp only [length_take, length_drop, length_append, map_cons, map_nil, length_map, length_cons, length_nil, length_set, length_replicate]; omega) | (simp only [length_cons, length_nil, Nat.zero_add, Nat.reduceAdd])) only [go_sem, ↓reduceIte, Nat.reduceAdd, Int.reduceNeg, Int.reduceAdd, Int.reduceSub, Int.reduceMul, Int.reduceLT, Int.reduceLE, Int.reduceEq, Int.reduceToNat, Nat.reduceBEq, nat1, true_and])
    all_goals exact ret_b rfl
  rw [Bool.true_and]
  have hle : ns.length = sl.length := by
    simp only [Bool.and_eq_true, decide_eq_true_eq] at hA
    exact hA.2
  simp (disch := first | omega | (simp only [length_take, length_drop, length_append, map_cons, map_nil, length_map, length_cons, length_nil, length_set, length_replicate]; omega) | (simp only [length_cons, length_nil, Nat.zero_add, Nat.reduceAdd])) only [go_sem, ↓reduceIte, Nat.reduceAdd, Int.reduceNeg, Int.reduceAdd, Int.reduceSub, Int.reduceMul, Int.reduceLT, Int.reduceLE, Int.reduceEq, Int.reduceToNat, Nat.reduceBEq, nat1, true_and]
  refine lp (fun j : Nat => [.sc (.int .i64 j)]) (fun j => j ≤ ns.length ∧ allB (nsP E P ⟨true, pa, ns, sl⟩) j = true) (fun j => ns.length - j) 0 rfl ⟨Nat.zero_le _, rfl⟩ ?_
  rintro j ⟨hj, ha⟩
  simp only [u_spec_l26Env_l1]
  by_cases hlt : j < ns.length
  · have hk : nsP E P ⟨true, pa, ns, sl⟩ j = (nameB (ns.getD j default) && (!decide (find1 ns (ns.getD j default) < (j : Int)) && slB E P (sl.getD j default))) := rfl
    have g1 := specName_m (ns.getD j default) (by have := hns _ (getD_mem hlt); omega)
    have g2 := l1Find_m 9 ns (ns.getD j default) (by omega)
    have hjs : j < sl.length := by omega
    have g3 := sSlot_m E P hE hP _ (hss _ (getD_mem hjs))
    have hix2 : eIdx 12 (some (.sl 72 12 (sl.map encSlo))) (some (.sc (.int .i64 (j : Int)))) = some (encSlo (sl.getD j default)) := by rw [ix_Slo (by omega) (by omega), Int.toNat_natCast]
    generalize sl.getD j default = y at *
    generalize slB E P y = sb at *
    obtain ⟨y0, ⟨v0, v1, v2, v3, v4, v5, v6, v7⟩, y2, y3, y4⟩ := y
    simp only [encSlo, encS2, encEnvs, encPros, encV, encV_mk, encSs, encZs, List.cons_append, List.nil_append] at g3 hix2
    repeat' (first | (with_reducible first | refine jn_in ?_ | refine cl_ok (by assumption) rfl ?_ | refine cl_okP (by assumption) rfl ?_ | refine br_if (fun hbr => ?_) fun hbr => ?_ | refine br_ifn (fun hbr => ?_) fun hbr => ?_ | refine br_nb (fun hbr => ?_) fun hbr => ?_ | refine br_b (fun hbr => ?_) fun hbr => ?_) | simp (disch := first | omega | (simp only [length_take, length_drop, length_append, map_cons, map_nil, length_map, length_cons, length_nil, length_set, length_replicate]; omega) | (simp only [length_cons, length_nil, Nat.zero_add, Nat.reduceAdd])) only [go_sem, ↓reduceIte, Nat.reduceAdd, Int.reduceNeg, Int.reduceAdd, Int.reduceSub, Int.reduceMul, Int.reduceLT, Int.reduceLE, Int.reduceEq, Int.reduceToNat, Nat.reduceBEq, nat1, hix2, u_spec_l26Env_j0])
    all_goals first
      | omega
      | exact ret_b (by rw [allB_no (p := nsP E P ⟨true, pa, ns, sl⟩) hlt (by rw [hk]; (first | (simp [-List.getD_eq_getElem?_getD, true_and, *]; done) | (simp_all [-List.getD_eq_getElem?_getD, true_and]; done) | (simp [-List.getD_eq_getElem?_getD, true_and, *]; omega) | (simp_all [-List.getD_eq_getElem?_getD, true_and]; omega) | omega))])
      | exact ⟨j + 1, rfl, ⟨by omega, allB_step ha (by rw [hk]; (first | (simp [-List.getD_eq_getElem?_getD, true_and, *]; done) | (simp_all [-List.getD_eq_getElem?_getD, true_and]; done) | (simp [-List.getD_eq_getElem?_getD, true_and, *]; omega) | (simp_all [-List.getD_eq_getElem?_getD, true_and]; omega) | omega))⟩, by omega⟩
      | skip
  · obtain rfl : j = ns.length := by omega
    repeat' (first | (with_reducible first | refine jn_in ?_ | refine cl_ok (by assumption) rfl ?_ | refine cl_okP (by assumption) rfl ?_ | refine br_if (fun hbr => ?_) fun hbr => ?_ | refine br_ifn (fun hbr => ?_) fun hbr => ?_ | refine br_nb (fun hbr => ?_) fun hbr => ?_ | refine br_b (fun hbr => ?_) fun hbr => ?_) | simp (disch := first | omega | (simp only [length_take, length_drop, length_append, map_cons, map_nil, length_map, length_cons, length_nil, length_set, length_replicate]; omega) | (simp only [length_cons, length_nil, Nat.zero_add, Nat.reduceAdd])) only [go_sem, ↓reduceIte, Nat.reduceAdd, Int.reduceNeg, Int.reduceAdd, Int.reduceSub, Int.reduceMul, Int.reduceLT, Int.reduceLE, Int.reduceEq, Int.reduceToNat, Nat.reduceBEq, nat1, true_and])
    all_goals first | omega | exact ret_b ha | skip
end Go.Proofs.Ytkhibgknpcgneaa

namespace Go.Proofs.Ytkhibgknpcgneaa
open List (length_take length_drop length_append map_cons map_nil length_map length_cons length_nil length_set length_replicate)
open Go.RowKit
set_option maxRecDepth 100000
def prB (E : List Env) : Pro → Bool
  | ⟨u, c, e, st, v⟩ => if u = true then decide (0 ≤ st ∧ st ≤ 2) && (decide (0 ≤ c ∧ c ≤ 99999) && (vfB E v && (eU E e && (if st = 2 then decide (e = 0) else zB v)))) else decide (c = 0) && (decide (e = 0) && (decide (st = 0) && zB v))
theorem prB_mk (E : List Env) (u : Bool) (c e st : Int) (v : Vec) : prB E ⟨u, c, e, st, v⟩ = if u = true then decide (0 ≤ st ∧ st ≤ 2) && (decide (0 ≤ c ∧ c ≤ 99999) && (vfB E v && (eU E e && (if st = 2 then decide (e = 0) else zB v)))) else decide (c = 0) && (decide (e = 0) && (decide (st = 0) && zB v)) := rfl
set_option maxHeartbeats 4000000 in
theorem iPro_m (E : List Env) (P : List Pro) (hE : E.length ≤ 1048576) (x : Pro) (hw : wtPro x ≤ 1048576) : Meets Try.prog 18 [(true, encS2 E P), (true, encPro x)] [(false, [.sc (.bool (prB E x))], true)] := by
  obtain ⟨u, c, e, st, v⟩ := x
  have hwt : wtPro ⟨u, c, e, st, v⟩ = wtV v := rfl
  rw [hwt] at hw; clear hwt
  have h1 := iVal_m E P hE v hw
  have h2 := iZero_m v hw
  have h3 := envUsed_m E P e hE
  rw [prB_mk]
  generalize vfB E v = b1 at *
  generalize zB v = b2 at *
  generalize eU E e = b3 at *
  obtain ⟨v0, v1, v2, v3, v4, v5, v6, v7⟩ := v
  simp only [encPro, encS2, encEnvs, encPros, encV, encV_mk, encSs, encZs, List.cons_append, List.nil_append, List.append_nil] at h1 h2 h3 ⊢
  refine meets_upf Try.func18 u_impl_promiseRight_g rfl ?_; simp only [u_impl_promiseRight_u]
  cases u
  · rw [if_neg (by decide)]
    repeat' (first | (with_reducible first | refine jn_in ?_ | refine cl_ok (by assumption) rfl ?_ | refine cl_okP (by assumption) rfl ?_ | refine br_if (fun hbr => ?_) fun hbr => ?_ | refine br_ifn (fun hbr => ?_) fun hbr => ?_ | refine br_nb (fun hbr => ?_) fun hbr => ?_ | refine br_b (fun hbr => ?_) fun hbr => ?_) | simp (disch := first | omega | (simp only [length_take, length_drop, length_append, map_cons, map_nil, length_map, length_cons, length_nil, length_set, length_replicate]; omega) | (simp only [length_cons, length_nil, Nat.zero_add, Nat.reduceAdd])) only [go_sem, ↓reduceIte, Nat.reduceAdd, Int.reduceNeg, Int.reduceAdd, Int.reduceSub, Int.reduceMul, Int.reduceLT, Int.reduceLE, Int.reduceEq, Int.reduceToNat, Nat.reduceBEq, nat1, true_and])
    all_goals first
      | omega
      | (refine ret_b ?_; simp [*]; done)
      | (refine ret_b ?_; simp_all; done)
      | (refine ret_b ?_; grind)
      | skip
  · rw [if_pos rfl]
    repeat' (first | (with_reducible first | refine jn_in ?_ | refine cl_ok (by assumption) rfl ?_ | refine cl_okP (by assumption) rfl ?_ | refine br_if (fun hbr => ?_) fun hbr => ?_ | refine br_ifn (fun hbr => ?_) fun hbr => ?_ | refine br_nb (fun hbr => ?_) fun hbr => ?_ | refine br_b (fun hbr => ?_) fun hbr => ?_) | simp (disch := first | omega | (simp only [length_take, length_drop, length_append, map_cons, map_nil, length_map, length_cons, length_nil, length_set, length_replicate]; omega) | (simp only [length_cons, length_nil, Nat.zero_add, Nat.reduceAdd])) only [go_sem, ↓reduceIte, Nat.reduceAdd, Int.reduceNeg, Int.reduceAdd, Int.reduceSub, Int.reduceMul, Int.reduceLT, Int.reduceLE, Int.reduceEq, Int.reduceToNat, Nat.reduceBEq, nat1, true_and])
    all_goals first
      | omega
      | (refine ret_b ?_; simp [*]; done)
      | (refine ret_b ?_; simp_all; done)
      | (refine ret_b ?_; grind)
      | skip
def stB (E : List Env) (P : List Pro) : Bool := decide (0 < E.length) && ((E.getD 0 default).used && (allB (enB E P) E.length && allB (fun j => prB E (P.getD j default)) P.length))
set_option maxHeartbeats 4000000 in
theorem iSto_m (E : List Env) (P : List Pro) (hb : BdS E P) : Meets Try.prog 7 [(true, encS2 E P)] [(false, [.sc (.bool (stB E P))], true)] := by
  have h1 := iEnv_m E P hb
  have h2 := iPro_m E P hb.e
  obtain ⟨hE, hP, hwe, hwp⟩ := hb
  unfold stB
  have hix0 : 0 < E.length → eIdx 4 (some (.sl 50 4 (E.map encEnv))) (some (.sc (.int .i64 0))) = some (encEnv (E.getD 0 default)) := fun h => by rw [ix_Env (by omega) (by omega)]; rfl
  simp only [encS2, encEnvs, encPros] at h1 h2 ⊢
  refine meets_upf Try.func7 u_impl_IsStore_g rfl ?_; simp only [u_impl_IsStore_u]
  by_cases h0 : 0 < E.length
  rotate_left
  · rw [decide_eq_false h0]
    repeat' (first | (with_reducible first | refine jn_in ?_ | refine cl_ok (by assumption) rfl ?_ | refine cl_okP (by assumption) rfl ?_ | refine br_if (fun hbr => ?_) fun hbr => ?_ | refine br_ifn (fun hbr => ?_) fun hbr => ?_ | refine br_nb (fun hbr => ?_) fun hbr => ?_ | refine br_b (fun hbr => ?_) fun hbr => ?_) | simp (disch := first | omega | (simp only [length_take, length_drop, length_append, map_cons, map_nil, length_map, length_cons, length_nil, length_set, length_replicate]; omega) | (simp only [length_cons, length_nil, Nat.zero_add, Nat.reduceAdd])) only [go_sem, ↓reduceIte, Nat.reduceAdd, Int.reduceNeg, Int.reduceAdd, Int.reduceSub, Int.reduceMul, Int.reduceLT, Int.reduceLE, Int.reduceEq, Int.reduceToNat, Nat.reduceBEq, nat1, true_and])
    all_goals first | omega | exact ret_b rfl
  rw [decide_eq_true h0, Bool.true_and]
  have hi0 := hix0 h0
  generalize hx0 : E.getD 0 default = x0 at *
  obtain ⟨us, pa, ns, sl⟩ := x0
  simp only [encEnv, encSs, encSlos, List.cons_append, List.nil_append] at hi0
  simp only
  cases us
  · repeat' (first | (with_reducible first | refine jn_in ?_ | refine cl_ok (by assumption) rfl ?_ | refine cl_okP (by assumption) rfl ?_ | refine br_if (fun hbr => ?_) fun hbr => ?_ | refine br_ifn (fun hbr => ?_) fun hbr => ?_ | refine br_nb (fun hbr => ?_) fun hbr => ?_ | refine br_b (fun hbr => ?_) fun hbr => ?_) | simp (disch := first | omega | (simp only [length_take, length_drop, length_append, map_cons, map_nil, length_map, length_cons, length_nil, length_set, length_replicate]; omega) | (simp only [length_cons, length_nil, Nat.zero_add, Nat.reduceAdd])) only [go_sem, ↓reduceIte, Nat.reduceAdd, Int.reduceNeg, Int.reduceAdd, Int.reduceSub, Int.reduceMul, Int.reduceLT, Int.reduceLE, Int.reduceEq, Int.reduceToNat, Nat.reduceBEq, nat1, hi0])
    all_goals first | omega | exact ret_b rfl
  rw [Bool.true_and]
  clear hix0
  repeat' (first | (with_reducible first | refine jn_in ?_ | refine cl_ok (by assumption) rfl ?_ | refine cl_okP (by assumption) rfl ?_ | refine br_if (fun hbr => ?_) fun hbr => ?_ | refine br_ifn (fun hbr => ?_) fun hbr => ?_ | refine br_nb (fun hbr => ?_) fun hbr => ?_ | refine br_b (fun hbr => ?_) fun hbr => ?_) | simp (disch := first | omega | (simp only [length_take, length_drop, length_append, map_cons, map_nil, length_map, length_cons, length_nil, length_set, length_replicate]; omega) | (simp only [length_cons, length_nil, Nat.zero_add, Nat.reduceAdd])) only [go_sem, ↓reduceIte, Nat.reduceAdd, Int.reduceNeg, Int.reduceAdd, Int.reduceSub, Int.reduceMul, Int.reduceLT, Int.reduceLE, Int.reduceEq, Int.reduceToNat, Nat.reduceBEq, nat1, hi0])
  all_goals first | omega | skip
  refine lp (fun j : Nat => [.sc (.int .i64 j)]) (fun j => j ≤ E.length ∧ allB (enB E P) j = true) (fun j => E.length - j) 0 rfl ⟨Nat.zero_le _, rfl⟩ ?_
  rintro i ⟨hi, ha⟩
  simp only [u_impl_IsStore_l1]
  by_cases hlt : i < E.length
  · have h1i := h1 i hlt
    cases hb : enB E P i
    · rw [hb] at h1i
      repeat' (first | (with_reducible first | refine jn_in ?_ | refine cl_ok (by assumption) rfl ?_ | refine cl_okP (by assumption) rfl ?_ | refine br_if (fun hbr => ?_) fun hbr => ?_ | refine br_ifn (fun hbr => ?_) fun hbr => ?_ | refine br_nb (fun hbr => ?_) fun hbr => ?_ | refine br_b (fun hbr => ?_) fun hbr => ?_) | simp (disch := first | omega | (simp only [length_take, length_drop, length_append, map_cons, map_nil, length_map, length_cons, length_nil, length_set, length_replicate]; omega) | (simp only [length_cons, length_nil, Nat.zero_add, Nat.reduceAdd])) only [go_sem, ↓reduceIte, Nat.reduceAdd, Int.reduceNeg, Int.reduceAdd, Int.reduceSub, Int.reduceMul, Int.reduceLT, Int.reduceLE, Int.reduceEq, Int.reduceToNat, Nat.reduceBEq, nat1, true_and])
      all_goals first | omega | exact ret_b (by rw [allB_no (p := enB E P) hlt hb]; rfl) | skip
    · rw [hb] at h1i
      repeat' (first | (with_reducible first | refine jn_in ?_ | refine cl_ok (by assumption) rfl ?_ | refine cl_okP (by assumption) rfl ?_ | refine br_if (fun hbr => ?_) fun hbr => ?_ | refine br_ifn (fun hbr => ?_) fun hbr => ?_ | refine br_nb (fun hbr => ?_) fun hbr => ?_ | refine br_b (fun hbr => ?_) fun hbr => ?_) | simp (disch := first | omega | (simp only [length_take, length_drop, length_append, map_cons, map_nil, length_map, length_cons, length_nil, length_set, length_replicate]; omega) | (simp only [length_cons, length_nil, Nat.zero_add, Nat.reduceAdd])) only [go_sem, ↓reduceIte, Nat.reduceAdd, Int.reduceNeg, Int.reduceAdd, Int.reduceSub, Int.reduceMul, Int.reduceLT, Int.reduceLE, Int.reduceEq, Int.reduceToNat, Nat.reduceBEq, nat1, true_and])
      all_goals first | omega | exact ⟨i + 1, rfl, ⟨by omega, allB_step ha hb⟩, by omega⟩ | skip
  obtain rfl : i = E.length := by omega
  rw [ha, Bool.true_and]
  repeat' (first | (with_reducible first | refine jn_in ?_ | refine cl_ok (by assumption) rfl ?_ | refine cl_okP (by assumption) rfl ?_ | refine br_if (fun hbr => ?_) fun hbr => ?_ | refine br_ifn (fun hbr => ?_) fun hbr => ?_ | refine br_nb (fun hbr => ?_) fun hbr => ?_ | refine br_b (fun hbr => ?_) fun hbr => ?_) | simp (disch := first | omega | (simp only [length_take, length_drop, length_append, map_cons, map_nil, length_map, length_cons, length_nil, length_set, length_replicate]; omega) | (simp only [length_cons, length_nil, Nat.zero_add, Nat.reduceAdd])) only [go_sem, ↓reduceIte, Nat.reduceAdd, Int.reduceNeg, Int.reduceAdd, Int.reduceSub, Int.reduceMul, Int.reduceLT, Int.reduceLE, Int.reduceEq, Int.reduceToNat, Nat.reduceBEq, nat1, true_and])
  all_goals first | omega | skip
  refine lp (fun j : Nat => [.sc (.int .i64 j)]) (fun j => j ≤ P.length ∧ allB (fun j => prB E (P.getD j default)) j = true) (fun j => P.length - j) 0 rfl ⟨Nat.zero_le _, rfl⟩ ?_
  rintro i ⟨hi2, ha2⟩
  simp only [u_impl_IsStore_l0]
  by_cases hlt2 : i < P.length
  · have hm := getD_mem hlt2
    have h2i := h2 _ (hwp _ hm)
    have hix : eIdx 12 (some (.sl 44 12 (P.map encPro))) (some (.sc (.int .i64 (i : Int)))) = some (encPro (P.getD i default)) := by rw [ix_Pro (by omega) (by omega), Int.toNat_natCast]
    cases hb : prB E (P.getD i default)
    · rw [hb] at h2i
      have hno := allB_no (p := fun j => prB E (P.getD j default)) hlt2 hb
      generalize P.getD i default = x at h2i hix
      obtain ⟨u, c, e, st, ⟨v0, v1, v2, v3, v4, v5, v6, v7⟩⟩ := x
      simp only [encPro, encV, encV_mk, encSs, List.cons_append, List.nil_append, List.append_nil] at h2i hix
      repeat' (first | (with_reducible first | refine jn_in ?_ | refine cl_ok (by assumption) rfl ?_ | refine cl_okP (by assumption) rfl ?_ | refine br_if (fun hbr => ?_) fun hbr => ?_ | refine br_ifn (fun hbr => ?_) fun hbr => ?_ | refine br_nb (fun hbr => ?_) fun hbr => ?_ | refine br_b (fun hbr => ?_) fun hbr => ?_) | simp (disch := first | omega | (simp only [length_take, length_drop, length_append, map_cons, map_nil, length_map, length_cons, length_nil, length_set, length_replicate]; omega) | (simp only [length_cons, length_nil, Nat.zero_add, Nat.reduceAdd])) only [go_sem, ↓reduceIte, Nat.reduceAdd, Int.reduceNeg, Int.reduceAdd, Int.reduceSub, Int.reduceMul, Int.reduceLT, Int.reduceLE, Int.reduceEq, Int.reduceToNat, Nat.reduceBEq, nat1, hix])
      all_goals first | omega | exact ret_b hno | skip
    · rw [hb] at h2i
      have hst := allB_step (p := fun j => prB E (P.getD j default)) ha2 hb
      generalize P.getD i default = x at h2i hix
      obtain ⟨u, c, e, st, ⟨v0, v1, v2, v3, v4, v5, v6, v7⟩⟩ := x
      simp only [encPro, encV, encV_mk, encSs, List.cons_append, List.nil_append, List.append_nil] at h2i hix
      repeat' (first | (with_reducible first | refine jn_in ?_ | refine cl_ok (by assumption) rfl ?_ | refine cl_okP (by assumption) rfl ?_ | refine br_if (fun hbr => ?_) fun hbr => ?_ | refine br_ifn (fun hbr => ?_) fun hbr => ?_ | refine br_nb (fun hbr => ?_) fun hbr => ?_ | refine br_b (fun hbr => ?_) fun hbr => ?_) | simp (disch := first | omega | (simp only [length_take, length_drop, length_append, map_cons, map_nil, length_map, length_cons, length_nil, length_set, length_replicate]; omega) | (simp only [length_cons, length_nil, Nat.zero_add, Nat.reduceAdd])) only [go_sem, ↓reduceIte, Nat.reduceAdd, Int.reduceNeg, Int.reduceAdd, Int.reduceSub, Int.reduceMul, Int.reduceLT, Int.reduceLE, Int.reduceEq, Int.reduceToNat, Nat.reduceBEq, nat1, hix])
      all_goals first | omega | exact ⟨i + 1, rfl, ⟨by omega, hst⟩, by omega⟩ | skip
  obtain rfl : i = P.length := by omega
  repeat' (first | (with_reducible first | refine jn_in ?_ | refine cl_ok (by assumption) rfl ?_ | refine cl_okP (by assumption) rfl ?_ | refine br_if (fun hbr => ?_) fun hbr => ?_ | refine br_ifn (fun hbr => ?_) fun hbr => ?_ | refine br_nb (fun hbr => ?_) fun hbr => ?_ | refine br_b (fun hbr => ?_) fun hbr => ?_) | simp (disch := first | omega | (simp only [length_take, length_drop, length_append, map_cons, map_nil, length_map, length_cons, length_nil, length_set, length_replicate]; omega) | (simp only [length_cons, length_nil, Nat.zero_add, Nat.reduceAdd])) only [go_sem, ↓reduceIte, Nat.reduceAdd, Int.reduceNeg, Int.reduceAdd, Int.reduceSub, Int.reduceMul, Int.reduceLT, Int.reduceLE, Int.reduceEq, Int.reduceToNat, Nat.reduceBEq, nat1, true_and])
  all_goals first | omega | exact ret_b ha2 | skip
def p1B (E : List Env) (c st : Int) (v : Vec) : Bool := decide (0 ≤ st ∧ st ≤ 2) && (decide (0 ≤ c ∧ c ≤ 99999) && ((decide (st = 2) || zB v) && vfB E v))
def p2B (E : List Env) (u : Bool) (c e st : Int) : Bool := (!u || eU E e) && ((!(!u || decide (st = 2)) || decide (e = 0)) && (u || (decide (st = 0) && decide (c = 0))))
theorem prB_eq (E : List Env) (u : Bool) (c e st : Int) (v : Vec) : prB E ⟨u, c, e, st, v⟩ = (p1B E c st v && p2B E u c e st) := by
  rw [prB_mk]
  unfold p1B p2B
  have hz := zB_val (v := v) E
  generalize vfB E v = b1 at *
  generalize zB v = b2 at *
  generalize eU E e = b3 at *
  cases u
  · rw [if_neg (by decide)]
    cases b2
    · cases b1 <;> simp <;> omega
    · rw [hz rfl]
      rw [Bool.eq_iff_iff]
      simp
      omega
  · rw [if_pos rfl]
    by_cases h2 : st = 2
    · rw [if_pos h2]
      subst h2
      cases b1 <;> cases b2 <;> cases b3 <;> simp
    · rw [if_neg h2, decide_eq_false h2]
      cases b1 <;> cases b2 <;> cases b3 <;> simp
theorem stB_eq (E : List Env) (P : List Pro) : stB E P = (allB (fun i => enB E P i && ((E.getD i default).used || decide (0 < i))) E.length && (allB (fun j => prB E (P.getD j default)) P.length && decide (0 < E.length))) := by
  unfold stB
  generalize allB (fun j => prB E (P.getD j default)) P.length = b
  by_cases h0 : 0 < E.length
  · rw [decide_eq_true h0, Bool.true_and, Bool.and_true]
    have key : ((E.getD 0 default).used && allB (enB E P) E.length) = allB (fun i => enB E P i && ((E.getD i default).used || decide (0 < i))) E.length := by
      rw [Bool.eq_iff_iff, Bool.and_eq_true]
      constructor
      · rintro ⟨h1, h2⟩
        refine allB_iff.2 fun i hi => ?_
        rw [allB_iff.1 h2 i hi, Bool.true_and]
        by_cases hz : i = 0
        · subst hz; rw [h1]; rfl
        · rw [decide_eq_true (show 0 < i by omega), Bool.or_true]
      · intro h
        have h1 := allB_iff.1 h 0 h0
        rw [Bool.and_eq_true] at h1
        refine ⟨by simpa using h1.2, allB_iff.2 fun i hi => ?_⟩
        have h2 := allB_iff.1 h i hi
        rw [Bool.and_eq_true] at h2
        exact h2.1
    rw [← key, Bool.and_assoc]
  · rw [decide_eq_false h0, Bool.false_and, Bool.and_false, Bool.and_false]
set_option maxHeartbeats 4000000 in
theorem sSto_m (E : List Env) (P : List Pro) (hb : BdS E P) : Meets Try.prog 5 [(true, encS2 E P)] [(false, [.sc (.bool (stB E P))], true)] := by
  have h1 := sEnv_m E P hb
  obtain ⟨hE, hP, hwe, hwp⟩ := hb
  rw [stB_eq]
  simp only [encS2, encEnvs, encPros] at h1 ⊢
  refine meets_upf Try.func5 u_spec_IsStore_g rfl ?_; simp only [u_spec_IsStore_u]
  simp (disch := first | omega | (simp only [length_take, length_drop, length_append, map_cons, map_nil, length_map, length_cons, length_nil, length_set, length_replicate]; omega) | (simp only [length_cons, length_nil, Nat.zero_add, Nat.reduceAdd])) only [go_sem, ↓reduceIte, Nat.reduceAdd, Int.reduceNeg, Int.reduceAdd, Int.reduceSub, Int.reduceMul, Int.reduceLT, Int.reduceLE, Int.reduceEq, Int.reduceToNat, Nat.reduceBEq, nat1, true_and]
  refine lp (fun j : Nat => [.sc (.int .i64 j)]) (fun j => j ≤ E.length ∧ allB (fun i => enB E P i && ((E.getD i default).used || decide (0 < i))) j = true) (fun j => E.length - j) 0 rfl ⟨Nat.zero_le _, rfl⟩ ?_
  rintro i ⟨hi, ha⟩
  simp only [u_spec_IsStore_l3]
  by_cases hlt : i < E.length
  · have h1i := h1 i hlt
    have hst := fun h => allB_step (p := fun i => enB E P i && ((E.getD i default).used || decide (0 < i))) ha h
    have hno := fun h => allB_no (p := fun i => enB E P i && ((E.getD i default).used || decide (0 < i))) hlt h
    generalize (enB E P i && ((E.getD i default).used || decide (0 < i))) = b at h1i hst hno
    cases b
    · have hno' := hno rfl
      repeat' (first | (with_reducible first | refine jn_in ?_ | refine cl_ok (by assumption) rfl ?_ | refine cl_okP (by assumption) rfl ?_ | refine br_if (fun hbr => ?_) fun hbr => ?_ | refine br_ifn (fun hbr => ?_) fun hbr => ?_ | refine br_nb (fun hbr => ?_) fun hbr => ?_ | refine br_b (fun hbr => ?_) fun hbr => ?_) | simp (disch := first | omega | (simp only [length_take, length_drop, length_append, map_cons, map_nil, length_map, length_cons, length_nil, length_set, length_replicate]; omega) | (simp only [length_cons, length_nil, Nat.zero_add, Nat.reduceAdd])) only [go_sem, ↓reduceIte, Nat.reduceAdd, Int.reduceNeg, Int.reduceAdd, Int.reduceSub, Int.reduceMul, Int.reduceLT, Int.reduceLE, Int.reduceEq, Int.reduceToNat, Nat.reduceBEq, nat1, true_and])
      all_goals first | omega | exact ret_b (by rw [hno']; rfl) | skip
    · have hst' := hst rfl
      repeat' (first | (with_reducible first | refine jn_in ?_ | refine cl_ok (by assumption) rfl ?_ | refine cl_okP (by assumption) rfl ?_ | refine br_if (fun hbr => ?_) fun hbr => ?_ | refine br_ifn (fun hbr => ?_) fun hbr => ?_ | refine br_nb (fun hbr => ?_) fun hbr => ?_ | refine br_b (fun hbr => ?_) fun hbr => ?_) | simp (disch := first | omega | (simp only [length_take, length_drop, length_append, map_cons, map_nil, length_map, length_cons, length_nil, length_set, length_replicate]; omega) | (simp only [length_cons, length_nil, Nat.zero_add, Nat.reduceAdd])) only [go_sem, ↓reduceIte, Nat.reduceAdd, Int.reduceNeg, Int.reduceAdd, Int.reduceSub, Int.reduceMul, Int.reduceLT, Int.reduceLE, Int.reduceEq, Int.reduceToNat, Nat.reduceBEq, nat1, true_and])
      all_goals first | omega | exact ⟨i + 1, rfl, ⟨by omega, hst'⟩, by omega⟩ | skip
  obtain rfl : i = E.length := by omega
  rw [ha, Bool.true_and]
  repeat' (first | (with_reducible first | refine jn_in ?_ | refine cl_ok (by assumption) rfl ?_ | refine cl_okP (by assumption) rfl ?_ | refine br_if (fun hbr => ?_) fun hbr => ?_ | refine br_ifn (fun hbr => ?_) fun hbr => ?_ | refine br_nb (fun hbr => ?_) fun hbr => ?_ | refine br_b (fun hbr => ?_) fun hbr => ?_) | simp (disch := first | omega | (simp only [length_take, length_drop, length_append, map_cons, map_nil, length_map, length_cons, length_nil, length_set, length_replicate]; omega) | (simp only [length_cons, length_nil, Nat.zero_add, Nat.reduceAdd])) only [go_sem, ↓reduceIte, Nat.reduceAdd, Int.reduceNeg, Int.reduceAdd, Int.reduceSub, Int.reduceMul, Int.reduceLT, Int.reduceLE, Int.reduceEq, Int.reduceToNat, Nat.reduceBEq, nat1, true_and])
  all_goals first | omega | skip
  refine lp (fun j : Nat => [.sc (.int .i64 j)]) (fun j => j ≤ P.length ∧ allB (fun j => prB E (P.getD j default)) j = true) (fun j => P.length - j) 0 rfl ⟨Nat.zero_le _, rfl⟩ ?_
  rintro i ⟨hi2, ha2⟩
  simp only [u_spec_IsStore_l2]
  by_cases hlt2 : i < P.length
  · have hm := getD_mem hlt2
    have hwx := hwp _ hm
    have hix : eIdx 12 (some (.sl 44 12 (P.map encPro))) (some (.sc (.int .i64 (i : Int)))) = some (encPro (P.getD i default)) := by rw [ix_Pro (by omega) (by omega), Int.toNat_natCast]
    have hst := fun h => allB_step (p := fun j => prB E (P.getD j default)) ha2 h
    have hno := fun h => allB_no (p := fun j => prB E (P.getD j default)) hlt2 h
    try simp only at hst hno
    generalize P.getD i default = x at hwx hix hst hno
    obtain ⟨u, c, e, st, v⟩ := x
    have hwt : wtPro ⟨u, c, e, st, v⟩ = wtV v := rfl
    rw [hwt] at hwx; clear hwt
    rw [prB_eq] at hst hno
    have g1 := sVal_m E P hE v hwx
    have g2 := l4same0_m v hwx
    have g3 := mIn st 0 2
    have g4 := mIn c 0 99999
    have g5 := mIn e 0 ((E.length : Int) - 1)
    have hp1 : p1B E c st v = (decide (0 ≤ st ∧ st ≤ 2) && (decide (0 ≤ c ∧ c ≤ 99999) && ((decide (st = 2) || zB v) && vfB E v))) := rfl
    generalize p1B E c st v = T at *
    generalize vfB E v = b1 at *
    generalize zB v = b2 at *
    have hixp : 0 ≤ e → e < (E.length : Int) → eIdx 4 (some (.sl 50 4 (E.map encEnv))) (some (.sc (.int .i64 e))) = some (encEnv (E.getD e.toNat default)) := fun h1 h2 => ix_Env h1 h2
    have hpe : p2B E u c e st = ((!u || (decide (0 ≤ e) && (decide (e < (E.length : Int)) && (E.getD e.toNat default).used))) && ((!(!u || decide (st = 2)) || decide (e = 0)) && (u || (decide (st = 0) && decide (c = 0))))) := rfl
    generalize p2B E u c e st = T2 at *
    generalize E.getD e.toNat default = xp at *
    obtain ⟨usp, pap, nsp, slp⟩ := xp
    simp only at hpe
    obtain ⟨v0, v1, v2, v3, v4, v5, v6, v7⟩ := v
    simp only [encPro, encEnv, encS2, encEnvs, encPros, encSlos, z0V, encV, encV_mk, encSs, encZs, List.cons_append, List.nil_append, List.append_nil] at g1 g2 hix hixp
    simp (disch := first | omega | (simp only [length_take, length_drop, length_append, map_cons, map_nil, length_map, length_cons, length_nil, length_set, length_replicate]; omega) | (simp only [length_cons, length_nil, Nat.zero_add, Nat.reduceAdd])) only [go_sem, ↓reduceIte, Nat.reduceAdd, Int.reduceNeg, Int.reduceAdd, Int.reduceSub, Int.reduceMul, Int.reduceLT, Int.reduceLE, Int.reduceEq, Int.reduceToNat, Nat.reduceBEq, nat1, true_and]
    refine br_if (fun hx => ?_) (fun hx => absurd (by omega) hx)
    simp (disch := first | omega | (simp only [length_take, length_drop, length_append, map_cons, map_nil, length_map, length_cons, length_nil, length_set, length_replicate]; omega) | (simp only [length_cons, length_nil, Nat.zero_add, Nat.reduceAdd])) only [go_sem, ↓reduceIte, Nat.reduceAdd, Int.reduceNeg, Int.reduceAdd, Int.reduceSub, Int.reduceMul, Int.reduceLT, Int.reduceLE, Int.reduceEq, Int.reduceToNat, Nat.reduceBEq, nat1, hix]
    refine jn_eq [.sc (.bool (!T))] ?_ ?_
    · rw [hp1]
      clear hp1 hst hno hpe hixp
      repeat' (first | (with_reducible first | refine jn_in ?_ | refine cl_ok (by assumption) rfl ?_ | refine cl_okP (by assumption) rfl ?_ | refine br_if (fun hbr => ?_) fun hbr => ?_ | refine br_ifn (fun hbr => ?_) fun hbr => ?_ | refine br_nb (fun hbr => ?_) fun hbr => ?_ | refine br_b (fun hbr => ?_) fun hbr => ?_) | simp (disch := first | omega | (simp only [length_take, length_drop, length_append, map_cons, map_nil, length_map, length_cons, length_nil, length_set, length_replicate]; omega) | (simp only [length_cons, length_nil, Nat.zero_add, Nat.reduceAdd])) only [go_sem, ↓reduceIte, Nat.reduceAdd, Int.reduceNeg, Int.reduceAdd, Int.reduceSub, Int.reduceMul, Int.reduceLT, Int.reduceLE, Int.reduceEq, Int.reduceToNat, Nat.reduceBEq, nat1, true_and])
      all_goals first
        | omega
        | (refine bb ?_; simp [*]; done)
        | (refine bb ?_; simp_all; done)
        | (refine bb ?_; grind)
        | skip
    simp only [u_spec_IsStore_j1]
    clear hp1
    cases T
    · have hno' := hno rfl
      repeat' (first | (with_reducible first | refine jn_in ?_ | refine cl_ok (by assumption) rfl ?_ | refine cl_okP (by assumption) rfl ?_ | refine br_if (fun hbr => ?_) fun hbr => ?_ | refine br_ifn (fun hbr => ?_) fun hbr => ?_ | refine br_nb (fun hbr => ?_) fun hbr => ?_ | refine br_b (fun hbr => ?_) fun hbr => ?_) | simp (disch := first | omega | (simp only [length_take, length_drop, length_append, map_cons, map_nil, length_map, length_cons, length_nil, length_set, length_replicate]; omega) | (simp only [length_cons, length_nil, Nat.zero_add, Nat.reduceAdd])) only [go_sem, ↓reduceIte, Nat.reduceAdd, Int.reduceNeg, Int.reduceAdd, Int.reduceSub, Int.reduceMul, Int.reduceLT, Int.reduceLE, Int.reduceEq, Int.reduceToNat, Nat.reduceBEq, nat1, true_and])
      all_goals first | omega | exact ret_b (by rw [hno']; rfl) | skip
    rw [Bool.true_and] at hst hno
    simp (disch := first | omega | (simp only [length_take, length_drop, length_append, map_cons, map_nil, length_map, length_cons, length_nil, length_set, length_replicate]; omega) | (simp only [length_cons, length_nil, Nat.zero_add, Nat.reduceAdd])) only [go_sem, ↓reduceIte, Nat.reduceAdd, Int.reduceNeg, Int.reduceAdd, Int.reduceSub, Int.reduceMul, Int.reduceLT, Int.reduceLE, Int.reduceEq, Int.reduceToNat, Nat.reduceBEq, nat1, true_and]
    refine jn_eq [.sc (.bool (!T2))] ?_ ?_
    · cases u
      · have hv : T2 = (decide (e = 0) && (decide (st = 0) && decide (c = 0))) := by rw [hpe]; simp
        clear hpe
        rw [hv]
        clear hv hst hno
        repeat' (first | (with_reducible first | refine jn_in ?_ | refine cl_ok (by assumption) rfl ?_ | refine cl_okP (by assumption) rfl ?_ | refine br_if (fun hbr => ?_) fun hbr => ?_ | refine br_ifn (fun hbr => ?_) fun hbr => ?_ | refine br_nb (fun hbr => ?_) fun hbr => ?_ | refine br_b (fun hbr => ?_) fun hbr => ?_) | simp (disch := first | omega | (simp only [length_take, length_drop, length_append, map_cons, map_nil, length_map, length_cons, length_nil, length_set, length_replicate]; omega) | (simp only [length_cons, length_nil, Nat.zero_add, Nat.reduceAdd])) only [go_sem, ↓reduceIte, Nat.reduceAdd, Int.reduceNeg, Int.reduceAdd, Int.reduceSub, Int.reduceMul, Int.reduceLT, Int.reduceLE, Int.reduceEq, Int.reduceToNat, Nat.reduceBEq, nat1, true_and])
        all_goals first
          | omega
          | (refine bb ?_; simp [*]; done)
          | (refine bb ?_; grind)
          | skip
      · by_cases hp : 0 ≤ e ∧ e ≤ (E.length : Int) - 1
        · rw [decide_eq_true hp] at g5
          have hq := hixp hp.1 (by omega)
          have hv : T2 = (usp && (!decide (st = 2) || decide (e = 0))) := by
            rw [hpe, decide_eq_true hp.1, decide_eq_true (show e < (E.length : Int) by omega)]; simp
          clear hpe
          rw [hv]
          clear hv hst hno hixp
          cases usp
          · repeat' (first | (with_reducible first | refine jn_in ?_ | refine cl_ok (by assumption) rfl ?_ | refine cl_okP (by assumption) rfl ?_ | refine br_if (fun hbr => ?_) fun hbr => ?_ | refine br_ifn (fun hbr => ?_) fun hbr => ?_ | refine br_nb (fun hbr => ?_) fun hbr => ?_ | refine br_b (fun hbr => ?_) fun hbr => ?_) | simp (disch := first | omega | (simp only [length_take, length_drop, length_append, map_cons, map_nil, length_map, length_cons, length_nil, length_set, length_replicate]; omega) | (simp only [length_cons, length_nil, Nat.zero_add, Nat.reduceAdd])) only [go_sem, ↓reduceIte, Nat.reduceAdd, Int.reduceNeg, Int.reduceAdd, Int.reduceSub, Int.reduceMul, Int.reduceLT, Int.reduceLE, Int.reduceEq, Int.reduceToNat, Nat.reduceBEq, nat1, hq])
            all_goals first | omega | exact bb rfl | (refine bb ?_; simp; done) | skip
          · repeat' (first | (with_reducible first | refine jn_in ?_ | refine cl_ok (by assumption) rfl ?_ | refine cl_okP (by assumption) rfl ?_ | refine br_if (fun hbr => ?_) fun hbr => ?_ | refine br_ifn (fun hbr => ?_) fun hbr => ?_ | refine br_nb (fun hbr => ?_) fun hbr => ?_ | refine br_b (fun hbr => ?_) fun hbr => ?_) | simp (disch := first | omega | (simp only [length_take, length_drop, length_append, map_cons, map_nil, length_map, length_cons, length_nil, length_set, length_replicate]; omega) | (simp only [length_cons, length_nil, Nat.zero_add, Nat.reduceAdd])) only [go_sem, ↓reduceIte, Nat.reduceAdd, Int.reduceNeg, Int.reduceAdd, Int.reduceSub, Int.reduceMul, Int.reduceLT, Int.reduceLE, Int.reduceEq, Int.reduceToNat, Nat.reduceBEq, nat1, hq])
            all_goals first
              | omega
              | (refine bb ?_; simp [*]; done)
              | (refine bb ?_; grind)
              | skip
        · rw [decide_eq_false hp] at g5
          have hv : T2 = false := by
            rw [hpe, ← Bool.and_assoc (decide (0 ≤ e)), ← Bool.decide_and, decide_eq_false (show ¬ (0 ≤ e ∧ e < (E.length : Int)) by omega)]; rfl
          clear hpe
          rw [hv]
          clear hv hst hno
          repeat' (first | (with_reducible first | refine jn_in ?_ | refine cl_ok (by assumption) rfl ?_ | refine cl_okP (by assumption) rfl ?_ | refine br_if (fun hbr => ?_) fun hbr => ?_ | refine br_ifn (fun hbr => ?_) fun hbr => ?_ | refine br_nb (fun hbr => ?_) fun hbr => ?_ | refine br_b (fun hbr => ?_) fun hbr => ?_) | simp (disch := first | omega | (simp only [length_take, length_drop, length_append, map_cons, map_nil, length_map, length_cons, length_nil, length_set, length_replicate]; omega) | (simp only [length_cons, length_nil, Nat.zero_add, Nat.reduceAdd])) only [go_sem, ↓reduceIte, Nat.reduceAdd, Int.reduceNeg, Int.reduceAdd, Int.reduceSub, Int.reduceMul, Int.reduceLT, Int.reduceLE, Int.reduceEq, Int.reduceToNat, Nat.reduceBEq, nat1, true_and])
          all_goals first | omega | exact bb rfl | (refine bb ?_; simp; done) | skip
    simp only [u_spec_IsStore_j0]
    cases T2
    · have hno' := hno rfl
      repeat' (first | (with_reducible first | refine jn_in ?_ | refine cl_ok (by assumption) rfl ?_ | refine cl_okP (by assumption) rfl ?_ | refine br_if (fun hbr => ?_) fun hbr => ?_ | refine br_ifn (fun hbr => ?_) fun hbr => ?_ | refine br_nb (fun hbr => ?_) fun hbr => ?_ | refine br_b (fun hbr => ?_) fun hbr => ?_) | simp (disch := first | omega | (simp only [length_take, length_drop, length_append, map_cons, map_nil, length_map, length_cons, length_nil, length_set, length_replicate]; omega) | (simp only [length_cons, length_nil, Nat.zero_add, Nat.reduceAdd])) only [go_sem, ↓reduceIte, Nat.reduceAdd, Int.reduceNeg, Int.reduceAdd, Int.reduceSub, Int.reduceMul, Int.reduceLT, Int.reduceLE, Int.reduceEq, Int.reduceToNat, Nat.reduceBEq, nat1, true_and])
      all_goals first | omega | exact ret_b (by rw [hno']; rfl) | skip
    · have hst' := hst rfl
      repeat' (first | (with_reducible first | refine jn_in ?_ | refine cl_ok (by assumption) rfl ?_ | refine cl_okP (by assumption) rfl ?_ | refine br_if (fun hbr => ?_) fun hbr => ?_ | refine br_ifn (fun hbr => ?_) fun hbr => ?_ | refine br_nb (fun hbr => ?_) fun hbr => ?_ | refine br_b (fun hbr => ?_) fun hbr => ?_) | simp (disch := first | omega | (simp only [length_take, length_drop, length_append, map_cons, map_nil, length_map, length_cons, length_nil, length_set, length_replicate]; omega) | (simp only [length_cons, length_nil, Nat.zero_add, Nat.reduceAdd])) only [go_sem, ↓reduceIte, Nat.reduceAdd, Int.reduceNeg, Int.reduceAdd, Int.reduceSub, Int.reduceMul, Int.reduceLT, Int.reduceLE, Int.reduceEq, Int.reduceToNat, Nat.reduceBEq, nat1, true_and])
      all_goals first | omega | exact ⟨i + 1, rfl, ⟨by omega, hst'⟩, by omega⟩ | skip
  obtain rfl : i = P.length := by omega
  rw [ha2, Bool.true_and]
  repeat' (first | (with_reducible first | refine jn_in ?_ | refine cl_ok (by assumption) rfl ?_ | refine cl_okP (by assumption) rfl ?_ | refine br_if (fun hbr => ?_) fun hbr => ?_ | refine br_ifn (fun hbr => ?_) fun hbr => ?_ | refine br_nb (fun hbr => ?_) fun hbr => ?_ | refine br_b (fun hbr => ?_) fun hbr => ?_) | simp (disch := first | omega | (simp only [length_take, length_drop, length_append, map_cons, map_nil, length_map, length_cons, length_nil, length_set, length_replicate]; omega) | (simp only [length_cons, length_nil, Nat.zero_add, Nat.reduceAdd])) only [go_sem, ↓reduceIte, Nat.reduceAdd, Int.reduceNeg, Int.reduceAdd, Int.reduceSub, Int.reduceMul, Int.reduceLT, Int.reduceLE, Int.reduceEq, Int.reduceToNat, Nat.reduceBEq, nat1, true_and])
  all_goals first | omega | (refine ret_b ?_; rw [Bool.eq_iff_iff]; simp; done) | (refine ret_b ?_; rw [Bool.eq_iff_iff]; simp; omega) | skip
end Go.Proofs.Ytkhibgknpcgneaa

namespace Go.Proofs.Ytkhibgknpcgneaa
open Go.RowKit
set_option maxRecDepth 100000
set_option maxHeartbeats 8000000 in
theorem lawIsStore_m (a0 : Sto) (ok0 : OkSto a0) :
    Meets Try.prog 3 [(true, encStoL a0)] [(false, [.sc (.bool true)], true)] := by
  have hz0 := szSto_m a0 ((1048576 : Int)) ok0 (by omega) (by omega)
  by_cases hc0 : ((wtSto a0 : Nat) : Int) ≤ (1048576 : Int)
  rotate_left
  · rw [szF_gt (by omega)] at hz0
    obtain ⟨E, P⟩ := a0
    simp only [encStoL, encEnvsL, encProsL, List.cons_append, List.nil_append] at hz0 ⊢
    refine meets_upf Try.func3 u_laws_FnExactIsStore_g rfl ?_; simp only [u_laws_FnExactIsStore_u]
    repeat' (first | (with_reducible first | refine jn_in ?_ | refine cl_ok (by assumption) rfl ?_ | refine cl_okP (by assumption) rfl ?_ | refine br_if (fun hbr => ?_) fun hbr => ?_ | refine br_ifn (fun hbr => ?_) fun hbr => ?_ | refine br_nb (fun hbr => ?_) fun hbr => ?_ | refine br_b (fun hbr => ?_) fun hbr => ?_) | simp (disch := first | omega | (simp only [List.length_take, List.length_drop, List.length_append, List.map_cons, List.map_nil, List.length_map, List.length_cons, List.length_nil, List.length_set, List.length_replicate]; omega) | (simp only [List.length_cons, List.length_nil, Nat.zero_add, Nat.reduceAdd])) only [go_sem, ↓reduceIte, Nat.reduceAdd, Int.reduceNeg, Int.reduceAdd, Int.reduceSub, Int.reduceMul, Int.reduceLT, Int.reduceLE, Int.reduceEq, Int.reduceToNat, Nat.reduceBEq, eq_self])
    all_goals first | rfl | omega
  rw [szF_le hc0] at hz0
  have hd0 : decide ((1048576 : Int) - ((wtSto a0 : Nat) : Int) < 0) = false := decide_eq_false (by omega)
  have wa0 : wtSto a0 ≤ 1048576 := by omega
  have ht0 := toSto_m a0 wa0
  have hq0 := eqSto_m a0 (by omega)
  have hwt : wtSto a0 = wtEnvs a0.envs + wtPros a0.promises := rfl
  have hb : BdS a0.envs a0.promises := by
    rw [hwt] at wa0
    unfold wtEnvs wtPros at wa0
    exact ⟨by omega, by omega, fun x hx => by have := sumBy_mem wtEnv hx; omega, fun x hx => by have := sumBy_mem wtPro hx; omega⟩
  have h1 := sSto_m _ _ hb
  have h2 := iSto_m _ _ hb
  clear hwt hb
  generalize wtSto a0 = W at *
  obtain ⟨E, P⟩ := a0
  simp only at h1 h2
  generalize stB E P = R at *
  simp only [encSto, encStoL, encEnvsL, encProsL, encS2, encEnvs, encPros, List.cons_append, List.nil_append] at hz0 ht0 hq0 h1 h2 ⊢
  refine meets_upf Try.func3 u_laws_FnExactIsStore_g rfl ?_; simp only [u_laws_FnExactIsStore_u]
  repeat' (first | (with_reducible refine cl_ok (by assumption) rfl ?_) | (with_reducible refine cl_okP (by assumption) rfl ?_) | (refine mk_ok (by assumption) ?_ ?_; (· first | exact ⟨⟨_, rfl, rfl⟩, ⟨_, rfl, rfl⟩, trivial⟩ | exact ⟨⟨_, rfl, rfl⟩, ⟨_, rfl, rfl⟩, ⟨_, rfl, rfl⟩, trivial⟩ | exact trivial | exact ⟨⟨_, rfl, rfl⟩, trivial⟩)) | simp (disch := first | omega | (simp only [List.length_take, List.length_drop, List.length_append, List.map_cons, List.map_nil, List.length_map, List.length_cons, List.length_nil, List.length_set, List.length_replicate]; omega) | (simp only [List.length_cons, List.length_nil, Nat.zero_add, Nat.reduceAdd])) only [go_sem, ↓reduceIte, Nat.reduceAdd, Int.reduceNeg, Int.reduceAdd, Int.reduceSub, Int.reduceMul, Int.reduceLT, Int.reduceLE, Int.reduceEq, Int.reduceToNat, Nat.reduceBEq, hd0, eq_self])
  all_goals first | rfl | omega
end Go.Proofs.Ytkhibgknpcgneaa

namespace Go.Proofs.Ytkhibgknpcgneaa.fnExactIsStore
open Go.ChangeShapes Go.WideShapes Go.ChangeAt Go.RowKit
open Go.ChangeMaps (open_string shut_string)
theorem own : ownKnob Try.prog.godebug = none := by kernel_rfl
theorem laidOut : laidOutB Try.prog = true := by kernel_rfl
set_option maxRecDepth 100000 in
set_option maxHeartbeats 2000000 in
theorem walk {H : Type} (enc : TypeId × Value → H) (v0 : Value) (d0 : DataW H) (p0 : List MemPlace) (base : Nat) (w : World)
    (ok0 : Value.okWide Try.prog w .any base 25 v0) (h0 : DataW.Trod enc Try.prog w 0 (fun _ => true) true 25 v0 d0 p0)
    (sz : (DataW.weightsEach Try.prog [25] [d0]).all (· ≤ reachBytes) = true) :
    Calls Try.prog 3 #[v0] w fun e w' => e = .returned (.bool true) ∧ Below w.heap.size w w' := by
  obtain ⟨a0, r0, i0⟩ := argD_st (base := base) opD_Sto Try.underlying25 h0 ok0
  exact run_law (lawIsStore_m a0 i0) (ArgsR.cons r0 ArgsR.nil)
set_option maxRecDepth 100000 in
theorem lifted (os : Os) (started : os.Started) (H : Type) (enc : TypeId × Value → H) :
    ReturnsInHanded {} Try.checked os 3 .any (Rows.fnExactIsStoreSpec.pre6 enc Try.prog Try.f3 Rows.fnExactIsStoreRow.domain false) (Rows.fnExactIsStoreSpec.post enc Try.prog Try.f3 false true false false) := by
  refine returnsInHanded_of_change_sized (C := Try.checked) own started (by kernel_rfl) Try.func3
    (ChangeSpec.witness6 (enc := enc) (C := Try.checked) false ⟨#[], #[.agg #[.slice none 0 0, .slice none 0 0]], []⟩ 8 (by kernel_rfl) (by kernel_rfl) (by kernel_rfl) (by kernel_rfl)) ?_
  intro W base args ds gs before hval0 hW hcnd0 hsz0 hholds
  have hval : ∀ (j : Nat) t v, Try.f3.params[j]? = some t → args[j]? = some v → Value.okWide Try.prog W .any base t v := hval0
  have hsz : (DataW.weightsEach Try.prog (Try.f3.params.toList ++ Rows.fnExactIsStoreSpec.plain.varTypes Try.prog) (ds ++ gs)).all (· ≤ reachBytes) = true := hsz0
  have hW' := hW
  obtain ⟨p, q, hA0, hV, rfl, hfz, hnd⟩ := hW
  have hA : DataW.TrodAll enc Try.prog W 0 (fun _ => true) true Try.f3.params.toList args.toList ds p := hA0
  rw [Try.params3] at hA hval hsz
  obtain ⟨v0, vs0, d0, ds0, p0, q0, hargs, rfl, rfl, h0, r0⟩ := trodAll_cons hA
  obtain ⟨rfl, rfl, rfl⟩ := trodAll_nil r0
  obtain rfl : args = #[v0] := by cases args; simp_all
  obtain ⟨rfl, rfl⟩ := trodVars_none hV
  have lt0 : ∀ x ∈ p0, x.block < W.heap.size := by obtain ⟨m, hm⟩ := h0; exact DataW.trod_lt m _ _ _ hm
  refine (walk enc v0 d0 p0 base W (hval 0 25 v0 rfl rfl) h0 hsz).mono fun e W' ⟨he, bel⟩ => ?_
  subst he
  exact ⟨_, rfl, _, _, _, [], _, [], hW', trodAll_mk1 (shut_bool Try.underlying4 _), (trodAll_cons_mk (Below.trod laidOut (by kernel_rfl) (of_decide_eq_true (by kernel_rfl)) h0 bel lt0) trodAll_mk0), rfl, bel.frame _, fun h => by cases h⟩
theorem over : Rows.fnExactIsStoreRow.holds Try.pinned (OpenSpec.ofChange Rows.fnExactIsStoreSpec) :=
  OpenClaim.holds_of_wide 3 Try.f3 rfl rfl rfl rfl rfl rfl rfl ⟨rfl, rfl, rfl, rfl, rfl⟩ rfl rfl rfl rfl rfl (by kernel_rfl) Try.func3 (by kernel_rfl)
    (of_decide_eq_true (by kernel_rfl)) (by unfold Func.isWrapper; first | (rw [if_pos (by decide +kernel)]; kernel_rfl) | (rw [if_neg (by decide +kernel)]; exact ⟨rfl, rfl⟩))
    (fun os started H enc _ => lifted os started H enc)
theorem proved : Rows.FnExactIsStoreSaid := over
end Go.Proofs.Ytkhibgknpcgneaa.fnExactIsStore

